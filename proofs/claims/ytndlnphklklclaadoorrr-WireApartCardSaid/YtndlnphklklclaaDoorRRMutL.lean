/- A row of bytes that the call made out of a text, and turns: '[]byte(s)', 't[i] = x', 'string(t)'. -/
import Derived.Test.YtndlnphklklclaaDoorRRBlkL
namespace Go.Proofs.YtndlnphklklclaaDoorRR
open Go.RowKit

/-- Block b begins with the bytes l, none frozen. -/
def Bytes (w : World) (b : Nat) (l : List UInt8) : Prop := ∀ j u, l[j]? = some u → w.cell? ⟨b, j, none⟩ = some (bv u) ∧ w.frozen? ⟨b, j, none⟩ = false
theorem Bytes.set {w : World} {b : Nat} {l : List UInt8} (h : Bytes w b l) (i : Nat) (u : UInt8) : Bytes (w.setCell ⟨b, i, none⟩ (bv u)) b (l.set i u) := by
  intro j v hj
  rw [World.frozen?_setCell]
  by_cases he : i = j
  · subst he
    rw [List.getElem?_set_self'] at hj
    cases ho : l[i]? with
    | none => rw [ho] at hj; cases hj
    | some o =>
      rw [ho] at hj
      simp at hj
      subst hj
      obtain ⟨h1, h2⟩ := h i o ho
      exact ⟨World.cell?_setCell_same _ _ _ h1, h2⟩
  · rw [List.getElem?_set_ne he] at hj
    obtain ⟨h1, h2⟩ := h j v hj
    exact ⟨(World.cell?_setCell_other _ _ _ _ (fun e => he (by injection e))).trans h1, h2⟩
theorem Bytes.drewN {w : World} {b : Nat} {l : List UInt8} (h : Bytes w b l) (n : Nat) : Bytes (w.drewN n) b l := h
theorem Bytes.below {w w' : World} {b B : Nat} {l : List UInt8} (h : Bytes w b l) (hb : Below B w w') (hB : b < B) : Bytes w' b l := fun j u hj => by
  obtain ⟨h1, h2⟩ := h j u hj
  exact ⟨(hb.cell (p := ⟨b, j, none⟩) hB).trans h1, (hb.frozen (p := ⟨b, j, none⟩) hB).trans h2⟩

theorem bytes_of {P : Program} (W : World) (src dst e : TypeId) (s : ByteArray) (hs : P.underlying src = some .string) (hd : P.underlying dst = some (.slice e)) (he : P.underlying e = some (.int .u8)) :
    ∃ cap w2, (convert src dst (.string s)).run P W = .ok (.slice (some ⟨W.heap.size, 0, none⟩) s.size cap) w2 ∧ Bytes w2 W.heap.size s.data.toList ∧ Below W.heap.size W w2 ∧ W.heap.size < w2.heap.size ∧ s.size ≤ cap := by
  refine ⟨_, _, run_bytes_of_string W src dst e s hs hd he, ?_, (Below.refl _ _).drew.alloc (Nat.le_refl _) _, by simp, grownCap_ge _ _ _ _⟩
  intro j u hj
  have hj' : j < s.data.size := by
    rcases Nat.lt_or_ge j s.data.size with h | h
    · exact h
    · rw [List.getElem?_eq_none (by simpa using h)] at hj; cases hj
  have hu : s.data[j] = u := by
    rw [Array.getElem?_toList, Array.getElem?_eq_getElem hj'] at hj
    injection hj
  have hsz : (bytesRow s (grownCap W s.size 0 e)).size = s.data.size + (grownCap W s.size 0 e - s.size) := by simp [bytesRow]
  constructor
  · exact (World.cell?_alloc_mark W.drew _ _ _ j).trans (by rw [bytesRow_at s _ j hj', hu]; rfl)
  · have h := World.frozen?_alloc_mark W.drew (bytesRow s (grownCap W s.size 0 e)) e (bytesRow s (grownCap W s.size 0 e)).size ((bytesRow s (grownCap W s.size 0 e)).size + 1) j
    refine h.trans ?_
    rw [show decide ((bytesRow s (grownCap W s.size 0 e)).size ≤ j) = false from decide_eq_false (by omega)]
    rfl

theorem string_of {P : Program} {W : World} {src dst e : TypeId} {b : Nat} {l : List UInt8} (h : Bytes W b l) (cap : Nat) (hs : P.underlying src = some (.slice e)) (he : P.underlying e = some (.int .u8)) (hd : P.underlying dst = some .string) :
    (convert src dst (.slice (some ⟨b, 0, none⟩) l.length cap)).run P W = .ok (.string ⟨l.toArray⟩) W :=
  run_convert_bytes_back W src dst e _ cap l hs he hd fun j hj => by
    rw [show ((⟨b, 0, none⟩ : Addr).add j) = ⟨b, j, none⟩ from by unfold Addr.add; split <;> simp_all]
    exact (h j l[j] (List.getElem?_eq_getElem hj)).1

theorem xor_byte (a b : UInt8) : bits .xor .u8 (a.toNat : Int) (b.toNat : Int) = ((a ^^^ b).toNat : Int) := by
  rw [u8_xor_nat _ _ (UInt8.toNat_lt a) (UInt8.toNat_lt b), UInt8.toNat_xor]
end Go.Proofs.YtndlnphklklclaaDoorRR
