/- Worlds in which some blocks are hidden: what lies apart from them stands when they are written. -/
import Derived.Test.YtcmepnninlocmaaDoorFtL
namespace Go.Proofs.YtcmepnninlocmaaDoor
open Go.RowKit
def blank : Obj := .cells #[] 0 (0, 0)
/-- A world without one block. -/
def hide (w : World) : Option Nat → World
  | none => w
  | some g => { w with heap := w.heap.setIfInBounds g blank }
/-- Whatever is no blank block stands. -/
def Kp (w w' : World) : Prop := ∀ (b : Nat) (o : Obj), w.heap[b]? = some o → o ≠ blank → w'.heap[b]? = some o
theorem Kp.refl (w : World) : Kp w w := fun _ _ h _ => h
theorem Kp.trans {a b c : World} (h : Kp a b) (k : Kp b c) : Kp a c := fun i o hi hne => k i o (h i o hi hne) hne
theorem Kp.below {w w' : World} {B : Nat} (hb : Below B w w') (hB : w.heap.size ≤ B) : Kp w w' := fun b o h _ => (hb.block b (by have := (Array.getElem?_eq_some_iff.1 h).1; omega)).trans h
theorem Kp.blk {w w' : World} (h : Kp w w') {g : Nat} {t : TypeId} {cs : Array Value} (hb : Blk w g t cs) (h0 : cs.size ≠ 0) : Blk w' g t cs := h g _ hb (fun e => by
  unfold blank at e
  injection e with e
  rw [e] at h0
  simp at h0)
theorem Kp.cell {w w' : World} (h : Kp w w') {p : Addr} {v : Value} (hc : w.cell? p = some v) : w'.cell? p = some v := by
  have hlt := World.block_lt_of_cell? w p hc
  have hg : w.heap[p.block]? = some w.heap[p.block] := Array.getElem?_eq_getElem hlt
  have hne : w.heap[p.block] ≠ blank := fun e => by
    rw [e] at hg
    simp [World.cell?, hg, blank] at hc
  have h2 := h _ _ hg hne
  rw [World.cell?_of_block (h2.trans hg.symm)]
  exact hc
theorem Kp.src {w w' : World} (h : Kp w w') {A : Option Addr} {us : List Value} (hs : Src w A us) : Src w' A us := fun h0 => by
  obtain ⟨ad, e, hc⟩ := hs h0
  exact ⟨ad, e, fun j u hu => h.cell (hc j u hu)⟩
mutual
theorem FtAt.kp {w w' : World} (hk : Kp w w') : ∀ (F : Ft) (v : Value), FtAt w F v → FtAt w' F v
  | .code c, v, h => by
    unfold FtAt at h ⊢
    exact h
  | .placed e n, v, h => by
    unfold FtAt at h ⊢
    obtain ⟨g, u, h1, h2, h3, h4⟩ := h
    exact ⟨g, u, h1, hk.blk h2 (by simp), h3, FtAt.kp hk e u h4⟩
  | .worded e s, v, h => by
    unfold FtAt at h ⊢
    obtain ⟨g, u, h1, h2, h4⟩ := h
    exact ⟨g, u, h1, hk.blk h2 (by simp), FtAt.kp hk e u h4⟩
  | .row es, v, h => by
    unfold FtAt at h ⊢
    obtain ⟨g, A, c, us, h1, h2, h3, h4, h5, h6⟩ := h
    exact ⟨g, A, c, us, h1, hk.blk h2 (by simp), h3, h4, hk.src h5, FtsAt.kp hk es us h6⟩
theorem FtsAt.kp {w w' : World} (hk : Kp w w') : ∀ (es : List Ft) (us : List Value), FtsAt w es us → FtsAt w' es us
  | [], us, h => by
    unfold FtsAt at h ⊢
    exact h
  | e :: es, us, h => by
    unfold FtsAt at h ⊢
    obtain ⟨u, us', h1, h2, h3⟩ := h
    exact ⟨u, us', h1, FtAt.kp hk e u h2, FtsAt.kp hk es us' h3⟩
end
theorem hide_at (w : World) (o : Option Nat) (b : Nat) : (hide w o).heap[b]? = if o = some b ∧ b < w.heap.size then some blank else w.heap[b]? := by
  cases o with
  | none => simp [hide]
  | some g =>
    show (w.heap.setIfInBounds g blank)[b]? = _
    rw [Array.getElem?_setIfInBounds]
    by_cases hg : g = b
    · subst hg
      by_cases hb : g < w.heap.size
      · simp [hb]
      · rw [if_pos rfl, if_neg hb, if_neg (by simp [hb]), Array.getElem?_eq_none (by omega)]
    · rw [if_neg hg, if_neg (fun h => hg (Option.some.inj h.1))]
theorem hide_size (w : World) (o : Option Nat) : (hide w o).heap.size = w.heap.size := by
  cases o with
  | none => rfl
  | some g => show (w.heap.setIfInBounds g blank).size = _; simp
theorem Kp.of1 (w : World) (o : Option Nat) : Kp (hide w o) w := fun b x h hne => by
  rw [hide_at] at h
  split at h
  · exact absurd (Option.some.inj h).symm hne
  · exact h
/-- A world without two blocks. -/
def hide2 (w : World) (o p : Option Nat) : World := hide (hide w o) p
theorem Kp.of2 (w : World) (o p : Option Nat) : Kp (hide2 w o p) w := (Kp.of1 _ p).trans (Kp.of1 w o)
/-- The hidden blocks are written, or laid anew. -/
theorem Kp.grown {w w' : World} {row o p o' p' : Option Nat} (hg : w.grownBy w' row) (hr : row = o ∨ row = p ∨ row = none) (ho : o' = o ∨ ∃ k, o' = some k ∧ w.heap.size ≤ k) (hp : p' = p ∨ ∃ k, p' = some k ∧ w.heap.size ≤ k) : Kp (hide2 w o p) (hide2 w' o' p') := by
  intro b x h hne
  unfold hide2 at h ⊢
  rw [hide_at, hide_size] at h
  split at h
  · exact absurd (Option.some.inj h).symm hne
  · rename_i h1
    rw [hide_at] at h
    split at h
    · exact absurd (Option.some.inj h).symm hne
    · rename_i h2
      have hlt : b < w.heap.size := (Array.getElem?_eq_some_iff.1 h).1
      have hop : o ≠ some b := fun e => h2 ⟨e, hlt⟩
      have hpp : p ≠ some b := fun e => h1 ⟨e, hlt⟩
      have hrow : some b ≠ row := by
        rcases hr with rfl | rfl | rfl
        · exact fun e => hop e.symm
        · exact fun e => hpp e.symm
        · intro e; cases e
      have ho' : o' ≠ some b := by
        rcases ho with rfl | ⟨k, rfl, hk⟩
        · exact hop
        · intro e; injection e with e; omega
      have hp' : p' ≠ some b := by
        rcases hp with rfl | ⟨k, rfl, hk⟩
        · exact hpp
        · intro e; injection e with e; omega
      rw [hide_at, if_neg (fun h => hp' h.1), hide_at, if_neg (fun h => ho' h.1)]
      exact (hg.block b hlt hrow).trans h
theorem grown_of_below {w w' : World} (hb : Below w.heap.size w w') : w.grownBy w' none := ⟨hb.os, hb.tape, hb.output, hb.size, fun k hk _ => hb.block k hk⟩
theorem Kp.belowH {w w' : World} (o p : Option Nat) (hb : Below w.heap.size w w') : Kp (hide2 w o p) (hide2 w' o p) := Kp.grown (grown_of_below hb) (.inr (.inr rfl)) (.inl rfl) (.inl rfl)
/-- A block that is neither of the two. -/
theorem blk_hide2 {w : World} {o p : Option Nat} {g : Nat} {t : TypeId} {cs : Array Value} (h : Blk w g t cs) (ho : o ≠ some g) (hp : p ≠ some g) : Blk (hide2 w o p) g t cs := by
  unfold Blk hide2
  rw [hide_at, if_neg (fun h => hp h.1), hide_at, if_neg (fun h => ho h.1)]
  exact h
theorem src_hide2 {w : World} {o p : Option Nat} {k : Nat} {us : List Value} (h : Src w (some ⟨k, 0, none⟩) us) (ho : o ≠ some k) (hp : p ≠ some k) : Src (hide2 w o p) (some ⟨k, 0, none⟩) us := fun h0 => by
  obtain ⟨ad, e, hc⟩ := h h0
  injection e with e
  subst e
  refine ⟨_, rfl, fun j u hu => ?_⟩
  have h1 := hc j u hu
  have hb : ((⟨k, 0, none⟩ : Addr).add j).block = k := block_add _ _
  rw [World.cell?_of_block (w := w) (w' := hide2 w o p) (by
    rw [hb]
    unfold hide2
    rw [hide_at, if_neg (fun h => hp h.1), hide_at, if_neg (fun h => ho h.1)])]
  exact h1
/-- A fault, or none. -/
def FtO (w : World) : Option Ft → Value → Prop
  | none, v => v = .nilIface
  | some F, v => FtAt w F v
def txtO : Option Ft → List UInt8
  | none => []
  | some F => F.txt
theorem FtO.kp {w w' : World} (hk : Kp w w') {F : Option Ft} {v : Value} (h : FtO w F v) : FtO w' F v := by
  cases F with
  | none => exact h
  | some F => exact FtAt.kp hk F v h
/-- A pile of faults. -/
def FtOs (w : World) (fs : List (Option Ft)) (vs : List Value) : Prop := fs.length = vs.length ∧ ∀ (i : Nat) (F : Option Ft) (v : Value), fs[i]? = some F → vs[i]? = some v → FtO w F v
theorem FtOs.kp {w w' : World} (hk : Kp w w') {fs : List (Option Ft)} {vs : List Value} (h : FtOs w fs vs) : FtOs w' fs vs := ⟨h.1, fun i F v h1 h2 => (h.2 i F v h1 h2).kp hk⟩
def pot (fs : List (Option Ft)) : Nat := (fs.map fun (F : Option Ft) => (txtO F).length + 2).sum
end Go.Proofs.YtcmepnninlocmaaDoor
