/- strings.Builder's copyCheck, WriteString and String, walked over this dump, with a word on what each keeps (for DiffTells). After the shelf's own walks. -/
import Derived.Test.YtpjafocgabhieaaProg
import Derived.Test.YtpjafocgabhieaaBytesL
import Derived.Shelf.Strings.BuilderK
import Derived.Laws.Externs
import Derived.Test.YtpjafocgabhieaaRngL
namespace Go.Proofs.Ytpjafocgabhieaa
open Go.RowKit
/-- All blocks but b, and but cells of type t, lie as they lay. -/
def KeptT (t : TypeId) (b : Nat) (w w' : World) : Prop := ∀ (k : Nat) (o : Obj), w.heap[k]? = some o → k ≠ b → (∀ cs fr, o ≠ .cells cs t fr) → w'.heap[k]? = some o
theorem KeptT.refl (t : TypeId) (b : Nat) (w : World) : KeptT t b w w := fun _ _ h _ _ => h
theorem KeptT.trans {t : TypeId} {b : Nat} {x y z : World} (h : KeptT t b x y) (k : KeptT t b y z) : KeptT t b x z := fun i o ho hi ht => k i o (h i o ho hi ht) hi ht
theorem KeptT.set (t : TypeId) (b i : Nat) (w : World) (u : Value) : KeptT t b w (w.setCell ⟨b, i, none⟩ u) := fun k _ ho hk _ => (Below.heap_setCell w ⟨b, i, none⟩ u k (fun e => hk e)).trans ho
theorem KeptT.of_below {t : TypeId} {b : Nat} {w w' : World} (h : Below w.heap.size w w') : KeptT t b w w' := fun k _ ho _ _ => (h.block k (Array.getElem?_eq_some_iff.1 ho).1).trans ho
theorem KeptT.of_own {t : TypeId} {b B n : Nat} {v : Value} {xs : List Value} {w w' : World} (h : w.ownsRow B t 1 v n xs) (hg : w.grownBy w' v.ownBlock) : KeptT t b w w' := fun k o ho _ ht => by
  refine (hg.block k (Array.getElem?_eq_some_iff.1 ho).1 (fun e => ?_)).trans ho
  rcases h.2 with ⟨rfl, _⟩ | ⟨g, cap, cur, rfl, _, hgg, _⟩
  · simp [Value.ownBlock] at e
  · obtain rfl : k = g := by simpa [Value.ownBlock] using e
    rw [hgg] at ho
    cases ho
    exact ht _ _ rfl
theorem KeptT.blk {t t' : TypeId} {b g : Nat} {cs : Array Value} {w w' : World} (h : KeptT t b w w') (hB : Blk w g t' cs) (hne : g ≠ b) (ht : t' ≠ t) : Blk w' g t' cs := h g _ hB hne (fun cs' fr e => by injection e with _ e; exact ht e)
theorem KeptT.others {t : TypeId} {b : Nat} {t' : TypeId} {cs : Array Value} {w w' : World} (h : KeptT t b w w') (hB : Blk w b t' cs) (hs : w.heap.size ≤ w'.heap.size) : KeepsOthers w w' := ⟨hs, fun k o ho hc => h k o ho (fun e => by
  subst e
  unfold Blk at hB
  rw [hB] at ho
  cases ho
  cases hc) (fun cs' fr e => by
  subst e
  cases hc)⟩
set_option maxRecDepth 100000 in
theorem copyCheck_used (b : Nat) (w : World) (h0 : w.cell? ⟨b, 0, none⟩ = some (.pointer (some ⟨b, 0, none⟩))) : Calls Try.prog 63 #[.pointer (some ⟨b, 0, none⟩)] w fun e w' => e = .returned (.tuple #[]) ∧ w' = w := by
  obtain ⟨j, hj, hjs⟩ := Option.map_eq_some_iff.1 (show (Try.prog.info? 77).map (·.size) = some 2 from by kernel_rfl)
  go_enter Try.func63, Try.ntmps63
  go_wp2
  rw [Lib.run_neq_ptr_same w _ Try.underlying75 hj]
  go_wp2
  go_end0
  exact ⟨rfl, rfl⟩
set_option maxRecDepth 100000 in
theorem copyCheck_fresh (b : Nat) (w : World) (h0 : w.cell? ⟨b, 0, none⟩ = some (.pointer none)) (hsh : w.shape? b = some (77, 2)) (hfz : w.frozen? ⟨b, 0, none⟩ = false) :
    Calls Try.prog 63 #[.pointer (some ⟨b, 0, none⟩)] w fun e w' => e = .returned (.tuple #[]) ∧ w' = w.setCell ⟨b, 0, none⟩ (.pointer (some ⟨b, 0, none⟩)) := by
  obtain ⟨j, hj, hjs⟩ := Option.map_eq_some_iff.1 (show (Try.prog.info? 77).map (·.size) = some 2 from by kernel_rfl)
  go_enter Try.func63, Try.ntmps63
  go_wp2
  rw [Lib.run_to_unsafe w ⟨b, 0, none⟩ Try.underlying75 Try.underlying106 hj (by rw [hjs]; decide) hsh (Nat.zero_lt_succ 1)]
  simp only [Result.andThen]
  rw [Oper.upon_value]
  go_wp2
  rw [run_callFunc_extern Try.func74 (by kernel_rfl) (by kernel_rfl) (by kernel_rfl) (e := Extern.AbiNoEscape.same) (by kernel_rfl)]
  rw [Lib.run_noEscape]
  simp only [Result.andThen]
  rw [Oper.upon_value]
  go_wp2
  rw [Lib.run_from_unsafe w ⟨b, 0, none⟩ Try.underlying106 Try.underlying75 hj hsh (by kernel_rfl)]
  simp only [Result.andThen]
  rw [Oper.upon_value]
  go_wp2
  go_end0
  exact ⟨rfl, rfl⟩
theorem copyCheck_any (B b : Nat) (bs : List Value) (w : World) (h : Lib.IsBuilder 77 5 B b bs w) :
    Calls Try.prog 63 #[.pointer (some ⟨b, 0, none⟩)] w fun e w' => e = .returned (.tuple #[]) ∧ (Lib.BuilderAt 77 5 B b (.pointer (some ⟨b, 0, none⟩)) bs w' ∧ Below B w w' ∧ KeptT 5 b w w') := by
  rcases h with h | h
  · refine (copyCheck_fresh b w h.cell0 h.shape h.frozen0).mono ?_
    rintro e w' ⟨rfl, rfl⟩
    exact ⟨rfl, h.used _, (Below.refl B w).setCell (p := ⟨b, 0, none⟩) h.1 _, KeptT.set _ _ _ _ _⟩
  · refine (copyCheck_used b w h.cell0).mono ?_
    rintro e w' ⟨rfl, rfl⟩
    exact ⟨rfl, h, Below.refl B _, KeptT.refl _ _ _⟩
set_option maxRecDepth 100000 in
set_option maxHeartbeats 1000000 in
theorem writeString_any (B b : Nat) (bs : List Value) (s : ByteArray) (w : World) (h : Lib.IsBuilder 77 5 B b bs w) (hn : bs.length + s.size ≤ 1000000000000) (hBw : B ≤ w.heap.size) :
    Calls Try.prog 42 #[.pointer (some ⟨b, 0, none⟩), .string s] w fun e w' => e = .returned (.tuple #[.int .i64 s.size, .nilIface]) ∧ (Lib.BuilderAt 77 5 B b (.pointer (some ⟨b, 0, none⟩)) (bs ++ Lib.strCells s) w' ∧ Below B w w' ∧ KeptT 5 b w w') := by
  obtain ⟨i0, hi, hz0, hz1, hz2⟩ := info_parts (show (Try.prog.info? 5).map (fun i => (i.zero, i.size, i.bytes)) = some (some (.int .u8 0), 1, 1) from by kernel_rfl)
  go_enter Try.func42, Try.ntmps42
  go_wp2_with fail
  refine (copyCheck_any B b bs _ h).mono ?_
  rintro e w1 ⟨rfl, h1, hb1, ht1⟩
  obtain ⟨hB, v, hbk, hown, hne⟩ := h1
  have c0 : w1.cell? ⟨b, 0, none⟩ = some (.pointer (some ⟨b, 0, none⟩)) := by rw [Lib.cell_of_heap hbk]; rfl
  have c1 : w1.cell? ⟨b, 1, none⟩ = some v := by rw [Lib.cell_of_heap hbk]; rfl
  go_wp2_with (at_builtin; refine Lib.wpList_append_own_string _ rfl _ _ 45 9 rfl B 5 i0 Try.underlying45 Try.underlying9 hi hz0 hz1 hz2 _ _ _ rfl hown s rfl ?c3 ?c4 ?c5 ?_)
  case c3 => unfold maxLen; omega
  case c4 => omega
  case c5 => have := hb1.size; omega
  intro v' w2 hown' hgrow _
  have hlt : b < w1.heap.size := by
    rcases Nat.lt_or_ge b w1.heap.size with h' | h'
    · exact h'
    · simp [Array.getElem?_eq_none h'] at hbk
  have hb2 : w2.heap[b]? = some (.cells #[.pointer (some ⟨b, 0, none⟩), v] 77 (0, 0)) := by
    rw [hgrow.block b hlt (fun e => hne e.symm)]
    exact hbk
  have d0 : w2.cell? ⟨b, 0, none⟩ = some (.pointer (some ⟨b, 0, none⟩)) := by rw [Lib.cell_of_heap hb2]; rfl
  have d1 : w2.cell? ⟨b, 1, none⟩ = some v := by rw [Lib.cell_of_heap hb2]; rfl
  have f1 : w2.frozen? ⟨b, 1, none⟩ = false := Lib.frozen_of_heap hb2 1
  obtain ⟨ao, n', cap, rfl⟩ : ∃ ao n' cap, v' = .slice ao n' cap := by
    rcases hown'.2 with ⟨hv, _⟩ | ⟨g, cap, cur, hv, _⟩
    · exact ⟨_, _, _, hv⟩
    · exact ⟨_, _, _, hv⟩
  go_wp2
  go_ret2
  refine ⟨rfl, ?_, ?_, (ht1.trans (KeptT.of_own hown hgrow)).trans (KeptT.set _ _ _ _ _)⟩
  · exact Lib.BuilderAt.put (T := 77) (e := 5) hB hb2 (bs' := bs ++ Lib.strCells s) (by simpa [Lib.strCells_length] using hown') (by decide)
  · exact (hb1.grown hgrow (by have := hb1.size; omega) (fun k hk => (hown.lt k hk).1)).setCell (p := ⟨b, 1, none⟩) hB _
attribute [local go_sem] Oper.semAt_some
theorem keeps_freeze (w : World) (p : Addr) (n : Nat) : KeepsOthers w (w.freeze p n) := by
  unfold World.freeze
  split
  · exact KeepsOthers.refl w
  · refine ⟨by simp, fun k o hk ho => ?_⟩
    simp only [Array.getElem?_modify]
    split
    · rename_i e
      subst e
      rw [hk]
      cases o <;> first | rfl | (cases ho)
    · exact hk
set_option maxRecDepth 100000 in
set_option maxHeartbeats 2000000 in
theorem string_keeps (B b : Nat) (p : Value) (l : List UInt8) (w : World) (h : Lib.BuilderAt 77 5 B b p (Lib.byteCells l) w) (h0 : l ≠ []) :
    Calls Try.prog 43 #[.pointer (some ⟨b, 0, none⟩)] w fun e w' => e = .returned (.string ⟨l.toArray⟩) ∧ KeepsOthers w w' ∧ Below B w w' := by
  obtain ⟨hB, v, hbk, hown, hne⟩ := h
  have hl0 : l.length ≠ 0 := by simpa using h0
  rw [Lib.byteCells_length] at hown
  obtain ⟨g, cap, cur, rfl, hbg, hg, hnc, hcm, hcs, htake⟩ : ∃ g cap cur, v = .slice (some ⟨g, 0, none⟩) l.length cap ∧ B ≤ g ∧ w.heap[g]? = some (.cells cur 5 (0, 0)) ∧ l.length ≤ cap ∧ cap ≤ maxLen ∧ cur.size = cap * 1 ∧ cur.toList.take (l.length * 1) = Lib.byteCells l := by
    rcases hown.2 with ⟨_, hz⟩ | ⟨g, cap, cur, hv, r⟩
    · exact absurd hz hl0
    · exact ⟨g, cap, cur, hv, r⟩
  have c1 : w.drew.cell? ⟨b, 1, none⟩ = some (.slice (some ⟨g, 0, none⟩) l.length cap) := by
    have : w.drew.heap[b]? = some (.cells #[p, .slice (some ⟨g, 0, none⟩) l.length cap] 77 (0, 0)) := hbk
    rw [Lib.cell_of_heap this]; rfl
  have hSD : (Builtin.unsafeSliceData_ #[45] 99 #[.slice (some ⟨g, 0, none⟩) l.length cap]).run Try.prog w.drew = .ok (.pointer (some ⟨g, 0, none⟩)) w.drew :=
    Lib.run_unsafeSliceData_row _ _ _ _ _ _ (by omega)
  have hUS : (Builtin.unsafeString_ #[99, 3] 9 #[.pointer (some ⟨g, 0, none⟩), .int .i64 l.length]).run Try.prog w.drew = .ok (.string ⟨l.toArray⟩) (w.drew.freeze ⟨g, 0, none⟩ l.length) := by
    refine Lib.run_unsafeString_row w.drew 99 3 9 5 Try.underlying99 (by kernel_rfl) g cur.size (by have hg' : w.drew.heap[g]? = some (.cells cur 5 (0, 0)) := hg; simp [World.shape?, hg']) l h0 (by omega) (by unfold maxLen at hcm; omega) ?_
    intro j x hx
    have := hown.cells (g := g) rfl j (.int .u8 x.toNat) (by simp [Lib.byteCells, hx])
    exact this
  have mixed : Try.prog.follows .mixedOrders = true := by kernel_rfl
  go_enter Try.func43, Try.ntmps43
  go_wp2
  go_region_o
  all_goals (go_wp2; go_ret; exact ⟨rfl, (KeepsOthers.drew w).trans (keeps_freeze _ _ _), Lib.below_freeze (Below.drew (Below.refl B w)) (p := ⟨g, 0, none⟩) hbg _⟩)
end Go.Proofs.Ytpjafocgabhieaa
