/- The document's faults (New, At, In, Join), walked: each tells some fault. -/
import Derived.Test.YtcmepnninlocmaaDoorBlkL
import Derived.Test.YtcmepnninlocmaaDoorSrcL
import Derived.Deep.Cut
import Derived.Deep.Slices
namespace Go.Proofs.YtcmepnninlocmaaDoor
open Go.RowKit
abbrev E5 := Int × Int × Int × ByteArray × Option Addr × Nat × Nat
def e5 (x : E5) : List Value := [.int .i64 x.1, .int .i64 x.2.1, .int .i64 x.2.2.1, .string x.2.2.2.1, .slice x.2.2.2.2.1 x.2.2.2.2.2.1 x.2.2.2.2.2.2]
/-- Some fault of the document's is told. -/
def RetE (e : Ending) : Prop := ∃ (kd c p : Int) (s : ByteArray) (A : Option Addr) (n cc : Nat), e = .returned (.agg #[.int .i64 kd, .int .i64 c, .int .i64 p, .string s, .slice A n cc])
theorem e5_len (l : List E5) : (l.flatMap e5).length = l.length * 5 := by
  induction l with
  | nil => rfl
  | cons x l ih => rw [List.flatMap_cons, List.length_append, ih, List.length_cons]; simp [e5]; omega
theorem e5_at (l : List E5) (k : Nat) (x : E5) (h : l[k]? = some x) (j : Nat) (u : Value) (hj : (e5 x)[j]? = some u) : (l.flatMap e5)[k * 5 + j]? = some u := by
  have hk : k < l.length := (List.getElem?_eq_some_iff.1 h).1
  have hs : l = l.take k ++ (x :: l.drop (k + 1)) := by
    have h2 : l[k] = x := (List.getElem?_eq_some_iff.1 h).2
    rw [← h2, List.getElem_cons_drop, List.take_append_drop]
  have hj5 : j < (e5 x).length := (List.getElem?_eq_some_iff.1 hj).1
  have hl : (List.flatMap e5 (l.take k)).length = k * 5 := by rw [e5_len, List.length_take]; omega
  conv => lhs; rw [hs]
  rw [List.flatMap_append, List.getElem?_append_right (by omega), hl, List.flatMap_cons, show k * 5 + j - k * 5 = j from by omega, List.getElem?_append_left hj5]
  exact hj
theorem e5_one (l : List E5) : ∀ u ∈ l.flatMap e5, u.oneCell' = true := by
  intro u hu
  obtain ⟨x, _, h⟩ := List.mem_flatMap.1 hu
  simp [e5] at h
  rcases h with rfl | rfl | rfl | rfl | rfl <;> rfl
set_option maxRecDepth 100000 in
theorem refNew_any (c : Int) (w : World) : Calls Tryd.prog 19 #[.int .i64 c] w fun e w' => RetE e ∧ Below w.heap.size w w' := by
  by_cases h0 : c = 0
  · subst h0
    go_enter Tryd.func19, Tryd.ntmps19
    go_wp2
    refine bodyPost_ret (v := .agg #[.int .i64 0, .int .i64 0, .int .i64 0, .string ⟨#[]⟩, .slice none 0 0]) ?_ rfl ⟨⟨_, _, _, _, _, _, _, rfl⟩, ?_⟩
    · simp [results, Tryd.results19, go_sem]
    · repeat (first | (refine Below.setCell ?_ (by simp) _) | (refine Below.alloc ?_ (by simp <;> omega) _) | exact Below.refl _ _)
  · have hd : (c == 0) = false := by simpa using h0
    go_enter Tryd.func19, Tryd.ntmps19
    go_wp2
    refine bodyPost_ret (v := .agg #[.int .i64 1, .int .i64 c, .int .i64 0, .string ⟨#[]⟩, .slice none 0 0]) ?_ rfl ⟨⟨_, _, _, _, _, _, _, rfl⟩, ?_⟩
    · simp [results, Tryd.results19, go_sem]
    · repeat (first | (refine Below.setCell ?_ (by simp) _) | (refine Below.alloc ?_ (by simp <;> omega) _) | exact Below.refl _ _)
set_option maxRecDepth 100000 in
theorem refAt_any (kd c p : Int) (s : ByteArray) (A : Option Addr) (n cc : Nat) (pl : Int) (w : World) : Calls Tryd.prog 16 #[.agg #[.int .i64 kd, .int .i64 c, .int .i64 p, .string s, .slice A n cc], .int .i64 pl] w fun e w' => RetE e ∧ Below w.heap.size w w' := by
  by_cases h0 : kd = 0
  · subst h0
    go_enter Tryd.func16, Tryd.ntmps16
    go_wp2
    refine bodyPost_ret (v := .agg #[.int .i64 0, .int .i64 c, .int .i64 p, .string s, .slice A n cc]) ?_ rfl ⟨⟨_, _, _, _, _, _, _, rfl⟩, ?_⟩
    · simp [results, Tryd.results16, go_sem]
    · repeat (first | (refine Below.setCell ?_ (by simp) _) | (refine Below.alloc ?_ (by simp <;> omega) _) | exact Below.refl _ _)
  · have hd : (kd == 0) = false := by simpa using h0
    go_enter Tryd.func16, Tryd.ntmps16
    go_wp2
    refine bodyPost_ret (v := .agg #[.int .i64 2, .int .i64 0, .int .i64 pl, .string ⟨#[]⟩, .slice (some ⟨w.heap.size + 1 + 1, 0, none⟩) 1 1]) ?_ rfl ⟨⟨_, _, _, _, _, _, _, rfl⟩, ?_⟩
    · simp [results, Tryd.results16, go_sem]
    · repeat (first | (refine Below.setCell ?_ (by simp) _) | (refine Below.alloc ?_ (by simp <;> omega) _) | exact Below.refl _ _)
set_option maxRecDepth 100000 in
theorem refIn_any (kd c p : Int) (s : ByteArray) (A : Option Addr) (n cc : Nat) (wd : ByteArray) (w : World) : Calls Tryd.prog 17 #[.agg #[.int .i64 kd, .int .i64 c, .int .i64 p, .string s, .slice A n cc], .string wd] w fun e w' => RetE e ∧ Below w.heap.size w w' := by
  by_cases h0 : kd = 0
  · subst h0
    go_enter Tryd.func17, Tryd.ntmps17
    go_wp2
    refine bodyPost_ret (v := .agg #[.int .i64 0, .int .i64 c, .int .i64 p, .string s, .slice A n cc]) ?_ rfl ⟨⟨_, _, _, _, _, _, _, rfl⟩, ?_⟩
    · simp [results, Tryd.results17, go_sem]
    · repeat (first | (refine Below.setCell ?_ (by simp) _) | (refine Below.alloc ?_ (by simp <;> omega) _) | exact Below.refl _ _)
  · have hd : (kd == 0) = false := by simpa using h0
    go_enter Tryd.func17, Tryd.ntmps17
    go_wp2
    refine bodyPost_ret (v := .agg #[.int .i64 3, .int .i64 0, .int .i64 0, .string wd, .slice (some ⟨w.heap.size + 1 + 1, 0, none⟩) 1 1]) ?_ rfl ⟨⟨_, _, _, _, _, _, _, rfl⟩, ?_⟩
    · simp [results, Tryd.results17, go_sem]
    · repeat (first | (refine Below.setCell ?_ (by simp) _) | (refine Below.alloc ?_ (by simp <;> omega) _) | exact Below.refl _ _)
end Go.Proofs.YtcmepnninlocmaaDoor
