/- Take, Drop, Copy out of bounds, walked. (Types and functions by this seat's numbers.) -/
import Derived.Test.YtfficdloekfpcaaBetwW
namespace Go.Proofs.Ytfficdloekfpcaa
open Go.RowKit Go.Maps
section
variable {w w' : World} {m nn : Nat} {room lost : Int} {ps : List (Int × Int × ByteArray)} {f : Int → Int → Int}
theorem NetAt.alloc (h : NetAt w m nn room ps lost f) (o : Obj) : NetAt (w.alloc o) m nn room ps lost f := by
  obtain ⟨A, c, hB, hM, hO⟩ := h
  exact ⟨A, c, hB.alloc o, hM.alloc o, hO.alloc o⟩
end
set_option maxRecDepth 100000 in
set_option maxHeartbeats 1000000 in
theorem take_out (m nn : Nat) (room lost : Int) (ps : List (Int × Int × ByteArray)) (f : Int → Int → Int) (i : Int) (w : World) (h : NetAt w m nn room ps lost f) (hi : i < 0 ∨ (ps.length : Int) ≤ i) :
    Calls Try.prog 9 #[.pointer (some ⟨m + 1, 0, none⟩), .int .i64 i] w fun e w' => e = .returned (.tuple #[.agg #[.int .i64 0, .int .i64 0, .string ⟨#[]⟩], .bool false]) ∧ NetAt w' m nn room ps lost f ∧ Below w.heap.size w w' := by
  have h4 := (((h.alloc (.cells #[.pointer (some ⟨m + 1, 0, none⟩)] 23)).alloc (.cells #[.int .i64 i] 3)).alloc (.cells #[.int .i64 0, .int .i64 0, .string ⟨#[]⟩] 27)).alloc (.cells #[.int .i64 0, .int .i64 0, .string ⟨#[]⟩] 27)
  go_enter Try.func9, Try.ntmps9
  go_wp2_with fail
  refine (change_out m nn room lost ps f i _ _ h4 hi).mono ?_
  rintro e w1 ⟨rfl, rfl⟩
  go_wp2_with fail
  refine bodyPost_ret (v := .tuple #[.agg #[.int .i64 0, .int .i64 0, .string ⟨#[]⟩], .bool false]) ?_ rfl ⟨rfl, ?_, ?_⟩
  · simp [results, Try.results9, go_sem]
  · exact h4
  · exact ((((Below.refl _ _).alloc (Nat.le_refl _) _).alloc (by simp) _).alloc (by simp; omega) _).alloc (by simp; omega) _
set_option maxRecDepth 100000 in
theorem drop_out (m nn : Nat) (room lost : Int) (ps : List (Int × Int × ByteArray)) (f : Int → Int → Int) (i : Int) (w : World) (h : NetAt w m nn room ps lost f) (hi : i < 0 ∨ (ps.length : Int) ≤ i) :
    Calls Try.prog 12 #[.pointer (some ⟨m + 1, 0, none⟩), .int .i64 i] w fun e w' => e = .returned (.bool false) ∧ NetAt w' m nn room ps lost f ∧ Below w.heap.size w w' := by
  go_enter Try.func12, Try.ntmps12
  go_wp2_with fail
  refine (take_out m nn room lost ps f i w h hi).mono ?_
  rintro e w1 ⟨rfl, h1, hb1⟩
  go_wp2_with fail
  go_ret
  exact ⟨rfl, h1.alloc _, hb1.alloc hb1.size _⟩
set_option maxRecDepth 100000 in
theorem copy_out (m nn : Nat) (room lost : Int) (ps : List (Int × Int × ByteArray)) (f : Int → Int → Int) (i : Int) (w : World) (h : NetAt w m nn room ps lost f) (hi : i < 0 ∨ (ps.length : Int) ≤ i) :
    Calls Try.prog 13 #[.pointer (some ⟨m + 1, 0, none⟩), .int .i64 i] w fun e w' => e = .returned (.bool false) ∧ NetAt w' m nn room ps lost f ∧ Below w.heap.size w w' := by
  go_enter Try.func13, Try.ntmps13
  go_wp2_with fail
  refine (change_out m nn room lost ps f i _ _ (h.alloc _) hi).mono ?_
  rintro e w1 ⟨rfl, rfl⟩
  go_wp2_with fail
  go_ret
  exact ⟨rfl, h.alloc _, (Below.refl _ _).alloc (Nat.le_refl _) _⟩
end Go.Proofs.Ytfficdloekfpcaa
