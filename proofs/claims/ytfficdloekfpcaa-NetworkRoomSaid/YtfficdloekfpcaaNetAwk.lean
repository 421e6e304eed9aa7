/- The example of chapter 23, walked; of no network nothing comes. (Types and functions by this seat's numbers.) -/
import Derived.Test.YtfficdloekfpcaaSendW
namespace Go.Proofs.Ytfficdloekfpcaa
open Go.RowKit Go.Maps
section
variable {w w' : World} {m nn : Nat} {room lost : Int} {ps : List (Int × Int × ByteArray)} {f : Int → Int → Int}
theorem NetAt.map (h : NetAt w m nn room ps lost f) : w.cell? ⟨m + 1, 2, none⟩ = some (.map (some m)) := by
  obtain ⟨A, c, hB, _⟩ := h
  exact hB.cell 2
theorem NetAt.lt (h : NetAt w m nn room ps lost f) : m + 1 < w.heap.size := by
  obtain ⟨A, c, hB, _⟩ := h
  exact hB.lt
end
set_option maxRecDepth 100000 in
theorem len_any (m nn : Nat) (room lost : Int) (ps : List (Int × Int × ByteArray)) (f : Int → Int → Int) (w : World) (h : NetAt w m nn room ps lost f) : Calls Try.prog 10 #[.pointer (some ⟨m + 1, 0, none⟩)] w fun e w' => e = .returned (.int .i64 (ps.length : Nat)) ∧ w = w' := by
  have h2 := h.map
  obtain ⟨A, c, hB, _⟩ := h
  have h1 : w.cell? ⟨m + 1, 1, none⟩ = some (.slice A ps.length c) := hB.cell 1
  go_enter Try.func10, Try.ntmps10
  go_wp2_with fail
  refine (none_no (m + 1) m _ h2).mono ?_
  rintro e w1 ⟨rfl, rfl⟩
  go_wp2_with fail
  go_ret
  exact ⟨rfl, rfl⟩
set_option maxRecDepth 100000 in
theorem lost_any (m nn : Nat) (room lost : Int) (ps : List (Int × Int × ByteArray)) (f : Int → Int → Int) (w : World) (h : NetAt w m nn room ps lost f) : Calls Try.prog 18 #[.pointer (some ⟨m + 1, 0, none⟩)] w fun e w' => e = .returned (.int .i64 lost) ∧ w = w' := by
  have h2 := h.map
  obtain ⟨A, c, hB, _⟩ := h
  have h1 : w.cell? ⟨m + 1, 3, none⟩ = some (.int .i64 lost) := hB.cell 3
  go_enter Try.func18, Try.ntmps18
  go_wp2_with fail
  refine (none_no (m + 1) m _ h2).mono ?_
  rintro e w1 ⟨rfl, rfl⟩
  go_wp2_with fail
  go_ret
  exact ⟨rfl, rfl⟩
set_option maxRecDepth 100000 in
theorem len_nil (w : World) : Calls Try.prog 10 #[.pointer none] w fun e w' => e = .returned (.int .i64 0) ∧ w = w' := by
  go_enter Try.func10, Try.ntmps10
  go_wp2_with fail
  refine (none_nil _).mono ?_
  rintro e w1 ⟨rfl, rfl⟩
  go_wp2_with fail
  go_ret
  exact ⟨rfl, rfl⟩
set_option maxRecDepth 100000 in
theorem lost_nil (w : World) : Calls Try.prog 18 #[.pointer none] w fun e w' => e = .returned (.int .i64 0) ∧ w = w' := by
  go_enter Try.func18, Try.ntmps18
  go_wp2_with fail
  refine (none_nil _).mono ?_
  rintro e w1 ⟨rfl, rfl⟩
  go_wp2_with fail
  go_ret
  exact ⟨rfl, rfl⟩
set_option maxRecDepth 100000 in
theorem between_nil (a c : Int) (w : World) : Calls Try.prog 11 #[.pointer none, .int .i64 a, .int .i64 c] w fun e w' => e = .returned (.int .i64 0) ∧ w = w' := by
  go_enter Try.func11, Try.ntmps11
  go_wp2_with fail
  refine (none_nil _).mono ?_
  rintro e w1 ⟨rfl, rfl⟩
  go_wp2_with fail
  go_ret
  exact ⟨rfl, rfl⟩
set_option maxRecDepth 100000 in
theorem new_net (room : Int) (w : World) : Calls Try.prog 7 #[.int .i64 room] w fun e w' => e = .returned (.pointer (some ⟨w.heap.size + 1, 0, none⟩)) ∧ NetAt w' w.heap.size 0 (min (max room 1) 12) [] 0 (fun _ _ => 0) ∧ Below w.heap.size w w' :=
  (newNet_any room w).mono fun _ _ ⟨h1, h2, h3, h4⟩ => ⟨h1, ⟨none, 0, h2, h3, World.ownsRow_nil _ _ _ _⟩, h4⟩
set_option maxRecDepth 100000 in
set_option maxHeartbeats 1000000 in
theorem awake_net (w : World) : Calls Try.prog 6 #[] w fun e w' => e = .returned (.bool true) ∧ Below w.heap.size w w' := by
  go_enter Try.func6, Try.ntmps6
  go_wp2_with fail
  refine (new_net 1 w).mono ?_
  rintro e w1 ⟨rfl, h1, hb1⟩
  go_wp2_with fail
  refine (send_ok _ 0 _ [] 0 _ 1 2 ByteArray.empty _ h1 (by omega) (by simp) (by omega) (by omega) (by omega) (by simp) (by decide) (by omega)).mono ?_
  rintro e w2 ⟨rfl, h2, hb2⟩
  go_wp2_with fail
  refine (send_full _ _ _ _ 0 _ 1 2 ByteArray.empty _ h2 (by omega) (by omega) (by omega) (by simp) (by decide) (by omega)).mono ?_
  rintro e w3 ⟨rfl, h3, hb3⟩
  go_wp2_with fail
  refine (send_ok _ _ _ _ _ _ 2 1 ByteArray.empty _ h3 (by omega) (by simp) (by omega) (by omega) (by omega) (by simp) (by decide) (by decide)).mono ?_
  rintro e w4 ⟨rfl, h4, hb4⟩
  go_wp2_with fail
  refine (len_any _ _ _ _ _ _ _ h4).mono ?_
  rintro e w5 ⟨rfl, rfl⟩
  go_wp2_with fail
  refine (lost_any _ _ _ _ _ _ _ h4).mono ?_
  rintro e w5 ⟨rfl, rfl⟩
  go_wp2_with fail
  go_ret
  exact ⟨rfl, hb1.trans (hb2.trans (hb3.trans hb4))⟩
end Go.Proofs.Ytfficdloekfpcaa
