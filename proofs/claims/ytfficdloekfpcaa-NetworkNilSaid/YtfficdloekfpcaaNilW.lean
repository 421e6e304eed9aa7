/- NetworkNil, walked. (Types and functions by this seat's numbers.) -/
import Derived.Test.YtfficdloekfpcaaNetNil
namespace Go.Proofs.Ytfficdloekfpcaa
open Go.RowKit Go.Maps
abbrev HeldN (B g : Nat) (a c : Int) (s : ByteArray) (w0 w : World) : Prop :=
  w.cell? ⟨g, 0, none⟩ = some (.int .i64 a) ∧ w.cell? ⟨g, 1, none⟩ = some (.int .i64 c) ∧ w.cell? ⟨g, 2, none⟩ = some (.string s) ∧ Below B w0 w ∧ B ≤ w.heap.size
theorem keepc {w w' : World} {p : Addr} {v : Value} (hb : Below w.heap.size w w') (h : w.cell? p = some v) : w'.cell? p = some v := (hb.cell (World.block_lt_of_cell? w p h)).trans h
section
variable {B g : Nat} {a c : Int} {s : ByteArray} {w0 w w' : World}
theorem HeldN.keep (h : HeldN B g a c s w0 w) (hb : Below w.heap.size w w') : HeldN B g a c s w0 w' := ⟨keepc hb h.1, keepc hb h.2.1, keepc hb h.2.2.1, h.2.2.2.1.trans (hb.mono h.2.2.2.2), Nat.le_trans h.2.2.2.2 hb.size⟩
theorem HeldN.bel (h : HeldN B g a c s w0 w) : Below B w0 w := h.2.2.2.1
end
set_option maxRecDepth 100000 in
set_option maxHeartbeats 4000000 in
theorem networkNil_walk (a c i : Int) (s : ByteArray) (w : World) (hs : s.size ≤ maxLen) : Calls Try.prog 5 #[.agg #[.int .i64 a, .int .i64 c, .string s], .int .i64 i] w fun e w' => e = .returned (.bool true) ∧ Below w.heap.size w w' := by
  have hP0 := Blk.new w 27 #[.int .i64 a, .int .i64 c, .string s]
  have q2 : (w.alloc (.cells #[.int .i64 a, .int .i64 c, .string s] 27)).cell? ⟨w.heap.size, 2, none⟩ = some (.string s) := hP0.cell 2
  have qf := hP0.free 2
  have hb0 : Below w.heap.size w (w.alloc (.cells #[.int .i64 a, .int .i64 c, .string s] 27)) := (Below.refl _ _).alloc (Nat.le_refl _) _
  go_enter Try.func5, Try.ntmps5
  go_upto_if 11 with fail
  go_cut [] from 8 to 74 (fun wx => ∃ s' : ByteArray, s'.size ≤ maxLen ∧ Blk wx w.heap.size 27 #[.int .i64 a, .int .i64 c, .string s'] ∧ Below w.heap.size w wx)
  case first =>
    by_cases h20 : (20 : Int) < (s.size : Int)
    · have hd : decide ((20 : Int) < (s.size : Int)) = true := decide_eq_true h20
      rw [hd]
      go_wp2_with fail
      go_meet
      case rel =>
        have hsz : (s.extract 0 20).size ≤ maxLen := by
          rw [ByteArray.size_extract]
          unfold maxLen
          omega
        first
          | exact ⟨s.extract 0 20, hsz, hP0.set 2 _, hb0.setCell (Nat.le_refl _) _⟩
          | exact ⟨s.extract 0 20, hsz, Blk.new w 27 #[.int .i64 a, .int .i64 c, .string (s.extract 0 20)], (Below.refl _ _).alloc (Nat.le_refl _) _⟩
    · have hd : decide ((20 : Int) < (s.size : Int)) = false := decide_eq_false h20
      rw [hd]
      go_wp2_with fail
      go_meet
      case rel => exact ⟨s, hs, hP0, hb0⟩
  case rest =>
  obtain ⟨s', hs', hP, hb⟩ := hcut
  clear q2 qf hb0 hP0
  go_wp2_with fail
  refine (take_nil i _).mono ?_
  rintro e w2 ⟨rfl, hb2⟩
  have hP2 := (hP.below hb2 hP.lt).alloc (.cells #[.int .i64 0, .int .i64 0, .string ByteArray.empty] 27)
  have hbb : Below w.heap.size w (w2.alloc (.cells #[.int .i64 0, .int .i64 0, .string ByteArray.empty] 27)) := (later hb hb2).alloc (later hb hb2).size _
  have hS : HeldN w.heap.size w.heap.size a c s' w (w2.alloc (.cells #[.int .i64 0, .int .i64 0, .string ByteArray.empty] 27)).drew := ⟨hP2.cell 0, hP2.cell 1, hP2.cell 2, hbb.drew, hbb.size⟩
  go_upto_region 5 with fail
  generalize w2.alloc (.cells #[.int .i64 0, .int .i64 0, .string ByteArray.empty] 27) = w3 at hS ⊢
  clear hP hP2 hbb hb hb2
  go_region_held3 (fun w' => w'.cell? ⟨w.heap.size, 0, none⟩ = some (.int .i64 a) ∧ w'.cell? ⟨w.heap.size, 1, none⟩ = some (.int .i64 c) ∧ w'.cell? ⟨w.heap.size, 2, none⟩ = some (.string s') ∧ Below w.heap.size w w' ∧ w.heap.size ≤ w'.heap.size) (first | exact hS | exact hq | exact hS2) (first
    | (go_at_call 6; refine (awake_net _).mono ?_; rintro e w8 ⟨rfl, hb8⟩; have hq := HeldN.keep (by assumption) hb8)
    | (go_at_call 8; refine (send_nil a c s' _).mono ?_; rintro e w8 ⟨rfl, hb8⟩; have hq := HeldN.keep (by assumption) hb8)
    | (go_at_call 15; refine (inject_nil a c s' _ hs').mono ?_; rintro e w8 ⟨rfl, hb8⟩; have hq := HeldN.keep (by assumption) hb8)
    | (go_at_call 12; refine (drop_nil i _).mono ?_; rintro e w8 ⟨rfl, hb8⟩; have hq := HeldN.keep (by assumption) hb8)
    | (go_at_call 13; refine (copy_nil i _).mono ?_; rintro e w8 ⟨rfl, hb8⟩; have hq := HeldN.keep (by assumption) hb8)
    | (go_at_call 17; refine (spoil_nil i i 1 0 0 0 _).mono ?_; rintro e w8 ⟨rfl, hb8⟩; have hq := HeldN.keep (by assumption) hb8)
    | (go_at_call 10; refine (len_nil _).mono ?_; rintro e w8 ⟨rfl, rfl⟩; have hS2 : HeldN w.heap.size w.heap.size a c s' w _ := (by assumption))
    | (go_at_call 18; refine (lost_nil _).mono ?_; rintro e w8 ⟨rfl, rfl⟩; have hS2 : HeldN w.heap.size w.heap.size a c s' w _ := (by assumption))
    | (go_at_call 11; refine (between_nil a c _).mono ?_; rintro e w8 ⟨rfl, rfl⟩; have hS2 : HeldN w.heap.size w.heap.size a c s' w _ := (by assumption)))
  go_wp2_with fail
  refine bodyPost_ret (v := .bool (IntKind.i64.wrap (IntKind.i64.wrap 0) == 0)) ?_ rfl ⟨by rfl, HeldN.bel (by assumption)⟩
  simp [results, Try.results5, go_sem]
end Go.Proofs.Ytfficdloekfpcaa
