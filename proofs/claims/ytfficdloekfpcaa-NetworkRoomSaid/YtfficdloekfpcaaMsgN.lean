/- A step's message and packet: the document's Bytes of a message of kind 3, packet, at, walked. (Types and functions by this seat's numbers.) -/
import Derived.Test.YtfficdloekfpcaaRefN
import Derived.Test.YtfficdloekfpcaaNetW
import Derived.Deep.RegionHeld3
import Derived.BigQuiet
import Derived.Deep.QuietTactic
namespace Go.Proofs.Ytfficdloekfpcaa
open Go.RowKit Nums Crc
/-- A message of kind 3. -/
abbrev msg3 (k : Nat) : Array Value := #[.int .i64 3, .int .i64 0, .int .i64 0, .bool false, .string ⟨#[]⟩, .string ⟨#[]⟩, .int .i64 (k : Nat), .int .i64 0]
set_option maxRecDepth 100000 in
theorem path_none (w : World) : Calls Try.prog 38 #[.string ⟨#[]⟩] w fun e w' => e = .returned (.bool true) ∧ w = w' := by
  go_enter Try.func38, Try.ntmps38
  go_wp2
  go_loop [3] (fun i => i = .int .i64 0) (fun i => 0)
  case atStart => rfl
  case round =>
    subst hrel
    go_wp2
    go_ret
    exact ⟨rfl, rfl⟩
set_option maxRecDepth 100000 in
theorem only_3 (k : Nat) (w : World) : Calls Try.prog 39 #[.agg (msg3 k)] w fun e w' => e = .returned (.agg (msg3 k)) ∧ Below w.heap.size w w' := by
  go_enter Try.func39, Try.ntmps39
  go_wp2
  refine bodyPost_ret (v := .agg (msg3 k)) ?_ rfl ⟨rfl, ?_⟩
  · simp [results, Try.results39, go_sem]
  · repeat (first | (refine Below.setCell ?_ (by simp) _) | (refine Below.alloc ?_ (by simp <;> omega) _) | exact Below.refl _ _)
set_option maxRecDepth 100000 in
theorem check17 (w : World) : Calls Try.prog 40 #[.agg #[.int .i64 0, .int .i64 0, .bool false, .string ⟨#[]⟩]] w fun e w' => e = .returned (.bool true) ∧ Below w.heap.size w w' := by
  go_enter Try.func40, Try.ntmps40
  go_wp2
  go_ret
  exact ⟨rfl, (Below.refl _ _).alloc (Nat.le_refl _) _⟩
def HeldM (B g : Nat) (k : Nat) (w0 w : World) : Prop :=
  (w.cell? ⟨g, 0, none⟩ = some (.int .i64 3) ∧ w.cell? ⟨g, 1, none⟩ = some (.int .i64 0) ∧ w.cell? ⟨g, 2, none⟩ = some (.int .i64 0) ∧ w.cell? ⟨g, 3, none⟩ = some (.bool false) ∧ w.cell? ⟨g, 4, none⟩ = some (.string ⟨#[]⟩) ∧ w.cell? ⟨g, 5, none⟩ = some (.string ⟨#[]⟩) ∧ w.cell? ⟨g, 6, none⟩ = some (.int .i64 (k : Nat)) ∧ w.cell? ⟨g, 7, none⟩ = some (.int .i64 0)) ∧ Below B w0 w ∧ B ≤ w.heap.size ∧ Blk w g 57 (msg3 k)
theorem HeldM.of {B g k : Nat} {w0 w : World} (h : Blk w g 57 (msg3 k)) (hb : Below B w0 w) (hs : B ≤ w.heap.size) : HeldM B g k w0 w :=
  ⟨⟨h.cell 0, h.cell 1, h.cell 2, h.cell 3, h.cell 4, h.cell 5, h.cell 6, h.cell 7⟩, hb, hs, h⟩
theorem HeldM.out {B g k : Nat} {w0 w : World} (h : HeldM B g k w0 w) : Blk w g 57 (msg3 k) ∧ Below B w0 w := ⟨h.2.2.2, h.2.1⟩
theorem HeldM.keep {B g k : Nat} {w0 w w' : World} (h : HeldM B g k w0 w) (hb : Below w.heap.size w w') : HeldM B g k w0 w' := HeldM.of (h.2.2.2.below hb h.2.2.2.lt) (h.2.1.trans (hb.mono h.2.2.1)) (Nat.le_trans h.2.2.1 hb.size)
set_option maxRecDepth 100000 in
set_option maxHeartbeats 1000000 in
theorem check19 (k : Nat) (hk : k ≤ 15) (w : World) : Calls Try.prog 30 #[.agg (msg3 k)] w fun e w' => e = .returned (.bool true) ∧ Below w.heap.size w w' := by
  go_enter Try.func30, Try.ntmps30
  go_wp2_with fail
  refine (path_none _).mono ?_
  rintro e w1 ⟨rfl, rfl⟩
  have hB := Blk.new w 57 (msg3 k)
  have hb0 : Below w.heap.size w (w.alloc (.cells (msg3 k) 57)) := (Below.refl _ _).alloc (Nat.le_refl _) _
  have d0 : decide ((k : Int) > 15) = false := decide_eq_false (by omega)
  go_upto_region 2 with fail
  generalize w.alloc (.cells (msg3 k) 57) = w1 at hB hb0 ⊢
  go_cut [45] from 5 to 70 (fun s45 wx => s45 = .bool false ∧ Blk wx w.heap.size 57 (msg3 k) ∧ Below w.heap.size w wx)
  case first =>
    have hS : HeldM w.heap.size w.heap.size k w w1.drew := HeldM.of hB hb0.drew hb0.size
    go_region_held3 (fun w' => (w'.cell? ⟨w.heap.size, 0, none⟩ = some (.int .i64 3) ∧ w'.cell? ⟨w.heap.size, 1, none⟩ = some (.int .i64 0) ∧ w'.cell? ⟨w.heap.size, 2, none⟩ = some (.int .i64 0) ∧ w'.cell? ⟨w.heap.size, 3, none⟩ = some (.bool false) ∧ w'.cell? ⟨w.heap.size, 4, none⟩ = some (.string ⟨#[]⟩) ∧ w'.cell? ⟨w.heap.size, 5, none⟩ = some (.string ⟨#[]⟩) ∧ w'.cell? ⟨w.heap.size, 6, none⟩ = some (.int .i64 (k : Nat)) ∧ w'.cell? ⟨w.heap.size, 7, none⟩ = some (.int .i64 0)) ∧ Below w.heap.size w w' ∧ w.heap.size ≤ w'.heap.size ∧ Blk w' w.heap.size 57 (msg3 k)) (first | exact hS | exact hq) (first
      | (go_at_call 39; refine (only_3 k _).mono ?_; rintro e w8 ⟨rfl, hb8⟩; have hq := HeldM.keep (by assumption) hb8))
    all_goals
      go_wp2_with fail
      go_meet
      exact ⟨by simp, HeldM.out (by assumption)⟩
  case rest =>
  obtain ⟨rfl, hB2, hb2⟩ := hcut
  have c0 := hB2.cell 0
  have c1 := hB2.cell 1
  have c2 := hB2.cell 2
  have c3 := hB2.cell 3
  have c4 := hB2.cell 4
  simp at c0 c1 c2 c3 c4
  have hlt := hB2.lt
  clear hB2 hB hb0
  go_wp2_with fail
  refine (check17 _).mono ?_
  rintro e w3 ⟨rfl, hb3⟩
  go_wp2_with fail
  go_ret
  exact ⟨rfl, (hb2.alloc hb2.size _).trans (hb3.mono (by simp; omega))⟩
theorem wrapP_size (s : ByteArray) : (wrapP s).1.size ≤ 4100 := by
  unfold wrapP
  split
  · simp
  · have : (sumB (crc s.data.toList)).size = 4 := rfl
    rw [ByteArray.size_append]
    omega
theorem below_drewN {B : Nat} {w w' : World} (h : Below B w w') (n : Nat) : Below B w (w'.drewN n) := ⟨h.os, h.tape, h.output, h.size, h.block⟩
theorem putL_one' (v : Int) : putL [v] = vb (zz v) := by simp [putL]
theorem refPut1 (v : Int) (H : Nat) (W : World) (hH : W.heap.size = H) (hv : -9223372036854775808 ≤ v ∧ v ≤ 9223372036854775807) : Calls Try.prog 31 #[.slice (some ⟨H, 0, none⟩) 1 1] (W.alloc (.cells #[.int .i64 v] 3)) fun e w' => (∃ b : ByteArray, b.size ≤ 10 ∧ e = .returned (.string b)) ∧ Below W.heap.size W w' := by
  subst hH
  have h := refPut_any (some ⟨W.heap.size, 0, none⟩) 1 1 [v] (W.alloc (.cells #[.int .i64 v] 3)) rfl (Ints.new W [v] 3) (fun n hn => by obtain rfl := List.mem_singleton.1 hn; exact hv) (by omega)
  rw [putL_one'] at h
  have hl := vb_zz_len v hv.1 hv.2
  exact h.mono fun e w' ⟨he, hb⟩ => ⟨⟨_, by show (vb (zz v)).toArray.size ≤ 10; simpa using hl, he⟩, later_alloc _ hb⟩
set_option maxRecDepth 100000 in
set_option maxHeartbeats 4000000 in
theorem bytes19 (k : Nat) (hk : k ≤ 15) (w : World) : Calls Try.prog 25 #[.agg (msg3 k)] w fun e w' => (∃ (s : ByteArray) (c : Int), s.size ≤ 4100 ∧ e = .returned (.tuple #[.string s, .int .i64 c])) ∧ Below w.heap.size w w' := by
  have hB := Blk.new w 57 (msg3 k)
  have hb0 : Below w.heap.size w (w.alloc (.cells (msg3 k) 57)) := (Below.refl _ _).alloc (Nat.le_refl _) _
  go_enter Try.func25, Try.ntmps25
  go_wp2_with fail
  refine (check19 k hk _).mono ?_
  rintro e w1 ⟨rfl, hb1⟩
  have hB1 := hB.below hb1 hB.lt
  have hb2 := hb0.trans (hb1.mono hb0.size)
  clear hB hb0 hb1
  have c0 := hB1.cell 0
  have c1 := hB1.cell 1
  have c2 := hB1.cell 2
  have c3 := hB1.cell 3
  have c4 := hB1.cell 4
  simp at c0 c1 c2 c3 c4
  have hlt := hB1.lt
  go_wp2_with fail
  refine (refPut1 3 (w1.heap.size + 1) _ (by simp) (by omega)).mono ?_
  rintro e w3 ⟨⟨b3, hs3, rfl⟩, hb3⟩
  simp only [World.size_alloc] at hb3
  have hB3 := (hB1.alloc (.cells #[.int .i64 0, .int .i64 0, .bool false, .string ⟨#[]⟩] 55)).below hb3 (by omega)
  have hb4 := (hb2.alloc hb2.size (.cells #[.int .i64 0, .int .i64 0, .bool false, .string ⟨#[]⟩] 55)).trans (hb3.mono (by have := hb2.size; omega))
  clear c0 c1 c2 c3 c4 hb3 hB1 hb2 hlt
  have c0 := hB3.cell 0
  have c6 := hB3.cell 6
  simp at c0 c6
  have hlt := hB3.lt
  go_wp2_with fail
  refine (refPut1 (k : Nat) w3.heap.size _ rfl (by omega)).mono ?_
  rintro e w5 ⟨⟨b5, hs5, rfl⟩, hb5⟩
  have hb6 := hb4.trans (hb5.mono hb4.size)
  clear c0 c6 hB3 hb4 hb5 hlt
  go_wp2_with fail
  have hps : (b3 ++ b5).size ≤ maxLen := by
    rw [ByteArray.size_append]
    unfold maxLen
    omega
  refine (refWrap_any (b3 ++ b5) _ hps).mono ?_
  rintro e w7 ⟨rfl, hb7⟩
  have hsz := wrapP_size (b3 ++ b5)
  have hb8 := (hb6.trans (hb7.mono hb6.size)).alloc (show w.heap.size ≤ w7.heap.size by have := hb6.size; have := hb7.size; omega) (.cells #[.string (wrapP (b3 ++ b5)).1, .int .i64 (wrapP (b3 ++ b5)).2] 70)
  generalize wrapP (b3 ++ b5) = r at hsz hb8 ⊢
  have hR := Blk.new w7 70 #[.string r.1, .int .i64 r.2]
  have r0 : (w7.alloc (.cells #[.string r.1, .int .i64 r.2] 70)).cell? ⟨w7.heap.size, 0, none⟩ = some (.string r.1) := hR.cell 0
  have r1 : (w7.alloc (.cells #[.string r.1, .int .i64 r.2] 70)).cell? ⟨w7.heap.size, 1, none⟩ = some (.int .i64 r.2) := hR.cell 1
  go_upto_region 20 with fail
  generalize w7.alloc (.cells #[.string r.1, .int .i64 r.2] 70) = w8 at hb8 r0 r1 ⊢
  go_quiet (fail)
  go_wp2_with fail
  go_ret2
  exact ⟨⟨r.1, r.2, hsz, rfl⟩, below_drewN hb8 _⟩
/-- A step's cells. -/
abbrev opC (kd fr tt ix at_ b0 b1 b2 b3 : Int) (s : ByteArray) (far : Bool) : Array Value := #[.int .i64 kd, .int .i64 fr, .int .i64 tt, .int .i64 ix, .int .i64 at_, .int .u8 b0, .int .u8 b1, .int .u8 b2, .int .u8 b3, .string s, .bool far]
theorem and_low (x M : Int) (m : Nat) (hM : M = (m : Nat)) (hm : m < 9223372036854775808) : ∃ k : Nat, k ≤ m ∧ bits .and .i64 x M = (k : Nat) := by
  subst hM
  refine ⟨(BitVec.ofInt 64 x &&& BitVec.ofInt 64 (m : Nat)).toNat, ?_, ?_⟩
  · rw [BitVec.toNat_and]
    have h : (BitVec.ofInt 64 (m : Nat)).toNat = m := by
      rw [BitVec.toNat_ofInt]
      omega
    rw [h]
    exact Nat.and_le_right
  · show IntKind.i64.wrap ((BitVec.ofInt 64 x &&& BitVec.ofInt 64 (m : Nat)).toNat : Int) = _
    have hle : (BitVec.ofInt 64 x &&& BitVec.ofInt 64 (m : Nat)).toNat ≤ m := by
      rw [BitVec.toNat_and]
      have h : (BitVec.ofInt 64 (m : Nat)).toNat = m := by
        rw [BitVec.toNat_ofInt]
        omega
      rw [h]
      exact Nat.and_le_right
    rw [IntKind.wrap_i64]
    omega
set_option maxRecDepth 100000 in
theorem at_any (kd fr tt ix at_ b0 b1 b2 b3 : Int) (s : ByteArray) (w : World) : Calls Try.prog 16 #[.agg (opC kd fr tt ix at_ b0 b1 b2 b3 s false)] w fun e w' => (∃ k : Nat, k ≤ 15 ∧ e = .returned (.int .i64 k)) ∧ Below w.heap.size w w' := by
  obtain ⟨k, hk, he⟩ := and_low ix 15 15 rfl (by omega)
  go_enter Try.func16, Try.ntmps16
  go_wp2
  go_ret
  exact ⟨⟨k, hk, rfl⟩, (Below.refl _ _).alloc (Nat.le_refl _) _⟩
set_option maxRecDepth 100000 in
theorem msg_any (kd fr tt ix at_ b0 b1 b2 b3 : Int) (s : ByteArray) (w : World) : Calls Try.prog 26 #[.agg (opC kd fr tt ix at_ b0 b1 b2 b3 s false)] w fun e w' => (∃ k : Nat, k ≤ 15 ∧ e = .returned (.agg (msg3 k))) ∧ Below w.heap.size w w' := by
  obtain ⟨k, hk, he⟩ := and_low ix 15 15 rfl (by omega)
  go_enter Try.func26, Try.ntmps26
  go_wp2
  refine bodyPost_ret (v := .agg (msg3 k)) ?_ rfl ⟨⟨k, hk, rfl⟩, ?_⟩
  · simp [results, Try.results26, go_sem]
  · repeat (first | (refine Below.setCell ?_ (by simp) _) | (refine Below.alloc ?_ (by simp <;> omega) _) | exact Below.refl _ _)
set_option maxRecDepth 100000 in
theorem packet_any (kd fr tt ix at_ b0 b1 b2 b3 : Int) (s : ByteArray) (w : World) : Calls Try.prog 14 #[.agg (opC kd fr tt ix at_ b0 b1 b2 b3 s false)] w fun e w' => (∃ (a c : Nat) (s' : ByteArray), a ≤ 3 ∧ c ≤ 3 ∧ s'.size ≤ 4100 ∧ e = .returned (.agg #[.int .i64 a, .int .i64 c, .string s'])) ∧ Below w.heap.size w w' := by
  obtain ⟨x, hx, hex⟩ := and_low fr 3 3 rfl (by omega)
  obtain ⟨y, hy, hey⟩ := and_low tt 3 3 rfl (by omega)
  obtain ⟨kk, hkk⟩ : ∃ kk, kk = bits .and .i64 kd 15 := ⟨_, rfl⟩
  go_enter Try.func14, Try.ntmps14
  have hP := Blk.new w 37 (opC kd fr tt ix at_ b0 b1 b2 b3 s false)
  have hb0 : Below w.heap.size w ((w.alloc (.cells (opC kd fr tt ix at_ b0 b1 b2 b3 s false) 37)).alloc (.cells #[.int .i64 0, .int .i64 0, .string ⟨#[]⟩] 27)) := ((Below.refl _ _).alloc (Nat.le_refl _) _).alloc (by simp) _
  have hR := Blk.new (w.alloc (.cells (opC kd fr tt ix at_ b0 b1 b2 b3 s false) 37)) 27 #[.int .i64 0, .int .i64 0, .string ⟨#[]⟩]
  rw [World.size_alloc] at hR
  have hP1 := hP.alloc (.cells #[.int .i64 0, .int .i64 0, .string ⟨#[]⟩] 27)
  go_upto_if 10 with fail
  generalize ((w.alloc (.cells (opC kd fr tt ix at_ b0 b1 b2 b3 s false) 37)).alloc (.cells #[.int .i64 0, .int .i64 0, .string ⟨#[]⟩] 27)) = w2 at hb0 hR hP1 ⊢
  clear hP
  go_cut [3] from 6 to 39 (fun s3 wx => ∃ s1 : ByteArray, s1.size ≤ 20 ∧ s3 = .string s1 ∧ wx = w2)
  case first =>
    by_cases h20 : (20 : Int) < (s.size : Int)
    · have hd : decide ((20 : Int) < (s.size : Int)) = true := decide_eq_true h20
      have hsz : (s.extract 0 20).size ≤ 20 := by
        rw [ByteArray.size_extract]
        omega
      go_wp2_with fail
      go_meet
      exact ⟨_, hsz, rfl, rfl⟩
    · have hd : decide ((20 : Int) < (s.size : Int)) = false := decide_eq_false h20
      go_wp2_with fail
      go_meet
      exact ⟨s, by omega, rfl, rfl⟩
  case rest =>
  obtain ⟨s1, hs1, rfl, rfl⟩ := hcut
  have c0 := hP1.cell 0
  simp at c0
  go_upto_if 16 with fail
  rw [← hkk]
  go_cut [3] from 6 to 39 (fun s3 wx => ∃ s2 : ByteArray, s2.size ≤ 4100 ∧ s3 = .string s2 ∧ Blk wx w.heap.size 37 (opC kd fr tt ix at_ b0 b1 b2 b3 s false) ∧ Blk wx (w.heap.size + 1) 27 #[.int .i64 0, .int .i64 0, .string ⟨#[]⟩] ∧ Below w.heap.size w wx)
  case first =>
    by_cases h5 : kk < 5
    · have hd : decide (kk < 5) = true := decide_eq_true h5
      have c1 := hP1.cell 1
      have c2 := hP1.cell 2
      have c3 := hP1.cell 3
      have c4 := hP1.cell 4
      have c5 := hP1.cell 5
      have c6 := hP1.cell 6
      have c7 := hP1.cell 7
      have c8 := hP1.cell 8
      have c9 := hP1.cell 9
      have c10 := hP1.cell 10
      simp at c1 c2 c3 c4 c5 c6 c7 c8 c9 c10
      go_wp2_with fail
      refine (msg_any kd fr tt ix at_ b0 b1 b2 b3 s _).mono ?_
      rintro e w4 ⟨⟨k, hk, rfl⟩, hb4⟩
      go_wp2_with fail
      refine (bytes19 k hk _).mono ?_
      rintro e w5 ⟨⟨s5, c, hs5, rfl⟩, hb5⟩
      go_wp2_with fail
      go_meet
      have hb6 := later hb4 hb5
      exact ⟨s5, hs5, rfl, hP1.below hb6 hP1.lt, hR.below hb6 hR.lt, hb0.trans (hb6.mono hb0.size)⟩
    · have hd : decide (kk < 5) = false := decide_eq_false h5
      go_wp2_with fail
      go_meet
      exact ⟨s1, by omega, rfl, hP1, hR, hb0⟩
  case rest =>
  clear c0 hP1 hR hb0
  obtain ⟨s2, hs2, rfl, hP, hR, hb⟩ := hcut
  have c1 := hP.cell 1
  have c2 := hP.cell 2
  have c10 := hP.cell 10
  simp at c1 c2 c10
  have hD := ((hR.set 0 (.int .i64 (x : Nat))).set 1 (.int .i64 (y : Nat))).set 2 (.string s2)
  have d0 := hD.cell 0
  have d1 := hD.cell 1
  have d2 := hD.cell 2
  simp at d0 d1 d2
  have e0 : wc.cell? ⟨w.heap.size + 1, 0, none⟩ = some (.int .i64 0) := hR.cell 0
  have e1 : wc.cell? ⟨w.heap.size + 1, 1, none⟩ = some (.int .i64 0) := hR.cell 1
  have e2 : wc.cell? ⟨w.heap.size + 1, 2, none⟩ = some (.string ⟨#[]⟩) := hR.cell 2
  have f0 := hR.free 0
  have f1 := hR.free 1
  have f2 := hR.free 2
  go_wp2_with fail
  refine bodyPost_ret (v := .agg #[.int .i64 (x : Nat), .int .i64 (y : Nat), .string s2]) ?_ rfl ⟨⟨x, y, s2, hx, hy, hs2, rfl⟩, ?_⟩
  · simp [results, Try.results14, go_sem, d0, d1, d2]
  · exact ((hb.setCell (by simp) _).setCell (by simp) _).setCell (by simp) _

end Go.Proofs.Ytfficdloekfpcaa
