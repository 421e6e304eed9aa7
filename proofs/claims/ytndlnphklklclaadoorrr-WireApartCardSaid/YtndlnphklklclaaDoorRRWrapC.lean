/- check.Wrap, check.Open, walked. -/
import Derived.Test.YtndlnphklklclaaDoorRRFaultC
import Derived.Test.YtndlnphklklclaaDoorRRSumW
import Derived.Deep.RegionHeld3
import Derived.Deep.DrawnRows
import Derived.Deep.Cut
import Derived.Deep.CutRange
namespace Go.Proofs.YtndlnphklklclaaDoorRR
open Go.RowKit Crc
/-- A sum's bytes. -/
def sumL (s : Nat) : List UInt8 := [UInt8.ofNat s, UInt8.ofNat (s / 256), UInt8.ofNat (s / 65536), UInt8.ofNat (s / 16777216)]
def sumB (s : Nat) : ByteArray := ⟨(sumL s).toArray⟩
theorem byte_of (n : Nat) : UInt8.ofNat ((n : Int) % 256).toNat = UInt8.ofNat n := by
  rw [show ((n : Int) % 256).toNat = n % 256 from by omega]
  apply UInt8.toNat_inj.1
  simp
theorem bytes4 (s : Nat) : sumL s = [(s : Int) % 256, (s : Int) / 256 % 256, (s : Int) / 65536 % 256, (s : Int) / 16777216 % 256].map (fun x => UInt8.ofNat x.toNat) := by
  have h1 := byte_of s
  have h2 := byte_of (s / 256)
  have h3 := byte_of (s / 65536)
  have h4 := byte_of (s / 16777216)
  simp only [Int.natCast_ediv] at h2 h3 h4
  simp only [sumL, List.map]
  rw [h1]
  congr 2
  · exact h2.symm
  congr 1
  · exact h3.symm
  congr 1
  exact h4.symm
set_option maxRecDepth 100000 in
theorem bytesOf_any (s : Nat) (w : World) (h : s < 4294967296) : Calls Tryd.prog 19 #[.int .u32 s] w fun e w' => e = .returned (.string (sumB s)) ∧ Below w.heap.size w w' := by
  go_enter Tryd.func19, Tryd.ntmps19
  have hconv : (convert 36 9 (.slice (some ⟨w.heap.size, 0, none⟩) 4 4)).run Tryd.prog (w.alloc (.cells #[.int .u8 ((s : Int) % 256), .int .u8 ((s : Int) / 256 % 256), .int .u8 ((s : Int) / 65536 % 256), .int .u8 ((s : Int) / 16777216)] 5)) = .ok (.string (sumB s)) (w.alloc (.cells #[.int .u8 ((s : Int) % 256), .int .u8 ((s : Int) / 256 % 256), .int .u8 ((s : Int) / 65536 % 256), .int .u8 ((s : Int) / 16777216)] 5)) := by
    have h2 := run_convert_bytes_arg (P := Tryd.prog) (w.alloc (.cells #[.int .u8 ((s : Int) % 256), .int .u8 ((s : Int) / 256 % 256), .int .u8 ((s : Int) / 65536 % 256), .int .u8 ((s : Int) / 16777216)] 5)) 36 5 Tryd.underlying36 Tryd.underlying5 w.heap.size 0 4 4 [(s : Int) % 256, (s : Int) / 256 % 256, (s : Int) / 65536 % 256, (s : Int) / 16777216] rfl (fun i hi => by
      rw [World.cell?_alloc_mark]
      rcases (show i = 0 ∨ i = 1 ∨ i = 2 ∨ i = 3 by omega) with rfl | rfl | rfl | rfl <;> rfl) 9 Tryd.underlying9
    rw [h2]
    unfold sumB
    rw [bytes4 s, show (s : Int) / 16777216 % 256 = (s : Int) / 16777216 by omega]
    rfl
  go_wp2
  go_ret
  exact ⟨rfl, (Below.refl _ _).alloc (Nat.le_refl _) _⟩
set_option maxRecDepth 100000 in
theorem wrap_any (s : ByteArray) (w : World) (h : s.size ≤ 4096) : Calls Tryd.prog 17 #[.string s] w fun e w' => e = .returned (.tuple #[.string (s ++ sumB (crc s.data.toList)), .nilIface]) ∧ Below w.heap.size w w' := by
  have h4 : (sumB (crc s.data.toList)).size = 4 := rfl
  go_enter Tryd.func17, Tryd.ntmps17
  go_wp2_with fail
  refine (sum_any s w (by unfold maxLen; omega)).mono ?_
  rintro e w1 ⟨rfl, hb1⟩
  go_wp2_with fail
  refine (bytesOf_any _ _ (crc_lt _)).mono ?_
  rintro e w2 ⟨rfl, hb2⟩
  go_wp2_with fail
  go_ret2
  exact ⟨rfl, later hb1 hb2⟩
set_option maxRecDepth 100000 in
theorem wrap_over (s : ByteArray) (w : World) (h : 4096 < s.size) : Calls Tryd.prog 17 #[.string s] w fun e w' => e = .returned (.tuple #[.string ByteArray.empty, .iface 32 (.int .i64 16)]) ∧ w = w' := by
  go_enter Tryd.func17, Tryd.ntmps17
  go_wp2_with fail
  refine (faultNew_any 16 w (by decide)).mono ?_
  rintro e w1 ⟨rfl, rfl⟩
  go_wp2_with fail
  go_ret2
  exact ⟨rfl, rfl⟩
theorem same_bytes (a b : ByteArray) : a.toList = b.toList ↔ a = b := ⟨fun h => ByteArray.ext (Array.ext' (by rw [Go.ByteArray.toList_eq, Go.ByteArray.toList_eq] at h; exact h)), fun h => by rw [h]⟩
theorem HeldB.keep {B : Nat} {a w w' : World} (h : Below B a w ∧ B ≤ w.heap.size) (hb : Below w.heap.size w w') : Below B a w' ∧ B ≤ w'.heap.size := ⟨h.1.trans (hb.mono h.2), Nat.le_trans h.2 hb.size⟩
/-- What Open tells of a text. -/
def openP (s : ByteArray) : ByteArray × Int :=
  if s.size < 4 then (ByteArray.empty, 11)
  else if 4096 < s.size - 4 then (ByteArray.empty, 16)
  else if s.extract (s.size - 4) s.size = sumB (crc (s.extract 0 (s.size - 4)).data.toList) then (s.extract 0 (s.size - 4), 0)
  else (ByteArray.empty, 17)
/-- A code as an error. -/
def errV (c : Int) : Value := if c = 0 then .nilIface else .iface 32 (.int .i64 c)
set_option maxRecDepth 100000 in
set_option maxHeartbeats 1000000 in
theorem open_any (s : ByteArray) (w : World) (h : s.size ≤ maxLen) : Calls Tryd.prog 9 #[.string s] w fun e w' => e = .returned (.tuple #[.string (openP s).1, errV (openP s).2]) ∧ Below w.heap.size w w' := by
  by_cases h4 : s.size < 4
  · have hp : openP s = (ByteArray.empty, 11) := by unfold openP; rw [if_pos h4]
    rw [hp]
    clear hp
    go_enter Tryd.func9, Tryd.ntmps9
    go_wp2_with fail
    refine (faultNew_any 11 w (by decide)).mono ?_
    rintro e w1 ⟨rfl, rfl⟩
    go_wp2_with fail
    go_ret2
    exact ⟨rfl, Below.refl _ _⟩
  · obtain ⟨m, hm⟩ : ∃ m, m = s.size - 4 := ⟨_, rfl⟩
    have hsz : s.size = m + 4 := by omega
    have hmx : m < 9223372036854775804 := by unfold maxLen at h; omega
    by_cases h5 : 4096 < m
    · have hp : openP s = (ByteArray.empty, 16) := by unfold openP; rw [if_neg h4, ← hm, if_pos h5]
      rw [hp]
      clear hp hm
      go_enter Tryd.func9, Tryd.ntmps9
      go_wp2_with fail
      refine (faultNew_any 16 w (by decide)).mono ?_
      rintro e w1 ⟨rfl, rfl⟩
      go_wp2_with fail
      go_ret2
      exact ⟨rfl, Below.refl _ _⟩
    · obtain ⟨x, hx⟩ : ∃ x, x = s.extract m (m + 4) := ⟨_, rfl⟩
      obtain ⟨y, hy⟩ : ∃ y, y = s.extract 0 m := ⟨_, rfl⟩
      have hp : openP s = if x = sumB (crc y.data.toList) then (y, 0) else (ByteArray.empty, 17) := by
        unfold openP; rw [if_neg h4, ← hm, if_neg h5, hsz, ← hx, ← hy]
      have hys : y.size ≤ maxLen := by rw [hy]; simp; unfold maxLen at *; omega
      have hxx : s.extract m (m + 4) = x := hx.symm
      have hyy : s.extract 0 m = y := hy.symm
      have hcr := crc_lt y.data.toList
      have hbw : Below w.heap.size w w.drew := (Below.refl _ _).drew
      clear hx hy hm
      go_enter Tryd.func9, Tryd.ntmps9
      go_upto_region 6 with fail
      go_cut [23] from 5 to 27 (fun s23 wx => s23 = .bool (!(decide (x = sumB (crc y.data.toList)))) ∧ Below w.heap.size w wx)
      case first =>
        go_region_with (first
          | (go_simp; go_at_call_of 20 (Value.string y); refine (sum_any y _ hys).mono ?_; rintro e w4 ⟨rfl, hb4⟩)
          | (go_simp; go_at_call 19; refine (bytesOf_any _ _ hcr).mono ?_; rintro e w5 ⟨rfl, hb5⟩))
        all_goals
          go_wp2_with fail
          go_meet
          exact ⟨congrArg Value.bool (by rw [Bool.eq_iff_iff]; simp; exact not_congr (same_bytes _ _)), (hbw.trans hb4).trans (hb5.mono hb4.size)⟩
      case rest =>
      obtain ⟨rfl, hb⟩ := hcut
      by_cases heq : x = sumB (crc y.data.toList)
      · have hd : decide (x = sumB (crc y.data.toList)) = true := decide_eq_true heq
        rw [hd]
        go_wp2_with fail
        go_ret2
        exact ⟨by rw [hp, if_pos heq]; rfl, hb⟩
      · have hd : decide (x = sumB (crc y.data.toList)) = false := decide_eq_false heq
        rw [hd]
        go_wp2_with fail
        refine (faultNew_any 17 _ (by decide)).mono ?_
        rintro e w1 ⟨rfl, rfl⟩
        go_wp2_with fail
        go_ret2
        exact ⟨by rw [hp, if_neg heq]; rfl, hb⟩
end Go.Proofs.YtndlnphklklclaaDoorRR
