/- CheckBack, walked. -/
import Derived.Test.YtopcohfkfpjecaaDoorOpenL
namespace Go.Proofs.YtopcohfkfpjecaaDoor
open Go.RowKit Crc
set_option maxRecDepth 100000 in
set_option maxHeartbeats 1000000 in
theorem checkBack_walk (s : ByteArray) (w : World) : Calls Tryd.prog 5 #[.string s] w fun e w' => e = .returned (.bool true) ∧ Below w.heap.size w w' := by
  have h300 : (cutB s 300).size ≤ 300 := by rw [cutB_size]; omega
  obtain ⟨a, ha⟩ : ∃ a, a = cutB s 300 := ⟨_, rfl⟩
  rw [← ha] at h300
  obtain ⟨W, -, hW, hop, hwr⟩ := wrap_open a (by omega)
  have hcut : (cutB W 3).size = 3 := by rw [cutB_size]; omega
  have hop3 : openP (cutB W 3) = (ByteArray.empty, 11) := by unfold openP; rw [if_pos (by omega)]
  obtain ⟨b, hb⟩ : ∃ b, b = cutB W 3 := ⟨_, rfl⟩
  rw [← hb] at hcut hop3
  have HOP := Lib.hid hop
  have HOP3 := Lib.hid hop3
  have HA := Lib.hid ha
  have HB := Lib.hid hb
  clear hop hop3 ha hb
  go_enter Tryd.func5, Tryd.ntmps5
  go_wp2_with fail
  refine (awake_any w).mono ?_
  rintro e w1 ⟨rfl, hb1⟩
  go_wp2_with fail
  refine (short_any s 300 _).mono ?_
  rintro e w2 ⟨rfl, rfl⟩
  rw [← HA.out]
  go_wp2_with fail
  refine (hwr _).mono ?_
  rintro e w3 ⟨rfl, hb3⟩
  go_wp2_with fail
  refine (open_at W _ (by unfold maxLen; omega) a 0 .nilIface HOP.out errV0).mono ?_
  rintro e w4 ⟨rfl, hb4⟩
  go_wp2_with fail
  refine (short_any W 3 _).mono ?_
  rintro e w5 ⟨rfl, rfl⟩
  rw [← HB.out]
  go_wp2_with fail
  refine (open_at b _ (by unfold maxLen; omega) ByteArray.empty 11 (.iface 34 (.int .i64 11)) HOP3.out errV11).mono ?_
  rintro e w6 ⟨rfl, hb6⟩
  go_wp2_with fail
  refine (code_nil _).mono ?_
  rintro e w7 ⟨rfl, hb7⟩
  go_wp2_with fail
  refine (code_nil _).mono ?_
  rintro e w8 ⟨rfl, hb8⟩
  go_wp2_with fail
  refine (is_hit 11 _).mono ?_
  rintro e w9 ⟨rfl, rfl⟩
  go_wp2_with fail
  go_ret
  exact ⟨rfl, later hb1 (later hb3 (later hb4 (later hb6 (later hb7 hb8))))⟩
end Go.Proofs.YtopcohfkfpjecaaDoor
