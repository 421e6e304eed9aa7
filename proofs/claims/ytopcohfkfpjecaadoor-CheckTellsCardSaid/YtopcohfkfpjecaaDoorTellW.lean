/- CheckTells, walked. -/
import Derived.Test.YtopcohfkfpjecaaDoorTellsW
import Derived.Test.YtopcohfkfpjecaaDoorMutL
import Derived.Laws.MakeOwn
namespace Go.Proofs.YtopcohfkfpjecaaDoor
open Go.RowKit Crc
theorem mask4 (q : Int) : ∃ k : Nat, bits .and .i64 q 15 = (k : Int) ∧ k ≤ 15 := by
  refine ⟨(BitVec.ofInt 64 q).toNat % 16, ?_, by omega⟩
  show IntKind.i64.wrap ((BitVec.ofInt 64 q &&& BitVec.ofInt 64 15).toNat : Int) = _
  rw [BitVec.toNat_and, show (BitVec.ofInt 64 15).toNat = 2 ^ 4 - 1 from by decide, Nat.and_two_pow_sub_one_eq_mod, IntKind.wrap_i64]
  omega
theorem made_bytes (w : World) (n t : Nat) : Bytes (w.alloc (.cells (madeCells #[.int .u8 0] n) t)) w.heap.size (List.replicate n 0) := fun j u hj => by
  have hjn : j < n := by
    rcases Nat.lt_or_ge j n with h | h
    · exact h
    · rw [List.getElem?_eq_none (by simpa using h)] at hj; cases hj
  have hu : u = 0 := by
    rw [List.getElem?_replicate, if_pos hjn] at hj
    exact (Option.some.inj hj).symm
  subst hu
  refine ⟨(World.cell?_alloc_mark w _ t (0, 0) j).trans ?_, ?_⟩
  · simp [madeCells, hjn, Nat.mod_one]
    rfl
  · simp
set_option maxRecDepth 100000 in
set_option maxHeartbeats 1000000 in
theorem checkTells_walk (s : ByteArray) (long c : Int) (w : World) (hc : 0 ≤ c ∧ c ≤ 255) (hg : ErrT w) : Calls Tryd.prog 3 #[.string s, .int .i64 long, .int .u8 c] w fun e w' => e = .returned (.bool true) ∧ Below w.heap.size w w' := by
  have h300 : (cutB s 300).size ≤ 300 := by rw [cutB_size]; omega
  obtain ⟨x, hx⟩ : ∃ x, x = cutB s 300 := ⟨_, rfl⟩
  rw [← hx] at h300
  obtain ⟨k, hk, hk15⟩ := mask4 long
  obtain ⟨u, hu⟩ : ∃ u : UInt8, Value.int .u8 c = bv u := ⟨UInt8.ofNat c.toNat, by unfold bv; congr 1; simp; omega⟩
  obtain ⟨i0, hi, hz0, hz1, hz2⟩ := info_parts (show (Tryd.prog.info? 5).map (fun i => (i.zero, i.size, i.bytes)) = some (some (.int .u8 0), 1, 1) from by kernel_rfl)
  have HX := Lib.hid hx
  have HU := Lib.hid hu
  clear hx hu
  go_enter Tryd.func3, Tryd.ntmps3
  go_wp2_with fail
  refine (awake_any _).mono ?_
  rintro e w1 ⟨rfl, hb1⟩
  go_wp2_with fail
  refine (short_any s 300 _).mono ?_
  rintro e w2 ⟨rfl, rfl⟩
  rw [← HX.out]
  have hmk := run_make (P := Tryd.prog) w1 24 5 i0 (.int .u8 0) Tryd.underlying24 hi hz0 .i64 .i64 (4090 + (k : Int)) (4090 + (k : Int)) (by omega) (Int.le_refl _) (by rw [hz2]; omega) (by omega)
  rw [hz1, show (4090 + (k : Int)).toNat = 4090 + k from by omega, Nat.mul_one] at hmk
  have hby := made_bytes w1 (4090 + k) 5
  have hby' : Bytes (w1.alloc (.cells (madeCells (Value.int .u8 0).cells (4090 + k)) 5)) w1.heap.size (List.replicate (4090 + k) 0) := hby
  have hb2 : Below w.heap.size w (w1.alloc (.cells (madeCells (Value.int .u8 0).cells (4090 + k)) 5)) := hb1.alloc hb1.size _
  clear hby
  generalize w1.alloc (.cells (madeCells (Value.int .u8 0).cells (4090 + k)) 5) = w2 at hmk hby' hb2
  clear hi hz0 hz1 hz2
  go_wp2_with fail
  go_loopw [9] (fun i wr => ∃ (j : Nat) (l : List UInt8), j ≤ 4090 + k ∧ i = .int .i64 j ∧ l.length = 4090 + k ∧ Bytes wr w1.heap.size l ∧ Below w.heap.size w wr ∧ w.heap.size ≤ w1.heap.size) (fun i _ => 4090 + k - (intOf i).toNat)
  case atStart => exact ⟨0, _, by omega, rfl, by simp, hby', hb2, hb1.size⟩
  case round =>
    obtain ⟨j, l, hj, rfl, hl, hBr, hbr, hws⟩ := hrel
    by_cases hlt : j < 4090 + k
    · obtain ⟨v, hv⟩ : ∃ v, l[j]? = some v := ⟨_, List.getElem?_eq_getElem (by omega)⟩
      obtain ⟨hc1, hf1⟩ := hBr j v hv
      have hset := Lib.hid (hBr.set j u)
      have hbs := Lib.hid (hbr.setCell (p := ⟨w1.heap.size, j, none⟩) hws (bv u))
      have hL := Lib.hid hl
      unfold bv at hc1
      clear hv hBr hbr hl hb1 hb2 hby' hmk
      go_wp2
      go_roundw
      case rel => exact ⟨j + 1, l.set j u, by omega, by go_num, by rw [List.length_set]; exact hL.out, by rw [HU.out]; exact hset.out, by rw [HU.out]; exact hbs.out, hws⟩
      case measure => simp [intOf]; omega
    · have hgr := hg.below hbr
      have ht1 := tells_any x wr (by omega) hgr
      obtain ⟨v, hv⟩ : ∃ v, l[0]? = some v := ⟨_, List.getElem?_eq_getElem (by omega)⟩
      have hblt : w1.heap.size < wr.heap.size := World.block_lt_of_cell? wr _ (hBr 0 v hv).1
      clear hv hmk hb1 hb2 hby'
      go_wp2_with fail
      refine ht1.mono ?_
      rintro e w5 ⟨rfl, hb5⟩
      have hstr := string_of (P := Tryd.prog) (src := 24) (dst := 9) (hBr.below hb5 hblt) (4090 + k) Tryd.underlying24 Tryd.underlying5 Tryd.underlying9
      rw [hl] at hstr
      have hsz : (⟨l.toArray⟩ : ByteArray).size ≤ 1000000 := by
        show l.toArray.size ≤ _
        rw [List.size_toArray, hl]
        omega
      generalize (⟨l.toArray⟩ : ByteArray) = z at hstr hsz
      have ht2 := tells_any z w5 hsz (hgr.below hb5)
      clear hl hBr
      go_wp2_with fail
      refine ht2.mono ?_
      rintro e w6 ⟨rfl, hb6⟩
      clear hstr
      go_wp2_with fail
      refine (sum_any x _ (by unfold maxLen; omega)).mono ?_
      rintro e w7 ⟨rfl, hb7⟩
      go_wp2_with fail
      refine (refSum_any x _ (by unfold maxLen; omega)).mono ?_
      rintro e w8 ⟨rfl, rfl⟩
      go_wp2_with fail
      go_ret
      exact ⟨rfl, later hbr (later hb5 (later hb6 hb7))⟩
end Go.Proofs.YtopcohfkfpjecaaDoor
