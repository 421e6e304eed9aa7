/- The document's sum, wrap and open, and tells, walked. -/
import Derived.Test.YtopcohfkfpjecaaDoorOpenL
import Derived.Deep.RegionHeld3
import Derived.Deep.Cut
namespace Go.Proofs.YtopcohfkfpjecaaDoor
open Go.RowKit Crc
theorem sum_conv (s : Nat) (w : World) (h : s < 4294967296) : (convert 24 9 (.slice (some ⟨w.heap.size, 0, none⟩) 4 4)).run Tryd.prog (w.alloc (.cells #[.int .u8 ((s : Int) % 256), .int .u8 ((s : Int) / 256 % 256), .int .u8 ((s : Int) / 65536 % 256), .int .u8 ((s : Int) / 16777216)] 5)) = .ok (.string (sumB s)) (w.alloc (.cells #[.int .u8 ((s : Int) % 256), .int .u8 ((s : Int) / 256 % 256), .int .u8 ((s : Int) / 65536 % 256), .int .u8 ((s : Int) / 16777216)] 5)) := by
    have h2 := run_convert_bytes_arg (P := Tryd.prog) (w.alloc (.cells #[.int .u8 ((s : Int) % 256), .int .u8 ((s : Int) / 256 % 256), .int .u8 ((s : Int) / 65536 % 256), .int .u8 ((s : Int) / 16777216)] 5)) 24 5 Tryd.underlying24 Tryd.underlying5 w.heap.size 0 4 4 [(s : Int) % 256, (s : Int) / 256 % 256, (s : Int) / 65536 % 256, (s : Int) / 16777216] rfl (fun i hi => by
      rw [World.cell?_alloc_mark]
      rcases (show i = 0 ∨ i = 1 ∨ i = 2 ∨ i = 3 by omega) with rfl | rfl | rfl | rfl <;> rfl) 9 Tryd.underlying9
    rw [h2]
    unfold sumB
    rw [bytes4 s, show (s : Int) / 16777216 % 256 = (s : Int) / 16777216 by omega]
    rfl
set_option maxRecDepth 100000 in
set_option maxHeartbeats 1000000 in
theorem refSum_any (s : ByteArray) (w : World) (hsz : s.size ≤ maxLen) : Calls Tryd.prog 10 #[.string s] w fun e w' => e = .returned (.int .u32 (crc s.data.toList : Int)) ∧ w = w' := by
  unfold maxLen at hsz
  go_enter Tryd.func10, Tryd.ntmps10
  go_wp2
  go_loop [3, 4, 5, 6] (fun r i _ _ => ∃ k x : Nat, k ≤ s.size ∧ x = run ones (s.data.toList.take k) ∧ i = .int .i64 k ∧ r = .int .u32 x) (fun _ i _ _ => s.size - (intOf i).toNat)
  case atStart => exact ⟨0, ones, by omega, rfl, rfl, rfl⟩
  case round =>
    obtain ⟨k, x, hk, hx, rfl, rfl⟩ := hrel
    have hx32 : x < 4294967296 := by rw [hx]; exact run_lt _ _ ones_lt
    have HX := Lib.hid hx
    clear hx
    by_cases hlt : k < s.size
    · obtain ⟨y, hy⟩ : ∃ y, y = x ^^^ (s[k]'hlt).toNat := ⟨_, rfl⟩
      have hc256 : (s[k]'hlt).toNat < 256 := UInt8.toNat_lt _
      have hy32 : y < 4294967296 := by rw [hy]; exact Nat.xor_lt_two_pow (n := 32) hx32 (by omega)
      have hxb : bits .xor .u32 (x : Int) ((s[k]'hlt).toNat : Int) = (y : Int) := by
        rw [hy]
        exact u32_xor_nat x (s[k]'hlt).toNat hx32 (by omega)
      have HY := Lib.hid hy
      clear hy
      go_wp2
      go_loop [3, 5, 6] (fun r j _ => ∃ n q : Nat, n ≤ 8 ∧ q = stepN n y ∧ j = .int .i64 n ∧ r = .int .u32 q) (fun _ j _ => 8 - (intOf j).toNat)
      case atStart => exact ⟨0, y, by omega, rfl, rfl, by first | rfl | rw [hxb]⟩
      case round =>
        obtain ⟨n, q, hn, hq, rfl, rfl⟩ := hrel
        have hlr : q < 4294967296 := by rw [hq]; exact stepN_lt n y hy32
        have hst : stepN (n + 1) y = Crc.step q := by rw [hq]; rfl
        have hlow := low_bit q hlr
        have htur := turned q hlr
        have HQ := Lib.hid hq
        have HS := Lib.hid hst
        have HU := Lib.hid htur
        clear hq hst htur
        by_cases hln : n < 8
        · by_cases hodd : q % 2 = 1
          · have ho : (bits .and .u32 (q : Int) 1 == 1) = true := by rw [hlow]; simp [hodd]
            clear hlow
            go_wp2
            go_round
            case rel => exact ⟨n + 1, q / 2 ^^^ poly, by omega, by rw [HS.out, step_odd hodd], by go_num, by rw [HU.out]⟩
            case measure => simp [intOf]; omega
          · have ho : (bits .and .u32 (q : Int) 1 == 1) = false := by rw [hlow]; simp; omega
            clear hlow
            go_wp2
            go_round
            case rel => exact ⟨n + 1, q / 2, by omega, by rw [HS.out, step_no hodd], by go_num, by go_num⟩
            case measure => simp [intOf]; omega
        · clear hlow
          go_wp2
          go_round
          case rel =>
            obtain rfl : n = 8 := by omega
            exact ⟨k + 1, q, by omega, by rw [take_snoc_b s k hlt, run_snoc, ← HX.out, HQ.out, HY.out]; rfl, by go_num, rfl⟩
          case measure => simp [intOf]; omega
    · have hmq : bits .xor .u32 (x : Int) 4294967295 = ((x ^^^ ones : Nat) : Int) := u32_xor_nat x 4294967295 hx32 (by omega)
      go_wp2
      go_ret
      exact ⟨by rw [HX.out, List.take_of_length_le (show s.data.toList.length ≤ k by have : s.data.toList.length = s.size := rfl; omega)]; rfl, rfl⟩
def wrapP (s : ByteArray) : ByteArray × Int := if 4096 < s.size then (ByteArray.empty, 16) else (s ++ sumB (crc s.data.toList), 0)
theorem wrapB_any (s : ByteArray) (w : World) : Calls Tryd.prog 11 #[.string s] w fun e w' => e = .returned (.tuple #[.string (wrapP s).1, errV (wrapP s).2]) ∧ Below w.heap.size w w' := by
  unfold wrapP
  by_cases h : 4096 < s.size
  · rw [if_pos h]
    exact (wrap_over s w h).mono fun e w' ⟨he, hw⟩ => ⟨he, by subst hw; exact Below.refl _ _⟩
  · rw [if_neg h]
    exact wrap_any s w (by omega)
set_option maxRecDepth 100000 in
set_option maxHeartbeats 1000000 in
theorem refWrap_any (s : ByteArray) (w : World) (hsz : s.size ≤ maxLen) : Calls Tryd.prog 15 #[.string s] w fun e w' => e = .returned (.agg #[.string (wrapP s).1, .int .i64 (wrapP s).2]) ∧ Below w.heap.size w w' := by
  by_cases h : 4096 < s.size
  · have hp : wrapP s = (ByteArray.empty, 16) := if_pos h
    rw [hp]
    clear hp
    go_enter Tryd.func15, Tryd.ntmps15
    go_wp2
    refine bodyPost_ret (v := .agg #[.string ByteArray.empty, .int .i64 16]) ?_ rfl ⟨rfl, ?_⟩
    · simp [results, Tryd.results15, go_sem]
      rfl
    · exact (Below.refl _ _).alloc (Nat.le_refl _) _
  · have hp : wrapP s = (s ++ sumB (crc s.data.toList), 0) := if_neg h
    rw [hp]
    clear hp
    have h4 : ∀ n, (sumB n).size = 4 := fun n => rfl
    have hcl := crc_lt s.data.toList
    have hrs := refSum_any s (w.alloc (.cells #[.string ByteArray.empty, .int .i64 0] 39)) hsz
    generalize crc s.data.toList = n at hcl hrs ⊢
    have hsn := h4 n
    have hconv : (convert 24 9 (.slice (some ⟨(w.alloc (.cells #[.string ByteArray.empty, .int .i64 0] 39)).heap.size, 0, none⟩) 4 4)).run Tryd.prog ((w.alloc (.cells #[.string ByteArray.empty, .int .i64 0] 39)).alloc (.cells #[.int .u8 ((n : Int) % 256), .int .u8 ((n : Int) / 256 % 256), .int .u8 ((n : Int) / 65536 % 256), .int .u8 ((n : Int) / 16777216)] 5)) = .ok (.string (sumB n)) ((w.alloc (.cells #[.string ByteArray.empty, .int .i64 0] 39)).alloc (.cells #[.int .u8 ((n : Int) % 256), .int .u8 ((n : Int) / 256 % 256), .int .u8 ((n : Int) / 65536 % 256), .int .u8 ((n : Int) / 16777216)] 5)) := sum_conv n _ hcl
    rw [World.size_alloc] at hconv
    clear h4
    go_enter Tryd.func15, Tryd.ntmps15
    go_wp2_with fail
    refine hrs.mono ?_
    rintro e w1 ⟨rfl, rfl⟩
    go_wp2_with fail
    refine bodyPost_ret (v := .agg #[.string (s ++ sumB n), .int .i64 0]) ?_ rfl ⟨rfl, ?_⟩
    · simp [results, Tryd.results15, go_sem]
    · exact ((Below.refl _ _).alloc (Nat.le_refl _) _).alloc (by simp) _
theorem refWrap_at (s : ByteArray) (w : World) (hsz : s.size ≤ maxLen) (x : ByteArray) (c : Int) (h : wrapP s = (x, c)) : Calls Tryd.prog 15 #[.string s] w fun e w' => e = .returned (.agg #[.string x, .int .i64 c]) ∧ Below w.heap.size w w' := by
  have := refWrap_any s w hsz
  rw [h] at this
  exact this
theorem split_at (s : ByteArray) (m : Nat) (h : s.size = m + 4) (z : ByteArray) (hz : z.size = 4) : s.extract m (m + 4) = z ↔ s.extract 0 m ++ z = s := by
  have hm : (s.extract 0 m).size = m := by simp; omega
  constructor
  · intro e
    rw [← e]
    apply ByteArray.ext
    have : s.data.size = m + 4 := h
    simp
    right
    omega
  · intro e
    have h2 := ext_right (s.extract 0 m) z
    rw [e, hm, hz] at h2
    exact h2
set_option maxRecDepth 100000 in
set_option maxHeartbeats 1000000 in
theorem refOpen_any (s : ByteArray) (w : World) (h : s.size ≤ maxLen) : Calls Tryd.prog 16 #[.string s] w fun e w' => e = .returned (.agg #[.string (openP s).1, .int .i64 (openP s).2]) ∧ Below w.heap.size w w' := by
  by_cases h4 : s.size < 4
  · have hp : openP s = (ByteArray.empty, 11) := by unfold openP; rw [if_pos h4]
    rw [hp]
    clear hp
    go_enter Tryd.func16, Tryd.ntmps16
    go_wp2
    refine bodyPost_ret (v := .agg #[.string ByteArray.empty, .int .i64 11]) ?_ rfl ⟨rfl, ?_⟩
    · simp [results, Tryd.results16, go_sem]
      rfl
    · exact (Below.refl _ _).alloc (Nat.le_refl _) _
  · obtain ⟨m, hm⟩ : ∃ m, m = s.size - 4 := ⟨_, rfl⟩
    have hsz : s.size = m + 4 := by omega
    have hmx : m < 9223372036854775804 := by unfold maxLen at h; omega
    obtain ⟨y, hy⟩ : ∃ y, y = s.extract 0 m := ⟨_, rfl⟩
    have hys : y.size = m := by rw [hy]; simp; omega
    have hysm : y.size ≤ maxLen := by unfold maxLen; omega
    have hyy : s.extract 0 m = y := hy.symm
    by_cases h5 : 4096 < m
    · have hp : openP s = (ByteArray.empty, 16) := by unfold openP; rw [if_neg h4, ← hm, if_pos h5]
      have hw : wrapP y = (ByteArray.empty, 16) := if_pos (by omega)
      rw [hp]
      have HW := Lib.hid hw
      clear hp hm hw hy
      go_enter Tryd.func16, Tryd.ntmps16
      go_wp2_with fail
      refine (refWrap_at y _ hysm _ _ HW.out).mono ?_
      rintro e w1 ⟨rfl, hb1⟩
      have hB1 : Blk w1 w.heap.size 39 #[.string ByteArray.empty, .int .i64 0] := (Blk.new w 39 #[.string ByteArray.empty, .int .i64 0]).below hb1 (by simp)
      have c0 := hB1.cell 0
      have c1 := hB1.cell 1
      have f0 := hB1.free 0
      have f1 := hB1.free 1
      have hlt := hB1.lt
      go_wp2_with fail
      have hD := ((hB1.set 0 (.string ByteArray.empty)).set 1 (.int .i64 16)).alloc (.cells #[.string ByteArray.empty, .int .i64 16] 39)
      have d0 := hD.cell 0
      have d1 := hD.cell 1
      simp at d0 d1
      refine bodyPost_ret (v := .agg #[.string ByteArray.empty, .int .i64 16]) ?_ rfl ⟨rfl, ?_⟩
      · simp [results, Tryd.results16, go_sem, d0, d1]
      · exact ((((later_alloc _ hb1).setCell (Nat.le_refl _) _).setCell (Nat.le_refl _) _).alloc (by have := (later_alloc _ hb1).size; simp; omega) _)
    · have hw : wrapP y = (y ++ sumB (crc y.data.toList), 0) := if_neg (by omega)
      obtain ⟨z, hz⟩ : ∃ z, z = y ++ sumB (crc y.data.toList) := ⟨_, rfl⟩
      rw [← hz] at hw
      have hp : openP s = if z = s then (y, 0) else (ByteArray.empty, 17) := by
        unfold openP
        rw [if_neg h4, ← hm, if_neg h5, hsz, ← hy]
        have := split_at s m hsz (sumB (crc y.data.toList)) (sumB_size _)
        rw [← hy, ← hz] at this
        simp only [this]
      have HW := Lib.hid hw
      by_cases hzs : z = s
      · rw [if_pos hzs] at hp
        have hzb : (z.toList == s.toList) = true := by rw [hzs]; exact beq_self_eq_true _
        rw [hp]
        clear hp hm hw hy hz hzs
        go_enter Tryd.func16, Tryd.ntmps16
        go_wp2_with fail
        refine (refWrap_at y _ hysm _ _ HW.out).mono ?_
        rintro e w1 ⟨rfl, hb1⟩
        have hB1 : Blk w1 w.heap.size 39 #[.string ByteArray.empty, .int .i64 0] := (Blk.new w 39 #[.string ByteArray.empty, .int .i64 0]).below hb1 (by simp)
        have c0 := hB1.cell 0
        have c1 := hB1.cell 1
        have f0 := hB1.free 0
        have f1 := hB1.free 1
        have hlt := hB1.lt
        go_wp2_with fail
        have hD := ((hB1.set 0 (.string y)).set 1 (.int .i64 0)).alloc (.cells #[.string z, .int .i64 0] 39)
        have d0 := hD.cell 0
        have d1 := hD.cell 1
        simp at d0 d1
        refine bodyPost_ret (v := .agg #[.string y, .int .i64 0]) ?_ rfl ⟨rfl, ?_⟩
        · simp [results, Tryd.results16, go_sem, d0, d1]
        · exact ((((later_alloc _ hb1).setCell (Nat.le_refl _) _).setCell (Nat.le_refl _) _).alloc (by have := (later_alloc _ hb1).size; simp; omega) _)
      · rw [if_neg hzs] at hp
        have hzb : (z.toList == s.toList) = false := by
          rw [beq_eq_false_iff_ne]
          exact fun e => hzs ((same_bytes _ _).1 e)
        rw [hp]
        clear hp hm hw hy hz hzs
        go_enter Tryd.func16, Tryd.ntmps16
        go_wp2_with fail
        refine (refWrap_at y _ hysm _ _ HW.out).mono ?_
        rintro e w1 ⟨rfl, hb1⟩
        have hB1 : Blk w1 w.heap.size 39 #[.string ByteArray.empty, .int .i64 0] := (Blk.new w 39 #[.string ByteArray.empty, .int .i64 0]).below hb1 (by simp)
        have c0 := hB1.cell 0
        have c1 := hB1.cell 1
        have f0 := hB1.free 0
        have f1 := hB1.free 1
        have hlt := hB1.lt
        go_wp2_with fail
        have hD := ((hB1.set 0 (.string ⟨#[]⟩)).set 1 (.int .i64 17)).alloc (.cells #[.string z, .int .i64 0] 39)
        have d0 := hD.cell 0
        have d1 := hD.cell 1
        simp at d0 d1
        refine bodyPost_ret (v := .agg #[.string ⟨#[]⟩, .int .i64 17]) ?_ rfl ⟨rfl, ?_⟩
        · simp [results, Tryd.results16, go_sem, d0, d1]
        · exact ((((later_alloc _ hb1).setCell (Nat.le_refl _) _).setCell (Nat.le_refl _) _).alloc (by have := (later_alloc _ hb1).size; simp; omega) _)
theorem code_any (c : Int) (w : World) (hg : ErrT w) : Calls Tryd.prog 12 #[errV c] w fun e w' => e = .returned (.int .i64 c) ∧ Below w.heap.size w w' := by
  unfold errV
  by_cases h : c = 0
  · rw [if_pos h, h]
    exact code_nil w
  · rw [if_neg h]
    exact code_hit c w hg
theorem blk2 {w : World} {g t : Nat} {x0 x1 : Value} (h : Blk w g t #[x0, x1]) : w.cell? ⟨g, 0, none⟩ = some x0 ∧ w.cell? ⟨g, 1, none⟩ = some x1 := ⟨h.cell 0, h.cell 1⟩
theorem keepc {w w' : World} {p : Addr} {v : Value} (hb : Below w.heap.size w w') (h : w.cell? p = some v) : w'.cell? p = some v := (hb.cell (World.block_lt_of_cell? w p h)).trans h
abbrev HeldT (B g5 g8 g11 : Nat) (p1 q1 r1 : ByteArray) (p2 q2 r2 : Int) (w0 w : World) : Prop :=
  w.cell? ⟨g5, 0, none⟩ = some (.string p1) ∧ w.cell? ⟨g5, 1, none⟩ = some (.int .i64 p2) ∧ w.cell? ⟨g8, 0, none⟩ = some (.string q1) ∧ w.cell? ⟨g8, 1, none⟩ = some (.int .i64 q2) ∧ w.cell? ⟨g11, 0, none⟩ = some (.string r1) ∧ w.cell? ⟨g11, 1, none⟩ = some (.int .i64 r2) ∧ ErrT w ∧ Below B w0 w ∧ B ≤ w.heap.size
section
variable {B g5 g8 g11 : Nat} {p1 q1 r1 : ByteArray} {p2 q2 r2 : Int} {w0 w w' : World}
theorem HeldT.keep (h : HeldT B g5 g8 g11 p1 q1 r1 p2 q2 r2 w0 w) (hb : Below w.heap.size w w') : HeldT B g5 g8 g11 p1 q1 r1 p2 q2 r2 w0 w' :=
  ⟨keepc hb h.1, keepc hb h.2.1, keepc hb h.2.2.1, keepc hb h.2.2.2.1, keepc hb h.2.2.2.2.1, keepc hb h.2.2.2.2.2.1, h.2.2.2.2.2.2.1.below hb, h.2.2.2.2.2.2.2.1.trans (hb.mono h.2.2.2.2.2.2.2.2), Nat.le_trans h.2.2.2.2.2.2.2.2 hb.size⟩
theorem HeldT.err (h : HeldT B g5 g8 g11 p1 q1 r1 p2 q2 r2 w0 w) : ErrT w := h.2.2.2.2.2.2.1
theorem HeldT.bel (h : HeldT B g5 g8 g11 p1 q1 r1 p2 q2 r2 w0 w) : Below B w0 w := h.2.2.2.2.2.2.2.1
end
set_option maxRecDepth 100000 in
set_option maxHeartbeats 2000000 in
theorem tells_any (s : ByteArray) (w : World) (h : s.size ≤ 1000000) (hg : ErrT w) : Calls Tryd.prog 8 #[.string s] w fun e w' => e = .returned (.bool true) ∧ Below w.heap.size w w' := by
  have hw1 := wrapB_any s
  have hw2 := fun w => refWrap_any s w (by unfold maxLen; omega)
  have ho1 := fun w => open_any s w (by unfold maxLen; omega)
  have ho2 := fun w => refOpen_any s w (by unfold maxLen; omega)
  have hp1 : (wrapP s).1.size ≤ 1000004 := by
    unfold wrapP
    split
    · exact Nat.zero_le _
    · show (s ++ sumB (crc s.data.toList)).size ≤ _
      rw [ByteArray.size_append, sumB_size]
      omega
  generalize (wrapP s).1 = p1 at hw1 hw2 hp1
  generalize (wrapP s).2 = p2 at hw1 hw2
  generalize (openP s).1 = q1 at ho1 ho2
  generalize (openP s).2 = q2 at ho1 ho2
  have hx1 := fun w => open_any p1 w (by unfold maxLen; omega)
  have hx2 := fun w => refOpen_any p1 w (by unfold maxLen; omega)
  generalize (openP p1).1 = r1 at hx1 hx2
  generalize (openP p1).2 = r2 at hx1 hx2
  obtain ⟨e1, he1⟩ : ∃ e, e = errV p2 := ⟨_, rfl⟩
  obtain ⟨e2, he2⟩ : ∃ e, e = errV q2 := ⟨_, rfl⟩
  obtain ⟨e3, he3⟩ : ∃ e, e = errV r2 := ⟨_, rfl⟩
  have hc1 : ∀ w, ErrT w → Calls Tryd.prog 12 #[e1] w fun e w' => e = .returned (.int .i64 p2) ∧ Below w.heap.size w w' := by rw [he1]; exact code_any p2
  have hc2 : ∀ w, ErrT w → Calls Tryd.prog 12 #[e2] w fun e w' => e = .returned (.int .i64 q2) ∧ Below w.heap.size w w' := by rw [he2]; exact code_any q2
  have hc3 : ∀ w, ErrT w → Calls Tryd.prog 12 #[e3] w fun e w' => e = .returned (.int .i64 r2) ∧ Below w.heap.size w w' := by rw [he3]; exact code_any r2
  rw [← he1] at hw1
  rw [← he2] at ho1
  rw [← he3] at hx1
  clear he1 he2 he3
  go_enter Tryd.func8, Tryd.ntmps8
  go_wp2_with fail
  refine (hw1 _).mono ?_
  rintro e w1 ⟨rfl, hb1⟩
  go_wp2_with fail
  refine (hw2 _).mono ?_
  rintro e w2 ⟨rfl, hb2⟩
  go_wp2_with fail
  refine (ho1 _).mono ?_
  rintro e w3 ⟨rfl, hb3⟩
  have hB3 : Blk w3 w2.heap.size 39 #[.string p1, .int .i64 p2] := (Blk.new w2 39 _).below hb3 (by simp)
  go_wp2_with fail
  refine (ho2 _).mono ?_
  rintro e w4 ⟨rfl, hb4⟩
  have hB4 := hB3.below hb4 hB3.lt
  have hB4a := hB4.alloc (.cells #[.string q1, .int .i64 q2] 39)
  have hD4 := Blk.new w4 39 #[.string q1, .int .i64 q2]
  obtain ⟨c0, c1⟩ := blk2 hB4a
  go_wp2_with fail
  refine (hx1 _).mono ?_
  rintro e w5 ⟨rfl, hb5⟩
  have hB5 := hB4a.below hb5 hB4a.lt
  have hD5 := hD4.below hb5 hD4.lt
  clear c0 c1
  obtain ⟨c0, c1⟩ := blk2 hB5
  go_wp2_with fail
  refine (hx2 _).mono ?_
  rintro e w6 ⟨rfl, hb6⟩
  clear c0 c1
  have hB6 := (hB5.below hb6 hB5.lt).alloc (.cells #[.string r1, .int .i64 r2] 39)
  have hD6 := (hD5.below hb6 hD5.lt).alloc (.cells #[.string r1, .int .i64 r2] 39)
  have hE6 := Blk.new w6 39 #[.string r1, .int .i64 r2]
  have hbe : Below w.heap.size w (w6.alloc (.cells #[.string r1, .int .i64 r2] 39)) := by
    have h1 := later hb1 (later hb2 (later_alloc _ hb3))
    have h2 := later h1 (later hb4 (later_alloc _ (later hb5 hb6)))
    exact h2.alloc h2.size _
  have hge : ErrT (w6.alloc (.cells #[.string r1, .int .i64 r2] 39)) := hg.below hbe
  obtain ⟨b0, b1⟩ := blk2 hB6
  obtain ⟨d0, d1⟩ := blk2 hD6
  obtain ⟨f0, f1⟩ := blk2 hE6
  have hS : HeldT w.heap.size w2.heap.size w4.heap.size w6.heap.size p1 q1 r1 p2 q2 r2 w (w6.alloc (.cells #[.string r1, .int .i64 r2] 39)) := ⟨b0, b1, d0, d1, f0, f1, hge, hbe, hbe.size⟩
  clear hw1 hw2 ho1 ho2 hx1 hx2 hb1 hb2 hb3 hb4 hb5 hb6 hB3 hB4 hB4a hB5 hB6 hD4 hD5 hD6 hE6 hge hbe
  go_upto_region 7 with fail
  clear b0 b1 d0 d1 f0 f1
  have hS0 : HeldT w.heap.size w2.heap.size w4.heap.size w6.heap.size p1 q1 r1 p2 q2 r2 w (w6.alloc (.cells #[.string r1, .int .i64 r2] 39)).drew := ⟨hS.1, hS.2.1, hS.2.2.1, hS.2.2.2.1, hS.2.2.2.2.1, hS.2.2.2.2.2.1, hS.2.2.2.2.2.2.1, hS.bel.drew, hS.bel.size⟩
  clear hS
  generalize w6.alloc (.cells #[.string r1, .int .i64 r2] 39) = w7 at hS0 ⊢
  go_region_held3 (fun w' => w'.cell? ⟨w2.heap.size, 0, none⟩ = some (.string p1) ∧ w'.cell? ⟨w2.heap.size, 1, none⟩ = some (.int .i64 p2) ∧ w'.cell? ⟨w4.heap.size, 0, none⟩ = some (.string q1) ∧ w'.cell? ⟨w4.heap.size, 1, none⟩ = some (.int .i64 q2) ∧ w'.cell? ⟨w6.heap.size, 0, none⟩ = some (.string r1) ∧ w'.cell? ⟨w6.heap.size, 1, none⟩ = some (.int .i64 r2) ∧ ErrT w' ∧ Below w.heap.size w w' ∧ w.heap.size ≤ w'.heap.size) (first | exact hS0 | exact hq) (first
    | (go_at_call_of 12 e1; refine (hc1 _ (HeldT.err (by assumption))).mono ?_; rintro e w8 ⟨rfl, hb8⟩; have hq := HeldT.keep (by assumption) hb8)
    | (go_at_call_of 12 e2; refine (hc2 _ (HeldT.err (by assumption))).mono ?_; rintro e w8 ⟨rfl, hb8⟩; have hq := HeldT.keep (by assumption) hb8)
    | (go_at_call_of 12 e3; refine (hc3 _ (HeldT.err (by assumption))).mono ?_; rintro e w8 ⟨rfl, hb8⟩; have hq := HeldT.keep (by assumption) hb8))
  go_wp2_with fail
  refine bodyPost_ret (v := .bool true) ?_ rfl ⟨rfl, HeldT.bel (by assumption)⟩
  simp [results, Tryd.results8, go_sem]
end Go.Proofs.YtopcohfkfpjecaaDoor
