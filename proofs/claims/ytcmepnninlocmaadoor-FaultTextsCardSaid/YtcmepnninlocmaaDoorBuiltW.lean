/- built, walked: the loop; its four branches are texts of their own (printed by mkbuilt.py). -/
import Derived.Test.YtcmepnninlocmaaDoorBuiN
import Derived.Test.YtcmepnninlocmaaDoorBuiA
import Derived.Test.YtcmepnninlocmaaDoorBuiI
import Derived.Test.YtcmepnninlocmaaDoorBuiJ
namespace Go.Proofs.YtcmepnninlocmaaDoor
open Go.RowKit
set_option maxRecDepth 100000 in
set_option maxHeartbeats 60000000 in
theorem built_any (A : Option Addr) (n c : Nat) (w : World) (hA : OpsAt w A n) (hn : n ≤ maxLen) :
    Calls Tryd.prog 6 #[.slice A n c] w fun e w' => (∃ va vb N, e = .returned (.tuple #[va, vb]) ∧ N ≤ 30 ∧ PileAt w' w.heap.size va vb N 1800) ∧ Below w.heap.size w w' := by
  unfold maxLen at hn
  obtain ⟨i0, hi, hz0, hz1, hz2⟩ := info_parts (show (Tryd.prog.info? 29).map (fun i => (i.zero, i.size, i.bytes)) = some (some .nilIface, 1, 16) from by kernel_rfl)
  obtain ⟨i1, ki, kz0, kz1, kz2⟩ := info_parts (show (Tryd.prog.info? 45).map (fun i => (i.zero, i.size, i.bytes)) = some (some (.agg #[.int .i64 0, .int .i64 0, .int .i64 0, .string ByteArray.empty, .slice none 0 0]), 5, 64) from by kernel_rfl)
  go_enter Tryd.func6, Tryd.ntmps6
  go_wp2
  go_loopw [4, 5, 6] (fun s4 s5 s6 wr => ∃ k N : Nat, k ≤ 30 ∧ k ≤ n ∧ s6 = .int .i64 (k : Nat) ∧ N ≤ k ∧ PileAt wr w.heap.size s4 s5 N (60 * k) ∧ Below w.heap.size w wr) (fun _ _ i _ => n - (intOf i).toNat)
  case atStart => exact ⟨0, 0, by omega, by omega, rfl, by omega, ⟨[], [], [], rfl, rfl, ⟨⟨rfl, .inl ⟨rfl, rfl⟩⟩, ⟨rfl, .inl ⟨rfl, rfl⟩⟩, ⟨rfl, fun i F v h => by simp at h⟩, Nat.le_refl _⟩, by simp [pot]⟩, Below.refl _ _⟩
  case round =>
    obtain ⟨k, N, hk30, hkn, rfl, hNk, hP, hbr⟩ := hrel
    by_cases hlt : k < n ∧ k < 30
    · obtain ⟨hlt, hl30⟩ := hlt
      have hAr := hA.below hbr (Nat.le_refl _)
      obtain ⟨ad, rfl, kd, cd, pl, s, far, hfc, hfp, hss, hc⟩ := hAr k hlt
      have c0 : wr.cell? (ad.add (k * 5)) = some (.int .i64 kd) := hc 0 _ rfl
      have c1 : wr.cell? ⟨(ad.add (k * 5)).block, (ad.add (k * 5)).off + 1, none⟩ = some (.int .i64 cd) := hc 1 _ rfl
      have c2 : wr.cell? ⟨(ad.add (k * 5)).block, (ad.add (k * 5)).off + 2, none⟩ = some (.int .i64 pl) := hc 2 _ rfl
      have c3 : wr.cell? ⟨(ad.add (k * 5)).block, (ad.add (k * 5)).off + 3, none⟩ = some (.string s) := hc 3 _ rfl
      have c4 : wr.cell? ⟨(ad.add (k * 5)).block, (ad.add (k * 5)).off + 4, none⟩ = some (.bool far) := hc 4 _ rfl
      have hO := Blk.new wr 43 (opC kd cd pl s far)
      have hPa := hP.below ((Below.refl _ _).alloc (Nat.le_refl _) (.cells (opC kd cd pl s far) 43))
      have hba := hbr.alloc hbr.size (.cells (opC kd cd pl s far) 43)
      have hH : w.heap.size ≤ wr.heap.size := hbr.size
      obtain ⟨vs, es, fs, hvl, hel, hS, hpot⟩ := hPa
      have hSa := hS.a
      have hSb := hS.b
      rw [hvl] at hSa
      rw [hel] at hSb
      obtain ⟨Aa, ca, rfl⟩ := own_form hSa
      obtain ⟨Ab, cb, rfl⟩ := own_form hSb
      clear hSa hSb
      unfold maxLen at hss
      go_upto_if 35 with fail
      generalize wr.alloc (.cells (opC kd cd pl s far) 43) = w3 at hO hS hba ⊢
      clear hP hbr hA hAr c0 c1 c2 c3 c4 hc
      go_cut [9] from 14 to 140 (fun s9 wx => ∃ s' : ByteArray, s'.size ≤ 8 ∧ s9 = .string s' ∧ wx = w3)
      case first =>
        by_cases h8 : (8 : Int) < (s.size : Int)
        · have hd : decide ((8 : Int) < (s.size : Int)) = true := decide_eq_true h8
          have hsz : (s.extract 0 8).size ≤ 8 := by
            rw [ByteArray.size_extract]
            omega
          go_wp2_with fail
          go_meet
          exact ⟨_, hsz, rfl, rfl⟩
        · have hd : decide ((8 : Int) < (s.size : Int)) = false := decide_eq_false h8
          go_wp2_with fail
          go_meet
          exact ⟨s, by omega, rfl, rfl⟩
      case rest =>
      obtain ⟨s', hs', rfl, rfl⟩ := hcut
      have c0 : wc.cell? ⟨wr.heap.size, 0, none⟩ = some (.int .i64 kd) := hO.cell 0
      have c1 : wc.cell? ⟨wr.heap.size, 1, none⟩ = some (.int .i64 cd) := hO.cell 1
      have c2 : wc.cell? ⟨wr.heap.size, 2, none⟩ = some (.int .i64 pl) := hO.cell 2
      have c4 : wc.cell? ⟨wr.heap.size, 4, none⟩ = some (.bool far) := hO.cell 4
      obtain ⟨a31, h31, e31⟩ := and_low cd 31 31 rfl (by omega)
      obtain ⟨kk, hkk, ekk⟩ := and_low kd 7 7 rfl (by omega)
      obtain ⟨j3, hj3, e3⟩ := and_low cd 3 3 rfl (by omega)
      go_upto_if 42 with fail
      go_cut [10] from 14 to 140 (fun s10 wx => ∃ cc : Int, Fit64 cc ∧ s10 = .int .i64 cc ∧ wx = wc)
      case first =>
        cases far
        · go_wp2_with fail
          go_meet
          exact ⟨(a31 : Nat), ⟨by omega, by omega⟩, rfl, rfl⟩
        · go_wp2_with fail
          go_meet
          exact ⟨cd, hfc, rfl, rfl⟩
      case rest =>
      obtain ⟨cc, hcc, rfl, rfl⟩ := hcut
      clear e31 hss
      go_upto_block 2 with (fail)
      clear ekk
      clear c0 c4
      rcases (show (kk = 0 ∨ kk = 1 ∨ kk = 2) ∨ (kk = 3 ∨ kk = 4) ∨ kk = 5 ∨ (kk = 6 ∨ kk = 7) by omega) with h | h | h | h
      · refine built_N ad n c w wr wc i0 i1 hi hz0 hz1 hz2 ki kz0 kz1 kz2 k N hn hk30 hkn hNk hlt hl30 kd cd pl s far hfc hfp hH vs es fs hvl hel hpot Aa Ab ca cb s' hs' kk hkk j3 hj3 e3 cc hcc hO hS hba c1 c2 h ?_
        intro s4 s5 x7 x8 x9 x10 x11 x12 x13 x14 x15 x16 x17 x18 x19 x20 x21 x22 x23 x24 x25 x26 x27 x28 x29 x30 x31 x32 x33 x34 x35 x36 x37 x38 x39 x40 x41 x42 x43 x44 x45 x46 x47 x48 x49 x50 x51 x52 x53 x54 x55 x56 x57 x58 x59 x60 x61 x62 x63 x64 x65 x66 x67 x68 x69 x70 x71 x72 x73 x74 x75 x76 x77 x78 x79 x80 x81 x82 x83 x84 x85 x86 x87 x88 x89 x90 x91 x92 x93 x94 x95 x96 x97 x98 x99 x100 x101 x102 x103 x104 x105 x106 x107 x108 x109 x110 x111 x112 x113 x114 x115 x116 x117 x118 x119 x120 x121 x122 x123 x124 x125 x126 x127 x128 x129 x130 x131 x132 x133 x134 x135 x136 x137 x138 x139 x140 wx N' hN' hP' hb'
        go_wp2_with fail
        go_roundw
        case rel => exact ⟨k + 1, N', by omega, by omega, by go_num, hN', hP', hb'⟩
        case measure => simp [intOf]; omega
      · refine built_A ad n c w wr wc i0 i1 hi hz0 hz1 hz2 ki kz0 kz1 kz2 k N hn hk30 hkn hNk hlt hl30 kd cd pl s far hfc hfp hH vs es fs hvl hel hpot Aa Ab ca cb s' hs' kk hkk j3 hj3 e3 cc hcc hO hS hba c1 c2 h ?_
        intro s4 s5 x7 x8 x9 x10 x11 x12 x13 x14 x15 x16 x17 x18 x19 x20 x21 x22 x23 x24 x25 x26 x27 x28 x29 x30 x31 x32 x33 x34 x35 x36 x37 x38 x39 x40 x41 x42 x43 x44 x45 x46 x47 x48 x49 x50 x51 x52 x53 x54 x55 x56 x57 x58 x59 x60 x61 x62 x63 x64 x65 x66 x67 x68 x69 x70 x71 x72 x73 x74 x75 x76 x77 x78 x79 x80 x81 x82 x83 x84 x85 x86 x87 x88 x89 x90 x91 x92 x93 x94 x95 x96 x97 x98 x99 x100 x101 x102 x103 x104 x105 x106 x107 x108 x109 x110 x111 x112 x113 x114 x115 x116 x117 x118 x119 x120 x121 x122 x123 x124 x125 x126 x127 x128 x129 x130 x131 x132 x133 x134 x135 x136 x137 x138 x139 x140 wx N' hN' hP' hb'
        go_wp2_with fail
        go_roundw
        case rel => exact ⟨k + 1, N', by omega, by omega, by go_num, hN', hP', hb'⟩
        case measure => simp [intOf]; omega
      · refine built_I ad n c w wr wc i0 i1 hi hz0 hz1 hz2 ki kz0 kz1 kz2 k N hn hk30 hkn hNk hlt hl30 kd cd pl s far hfc hfp hH vs es fs hvl hel hpot Aa Ab ca cb s' hs' kk hkk j3 hj3 e3 cc hcc hO hS hba c1 c2 h ?_
        intro s4 s5 x7 x8 x9 x10 x11 x12 x13 x14 x15 x16 x17 x18 x19 x20 x21 x22 x23 x24 x25 x26 x27 x28 x29 x30 x31 x32 x33 x34 x35 x36 x37 x38 x39 x40 x41 x42 x43 x44 x45 x46 x47 x48 x49 x50 x51 x52 x53 x54 x55 x56 x57 x58 x59 x60 x61 x62 x63 x64 x65 x66 x67 x68 x69 x70 x71 x72 x73 x74 x75 x76 x77 x78 x79 x80 x81 x82 x83 x84 x85 x86 x87 x88 x89 x90 x91 x92 x93 x94 x95 x96 x97 x98 x99 x100 x101 x102 x103 x104 x105 x106 x107 x108 x109 x110 x111 x112 x113 x114 x115 x116 x117 x118 x119 x120 x121 x122 x123 x124 x125 x126 x127 x128 x129 x130 x131 x132 x133 x134 x135 x136 x137 x138 x139 x140 wx N' hN' hP' hb'
        go_wp2_with fail
        go_roundw
        case rel => exact ⟨k + 1, N', by omega, by omega, by go_num, hN', hP', hb'⟩
        case measure => simp [intOf]; omega
      · refine built_J ad n c w wr wc i0 i1 hi hz0 hz1 hz2 ki kz0 kz1 kz2 k N hn hk30 hkn hNk hlt hl30 kd cd pl s far hfc hfp hH vs es fs hvl hel hpot Aa Ab ca cb s' hs' kk hkk j3 hj3 e3 cc hcc hO hS hba c1 c2 h ?_
        intro s4 s5 x7 x8 x9 x10 x11 x12 x13 x14 x15 x16 x17 x18 x19 x20 x21 x22 x23 x24 x25 x26 x27 x28 x29 x30 x31 x32 x33 x34 x35 x36 x37 x38 x39 x40 x41 x42 x43 x44 x45 x46 x47 x48 x49 x50 x51 x52 x53 x54 x55 x56 x57 x58 x59 x60 x61 x62 x63 x64 x65 x66 x67 x68 x69 x70 x71 x72 x73 x74 x75 x76 x77 x78 x79 x80 x81 x82 x83 x84 x85 x86 x87 x88 x89 x90 x91 x92 x93 x94 x95 x96 x97 x98 x99 x100 x101 x102 x103 x104 x105 x106 x107 x108 x109 x110 x111 x112 x113 x114 x115 x116 x117 x118 x119 x120 x121 x122 x123 x124 x125 x126 x127 x128 x129 x130 x131 x132 x133 x134 x135 x136 x137 x138 x139 x140 wx N' hN' hP' hb'
        go_wp2_with fail
        go_roundw
        case rel => exact ⟨k + 1, N', by omega, by omega, by go_num, hN', hP', hb'⟩
        case measure => simp [intOf]; omega
    · go_wp2_with fail
      all_goals
        go_ret2
        exact ⟨⟨_, _, N, rfl, by omega, hP.more (by omega)⟩, hbr⟩
end Go.Proofs.YtcmepnninlocmaaDoor
