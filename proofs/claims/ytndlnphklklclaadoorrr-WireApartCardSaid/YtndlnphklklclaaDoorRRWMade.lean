/- made, less, short: walked. -/
import Derived.Test.YtndlnphklklclaaDoorRRWireP
import Derived.Test.YtndlnphklklclaaDoorRRMutL
import Derived.Deep.Cut
import Derived.Deep.CutRange
import Derived.Deep.CutBlock
namespace Go.Proofs.YtndlnphklklclaaDoorRR
open Go.RowKit
set_option maxRecDepth 100000 in
theorem short_any (s : ByteArray) (n : Nat) (w : World) : Calls Tryd.prog 10 #[.string s, .int .i64 n] w fun e w' => e = .returned (.string (cutB s n)) ∧ w = w' := by
  by_cases h : n < s.size
  · go_enter Tryd.func10, Tryd.ntmps10
    go_wp2
    go_ret
    exact ⟨ret_str_of (cutB_some s n).symm, rfl⟩
  · go_enter Tryd.func10, Tryd.ntmps10
    go_wp2
    go_ret
    exact ⟨ret_str_of (cutB_all (by omega)).symm, rfl⟩
theorem and_low (x M : Int) (m : Nat) (hM : M = (m : Nat)) (hm : m < 9223372036854775808) : ∃ k : Nat, k ≤ m ∧ bits .and .i64 x M = (k : Nat) := by
  subst hM
  refine ⟨(BitVec.ofInt 64 x &&& BitVec.ofInt 64 (m : Nat)).toNat, ?_, ?_⟩
  · rw [BitVec.toNat_and]
    have h : (BitVec.ofInt 64 (m : Nat)).toNat = m := by
      rw [BitVec.toNat_ofInt]
      omega
    rw [h]
    exact Nat.and_le_right
  · show IntKind.i64.wrap ((BitVec.ofInt 64 x &&& BitVec.ofInt 64 (m : Nat)).toNat : Int) = _
    have hle : (BitVec.ofInt 64 x &&& BitVec.ofInt 64 (m : Nat)).toNat ≤ m := by
      rw [BitVec.toNat_and]
      have h : (BitVec.ofInt 64 (m : Nat)).toNat = m := by
        rw [BitVec.toNat_ofInt]
        omega
      rw [h]
      exact Nat.and_le_right
    rw [IntKind.wrap_i64]
    omega
theorem and_byte (u : UInt8) : ∃ v : UInt8, v.toNat < 16 ∧ bits .and .u8 (u.toNat : Int) 15 = (v.toNat : Int) := by
  refine ⟨u &&& 15, ?_, ?_⟩
  · rw [UInt8.toNat_and]
    exact Nat.lt_of_le_of_lt Nat.and_le_right (by decide)
  · have h := u8_and_nat u.toNat 15 (UInt8.toNat_lt u) (by decide)
    rw [UInt8.toNat_and]
    exact h
/-- A kind from 1 to 9. -/
theorem kind_in (x : Int) : ∃ (T U : Int) (q K : Nat), T = x.tmod 9 ∧ wrap64 (T + 9) = U ∧ U.tmod 9 = (q : Nat) ∧ wrap64 (1 + (q : Int)) = (K : Nat) ∧ 1 ≤ K ∧ K ≤ 9 := by
  have h1 := Int.tmod_lt_of_pos x (show (0 : Int) < 9 by decide)
  have h2 := Int.tmod_lt_of_pos (-x) (show (0 : Int) < 9 by decide)
  rw [Int.neg_tmod] at h2
  have h3 := Int.tmod_lt_of_pos (x.tmod 9 + 9) (show (0 : Int) < 9 by decide)
  have h4 : 0 ≤ (x.tmod 9 + 9).tmod 9 := Int.tmod_nonneg _ (by omega)
  obtain ⟨q, hq⟩ := Int.eq_ofNat_of_zero_le h4
  refine ⟨x.tmod 9, x.tmod 9 + 9, q, q + 1, rfl, ?_, hq, ?_, by omega, by omega⟩
  · unfold wrap64
    omega
  · unfold wrap64
    omega
/-- A message of short texts. -/
def lessP (m : Mg) : Mg := ⟨m.kind, m.gen, m.seq, m.key, cutB m.body 60, cutB m.path 60, m.node, m.nonce⟩
set_option maxRecDepth 100000 in
set_option maxHeartbeats 2000000 in
theorem less_any (m : Mg) (w : World) : Calls Tryd.prog 6 #[.agg m.v] w fun e w' => e = .returned (.agg (lessP m).v) ∧ Below w.heap.size w w' := by
  have hsb := short_any m.body 60
  have hsp := short_any m.path 60
  obtain ⟨kd, gn, sq, ky, bo, pa, no, nc⟩ := m
  simp only [lessP]
  simp only at hsb hsp
  generalize cutB bo 60 = bo' at hsb ⊢
  generalize cutB pa 60 = pa' at hsp ⊢
  go_enter Tryd.func6, Tryd.ntmps6
  go_upto_region 2 with (go_at_call 10; refine (hsp _).mono ?_; rintro e w1 ⟨rfl, rfl⟩)
  clear hsp
  go_wp2_with (go_at_call 10; refine (hsb _).mono ?_; rintro e w1 ⟨rfl, rfl⟩)
  refine bodyPost_ret (v := .agg #[.int .i64 kd, .int .i64 gn, .int .i64 sq, .bool ky, .string bo', .string pa', .int .i64 no, .int .i64 nc]) ?_ rfl ⟨rfl, ?_⟩
  · simp [results, Tryd.results6, go_sem]
  · repeat (first | with_reducible exact Below.refl _ _ | (refine Below.setCell ?_ (by simp) _) | (refine Below.alloc ?_ (by simp <;> omega) _) | (refine Below.drew ?_))
/-- The row of bytes, its first k cut to four bits. -/
def MadeI (w2 wr : World) (g sz k : Nat) (l : List UInt8) : Prop := l.length = sz ∧ (∀ (j : Nat) (u : UInt8), l[j]? = some u → j < k → u.toNat < 16) ∧ Bytes wr g l ∧ Only g w2 wr
theorem MadeI.step {w2 wr : World} {g sz k : Nat} {l : List UInt8} (h : MadeI w2 wr g sz k l) (v : UInt8) (hv : v.toNat < 16) : MadeI w2 (wr.setCell ⟨g, k, none⟩ (bv v)) g sz (k + 1) (l.set k v) := by
  obtain ⟨h1, h2, h3, h4⟩ := h
  refine ⟨by rw [List.length_set]; exact h1, fun j u hj hk => ?_, h3.set k v, only_set h4 k _⟩
  by_cases he : k = j
  · subst he
    rw [List.getElem?_set_self'] at hj
    cases ho : l[k]? with
    | none => rw [ho] at hj; cases hj
    | some o =>
      rw [ho] at hj
      simp at hj
      subst hj
      exact hv
  · rw [List.getElem?_set_ne he] at hj
    exact h2 j u hj (by omega)
theorem MadeI.ok {w2 wr : World} {g sz : Nat} {l : List UInt8} (h : MadeI w2 wr g sz sz l) (hs : sz ≤ 16) : PathOk ⟨l.toArray⟩ := by
  obtain ⟨h1, h2, _, _⟩ := h
  refine ⟨by show l.toArray.size ≤ 16; simp; omega, fun i hi => ?_⟩
  have hi' : i < l.length := by
    have : (⟨l.toArray⟩ : ByteArray).size = l.length := by show l.toArray.size = _; simp
    omega
  have h3 : l[i]? = some l[i] := List.getElem?_eq_getElem hi'
  have h4 := h2 i _ h3 (by omega)
  exact h4
abbrev ReadF (M : Nat) (gn sq : Int) (ky : Bool) (bo : ByteArray) (w : World) : Prop :=
  w.cell? ⟨M, 1, none⟩ = some (.int .i64 gn) ∧ w.cell? ⟨M, 2, none⟩ = some (.int .i64 sq) ∧ w.cell? ⟨M, 3, none⟩ = some (.bool ky) ∧ w.cell? ⟨M, 4, none⟩ = some (.string bo)
theorem ReadF.put {M : Nat} {gn sq : Int} {ky : Bool} {bo : ByteArray} {w : World} (h : ReadF M gn sq ky bo w) (i : Nat) (v : Value) : ReadF M gn sq ky bo (w.setCell ⟨M + 1 + 1, i, none⟩ v) := by
  have hk : ∀ j, (w.setCell ⟨M + 1 + 1, i, none⟩ v).cell? ⟨M, j, none⟩ = w.cell? ⟨M, j, none⟩ := fun j => World.cell?_setCell_other _ _ _ _ (fun e => by injection e with e1; omega)
  exact ⟨(hk 1).trans h.1, (hk 2).trans h.2.1, (hk 3).trans h.2.2.1, (hk 4).trans h.2.2.2⟩
theorem less1 (a : Nat) (h : a ≤ 1073741824) : ∃ G : Int, wrap64 ((a : Int) - 1) = G ∧ -1 ≤ G ∧ G ≤ 1073741824 := by
  refine ⟨(a : Int) - 1, ?_, by omega, by omega⟩
  unfold wrap64
  omega
set_option maxRecDepth 100000 in
set_option maxHeartbeats 4000000 in
theorem made_any (m : Mg) (w : World) : Calls Tryd.prog 5 #[.agg m.v] w fun e w' => ∃ X : Mg, MgOk X ∧ e = .returned (.agg X.v) ∧ Below w.heap.size w w' := by
  have hsp := short_any m.path 16
  have hsb := short_any m.body 60
  have hp16 := cutB_size m.path 16
  have hb60 := cutB_size m.body 60
  obtain ⟨kd, gn, sq, ky, bo, pa, no, nc⟩ := m
  simp only at hsp hsb hp16 hb60
  have hp : (cutB pa 16).size ≤ 16 := by omega
  have hbo : (cutB bo 60).size ≤ 60 := by omega
  clear hp16 hb60
  generalize cutB pa 16 = p at hsp hp ⊢
  generalize cutB bo 60 = bo' at hsb hbo ⊢
  obtain ⟨T, U, q, K, hT, hU, hq, hK, hK1, hK9⟩ := kind_in kd
  have hT' := hT.symm
  clear hT
  have hP := ((Blk.new w 25 #[.int .i64 kd, .int .i64 gn, .int .i64 sq, .bool ky, .string bo, .string pa, .int .i64 no, .int .i64 nc]))
  go_enter Tryd.func5, Tryd.ntmps5
  go_upto_region 2 with fail
  have hR := (Blk.new (w.alloc (.cells (Mg.v ⟨kd, gn, sq, ky, bo, pa, no, nc⟩) 25)) 25 #[.int .i64 0, .int .i64 0, .int .i64 0, .bool false, .string ⟨#[]⟩, .string ⟨#[]⟩, .int .i64 0, .int .i64 0])
  have hX := (Blk.new ((w.alloc (.cells (Mg.v ⟨kd, gn, sq, ky, bo, pa, no, nc⟩) 25)).alloc (.cells #[.int .i64 0, .int .i64 0, .int .i64 0, .bool false, .string ⟨#[]⟩, .string ⟨#[]⟩, .int .i64 0, .int .i64 0] 25)) 25 #[.int .i64 (K : Int), .int .i64 0, .int .i64 0, .bool false, .string ⟨#[]⟩, .string ⟨#[]⟩, .int .i64 0, .int .i64 0])
  have hb1 := (((Below.refl w.heap.size w).alloc (Nat.le_refl _) (.cells (Mg.v ⟨kd, gn, sq, ky, bo, pa, no, nc⟩) 25)).alloc (by simp) (.cells #[.int .i64 0, .int .i64 0, .int .i64 0, .bool false, .string ⟨#[]⟩, .string ⟨#[]⟩, .int .i64 0, .int .i64 0] 25)).alloc (by simp; omega) (.cells #[.int .i64 (K : Int), .int .i64 0, .int .i64 0, .bool false, .string ⟨#[]⟩, .string ⟨#[]⟩, .int .i64 0, .int .i64 0] 25)
  have hs1 : (((w.alloc (.cells (Mg.v ⟨kd, gn, sq, ky, bo, pa, no, nc⟩) 25)).alloc (.cells #[.int .i64 0, .int .i64 0, .int .i64 0, .bool false, .string ⟨#[]⟩, .string ⟨#[]⟩, .int .i64 0, .int .i64 0] 25)).alloc (.cells #[.int .i64 (K : Int), .int .i64 0, .int .i64 0, .bool false, .string ⟨#[]⟩, .string ⟨#[]⟩, .int .i64 0, .int .i64 0] 25)).heap.size = w.heap.size + 3 := by simp
  have hP1 := (hP.alloc (.cells #[.int .i64 0, .int .i64 0, .int .i64 0, .bool false, .string ⟨#[]⟩, .string ⟨#[]⟩, .int .i64 0, .int .i64 0] 25)).alloc (.cells #[.int .i64 (K : Int), .int .i64 0, .int .i64 0, .bool false, .string ⟨#[]⟩, .string ⟨#[]⟩, .int .i64 0, .int .i64 0] 25)
  have hR1 := hR.alloc (.cells #[.int .i64 (K : Int), .int .i64 0, .int .i64 0, .bool false, .string ⟨#[]⟩, .string ⟨#[]⟩, .int .i64 0, .int .i64 0] 25)
  simp only [World.size_alloc] at hR1 hX
  generalize ((w.alloc (.cells (Mg.v ⟨kd, gn, sq, ky, bo, pa, no, nc⟩) 25)).alloc (.cells #[.int .i64 0, .int .i64 0, .int .i64 0, .bool false, .string ⟨#[]⟩, .string ⟨#[]⟩, .int .i64 0, .int .i64 0] 25)).alloc (.cells #[.int .i64 (K : Int), .int .i64 0, .int .i64 0, .bool false, .string ⟨#[]⟩, .string ⟨#[]⟩, .int .i64 0, .int .i64 0] 25) = w1 at hb1 hs1 hP1 hR1 hX ⊢
  clear hP hR hU hT' hq hK
  generalize hM : w.heap.size = M at hb1 hs1 hP1 hR1 hX ⊢
  have p5 : w1.cell? ⟨M, 5, none⟩ = some (.string pa) := hP1.cell 5
  obtain ⟨cap, w2, hrun, hBy, hb2, hlt, hcap⟩ := bytes_of (P := Tryd.prog) w1 9 36 5 p Tryd.underlying9 Tryd.underlying36 Tryd.underlying5
  go_upto_region 3 with (go_at_call 10; refine (hsp _).mono ?_; rintro e w5 ⟨rfl, rfl⟩)
  clear hsp p5 hrun
  have hP2 := hP1.below hb2 hP1.lt
  have hR2 := hR1.below hb2 hR1.lt
  have hX2 := hX.below hb2 hX.lt
  have hb12 := hb1.trans (hb2.mono (by omega))
  rw [hs1] at hBy hlt
  clear hP1 hR1 hX hb1 hb2 hs1
  obtain ⟨g, hg⟩ : ∃ g, g = M + 3 := ⟨_, rfl⟩
  rw [← hg] at hBy hlt ⊢
  have hI0 : MadeI w2 w2 g p.size 0 p.data.toList := ⟨rfl, fun j u _ h => absurd h (Nat.not_lt_zero j), hBy, only_refl _ _⟩
  clear hBy
  have hgP : some M ≠ some g := fun e => by have := Option.some.inj e; omega
  have hgR : some (M + 1) ≠ some g := fun e => by have := Option.some.inj e; omega
  have hgX : some (M + 1 + 1) ≠ some g := fun e => by have := Option.some.inj e; omega
  have hMg : M ≤ g := by omega
  clear hg
  go_wp2_with fail
  go_loopw [5] (fun s5 wr => ∃ (k : Nat) (l : List UInt8), k ≤ p.size ∧ s5 = .int .i64 (k : Nat) ∧ MadeI w2 wr g p.size k l) (fun s5 _ => p.size - (intOf s5).toNat)
  case atStart => exact ⟨0, _, Nat.zero_le _, rfl, hI0⟩
  case round =>
    clear hI0
    obtain ⟨k, l, hk, rfl, hI⟩ := hrel
    by_cases hkp : k < p.size
    · have e1 : decide ((k : Int) < (p.size : Int)) = true := decide_eq_true (by omega)
      have e2 : decide (k < p.size) = true := decide_eq_true hkp
      have hkl : k < l.length := by rw [hI.1]; exact hkp
      obtain ⟨c1, c2⟩ := hI.2.2.1 k l[k] (List.getElem?_eq_getElem hkl)
      obtain ⟨v, hv, hav⟩ := and_byte l[k]
      generalize l[k] = u at c1 hav
      have c3 : wr.cell? ⟨g, k, none⟩ = some (.int .u8 (u.toNat : Int)) := c1
      have hI2 := hI.step v hv
      have HI := Lib.hid hI2
      clear hI hI2 c1
      go_wp2_with fail
      go_round
      case rel => exact ⟨k + 1, l.set k v, hkp, by go_num, HI.out⟩
      case measure => simp [intOf]; omega
    · have e1 : decide ((k : Int) < (p.size : Int)) = false := decide_eq_false (by omega)
      have e2 : decide (k < p.size) = false := decide_eq_false hkp
      obtain rfl : k = p.size := by omega
      have hpok := hI.ok hp
      have hstr := string_of (P := Tryd.prog) (src := 36) (dst := 9) hI.2.2.1 cap Tryd.underlying36 Tryd.underlying5 Tryd.underlying9
      rw [hI.1] at hstr
      have hOn := hI.2.2.2
      have hP3 := hP2.grown hOn hgP
      have hR3 := hR2.grown hOn hgR
      have hX3 := hX2.grown hOn hgX
      have hb3 := hb12.trans (only_below hOn hMg (Nat.le_trans hMg (Nat.le_of_lt hlt)))
      clear hI hOn hP2 hR2 hX2 hb12
      generalize (⟨l.toArray⟩ : ByteArray) = t at hpok hstr
      have x0 : wr.cell? ⟨M + 1 + 1, 0, none⟩ = some (.int .i64 (K : Int)) := hX3.cell 0
      go_upto_block 2 with fail
      go_cut [33] from 33 to 94 (fun _ wx => ∃ X : Mg, MgOk X ∧ Blk wx (M + 1 + 1) 25 X.v ∧ Blk wx (M + 1) 25 #[.int .i64 0, .int .i64 0, .int .i64 0, .bool false, .string ⟨#[]⟩, .string ⟨#[]⟩, .int .i64 0, .int .i64 0] ∧ Below M w wx)
      case first =>
        clear x0
        have p1 : wr.cell? ⟨M, 1, none⟩ = some (.int .i64 gn) := hP3.cell 1
        have p2 : wr.cell? ⟨M, 2, none⟩ = some (.int .i64 sq) := hP3.cell 2
        have p3 : wr.cell? ⟨M, 3, none⟩ = some (.bool ky) := hP3.cell 3
        have p4 : wr.cell? ⟨M, 4, none⟩ = some (.string bo) := hP3.cell 4
        have p6 : wr.cell? ⟨M, 6, none⟩ = some (.int .i64 no) := hP3.cell 6
        have p7 : wr.cell? ⟨M, 7, none⟩ = some (.int .i64 nc) := hP3.cell 7
        have x1 : wr.cell? ⟨M + 1 + 1, 1, none⟩ = some (.int .i64 0) := hX3.cell 1
        have x2 : wr.cell? ⟨M + 1 + 1, 2, none⟩ = some (.int .i64 0) := hX3.cell 2
        have x3 : wr.cell? ⟨M + 1 + 1, 3, none⟩ = some (.bool false) := hX3.cell 3
        have x4 : wr.cell? ⟨M + 1 + 1, 4, none⟩ = some (.string ⟨#[]⟩) := hX3.cell 4
        have x5 : wr.cell? ⟨M + 1 + 1, 5, none⟩ = some (.string ⟨#[]⟩) := hX3.cell 5
        have x6 : wr.cell? ⟨M + 1 + 1, 6, none⟩ = some (.int .i64 0) := hX3.cell 6
        have x7 : wr.cell? ⟨M + 1 + 1, 7, none⟩ = some (.int .i64 0) := hX3.cell 7
        have g1 := hX3.free 1
        have g2 := hX3.free 2
        have g3 := hX3.free 3
        have g4 := hX3.free 4
        have g5 := hX3.free 5
        have g6 := hX3.free 6
        have g7 := hX3.free 7
        have hRX : M + 1 ≠ M + 1 + 1 := by omega
        have hMX : M ≤ M + 1 + 1 := by omega
        obtain ⟨n15, hn15, en⟩ := and_low no 15 15 rfl (by decide)
        obtain ⟨cn, hcn, ec⟩ := and_low nc 1048575 1048575 rfl (by decide)
        obtain ⟨ga, hga, ega⟩ := and_low gn 1073741824 1073741824 rfl (by decide)
        obtain ⟨sa, hsa, esa⟩ := and_low sq 65535 65535 rfl (by decide)
        obtain ⟨gb, hgb, egb⟩ := and_low gn 255 255 rfl (by decide)
        obtain ⟨G, eG, hG1, hG2⟩ := less1 ga hga
        obtain ⟨S, eS, hS1, hS2⟩ := less1 sa (by omega)
        have hsa2 : (sa : Int) ≤ 1073741824 := by omega
        have hgb2 : (gb : Int) ≤ 1073741824 := by omega
        have hcn2 : cn ≤ 1048576 := by omega
        have h9 : K = 1 ∨ K = 2 ∨ K = 3 ∨ K = 4 ∨ K = 5 ∨ K = 6 ∨ K = 7 ∨ K = 8 ∨ K = 9 := by omega
        have Hsa2 := Lib.hid hsa2
        have Hgb2 := Lib.hid hgb2
        clear hsa2 hgb2
        clear hK1 hK9 hga hsa hgb hcn hk hp hcap hlt e1 e2 hkp hgP hgR hgX hMg
        rcases h9 with rfl | rfl | rfl | rfl | rfl | rfl | rfl | rfl | rfl
        · go_wp2_with fail
          go_meet
          refine ⟨_, MgOk.none 1 (.inl rfl), hX3, hR3, ?_⟩
          repeat (first | with_reducible exact hb3 | (refine Below.setCell ?_ hMX _))
        · go_wp2_with fail
          go_meet
          refine ⟨_, MgOk.path 2 t (.inl rfl) hpok, (Blk.set hX3 5 (.string t)), (Blk.far hR3 hRX (.string t)), ?_⟩
          repeat (first | with_reducible exact hb3 | (refine Below.setCell ?_ hMX _))
        · go_wp2_with fail
          go_meet
          refine ⟨_, MgOk.refuse n15 hn15, (Blk.set hX3 6 (.int .i64 (n15 : Int))), (Blk.far hR3 hRX (.int .i64 (n15 : Int))), ?_⟩
          repeat (first | with_reducible exact hb3 | (refine Below.setCell ?_ hMX _))
        · go_wp2_with fail
          go_meet
          refine ⟨_, MgOk.path 4 t (.inr rfl) hpok, (Blk.set hX3 5 (.string t)), (Blk.far hR3 hRX (.string t)), ?_⟩
          repeat (first | with_reducible exact hb3 | (refine Below.setCell ?_ hMX _))
        · go_wp2_with fail
          go_meet
          refine ⟨_, MgOk.alive G S ky ⟨hG1, hG2⟩ ⟨hS1, hS2⟩, (Blk.set (Blk.set (Blk.set (Blk.set hX3 1 (.int .i64 G)) 2 (.int .i64 S)) 3 (.bool ky)) 4 (.string ⟨#[]⟩)), (Blk.far (Blk.far (Blk.far (Blk.far hR3 hRX (.int .i64 G)) hRX (.int .i64 S)) hRX (.bool ky)) hRX (.string ⟨#[]⟩)), ?_⟩
          repeat (first | with_reducible exact hb3 | (refine Below.setCell ?_ hMX _))
        · go_upto_region 16 with fail
          have y1 : wr.drew.cell? ⟨M, 1, none⟩ = some (.int .i64 gn) := p1
          have y2 : wr.drew.cell? ⟨M, 2, none⟩ = some (.int .i64 sq) := p2
          have y3 : wr.drew.cell? ⟨M, 3, none⟩ = some (.bool ky) := p3
          have y4 : wr.drew.cell? ⟨M, 4, none⟩ = some (.string bo) := p4
          have z1 : wr.drew.cell? ⟨M + 1 + 1, 1, none⟩ = some (.int .i64 0) := x1
          have f1 : wr.drew.frozen? ⟨M + 1 + 1, 1, none⟩ = false := g1
          have z2 : wr.drew.cell? ⟨M + 1 + 1, 2, none⟩ = some (.int .i64 0) := x2
          have f2 : wr.drew.frozen? ⟨M + 1 + 1, 2, none⟩ = false := g2
          have z3 : wr.drew.cell? ⟨M + 1 + 1, 3, none⟩ = some (.bool false) := x3
          have f3 : wr.drew.frozen? ⟨M + 1 + 1, 3, none⟩ = false := g3
          have z4 : wr.drew.cell? ⟨M + 1 + 1, 4, none⟩ = some (.string ⟨#[]⟩) := x4
          have f4 : wr.drew.frozen? ⟨M + 1 + 1, 4, none⟩ = false := g4
          clear p6 p7 x5 x6 x7 g5 g6 g7
          have hS : ReadF M gn sq ky bo wr.drew := ⟨y1, y2, y3, y4⟩
          go_region_held3 (fun w' => w'.cell? ⟨M, 1, none⟩ = some (.int .i64 gn) ∧ w'.cell? ⟨M, 2, none⟩ = some (.int .i64 sq) ∧ w'.cell? ⟨M, 3, none⟩ = some (.bool ky) ∧ w'.cell? ⟨M, 4, none⟩ = some (.string bo)) (first | exact hS | exact (((hS.put 1 _).put 2 _).put 3 _).put 4 _) (first | (go_at_call 10; refine (hsb _).mono ?_; rintro e w5 ⟨rfl, rfl⟩))
          all_goals go_wp2_with fail
          go_meet
          refine ⟨_, MgOk.frame (gb : Int) (sa : Int) ky bo' ⟨Int.natCast_nonneg _, Hgb2.out⟩ ⟨Int.natCast_nonneg _, Hsa2.out⟩ hbo, ((Blk.set (Blk.set (Blk.set (Blk.set hX3 1 (.int .i64 (gb : Int))) 2 (.int .i64 (sa : Int))) 3 (.bool ky)) 4 (.string bo'))).drew, ((Blk.far (Blk.far (Blk.far (Blk.far hR3 hRX (.int .i64 (gb : Int))) hRX (.int .i64 (sa : Int))) hRX (.bool ky)) hRX (.string bo'))).drew, Below.drew ?_⟩
          repeat (first | with_reducible exact hb3 | (refine Below.setCell ?_ hMX _))
        · go_wp2_with fail
          go_meet
          refine ⟨_, MgOk.none 7 (.inr rfl), hX3, hR3, ?_⟩
          repeat (first | with_reducible exact hb3 | (refine Below.setCell ?_ hMX _))
        · go_wp2_with fail
          go_meet
          refine ⟨_, MgOk.hand 8 t n15 cn (.inl rfl) hpok hn15 hcn2, (Blk.set (Blk.set (Blk.set hX3 5 (.string t)) 6 (.int .i64 (n15 : Int))) 7 (.int .i64 (cn : Int))), (Blk.far (Blk.far (Blk.far hR3 hRX (.string t)) hRX (.int .i64 (n15 : Int))) hRX (.int .i64 (cn : Int))), ?_⟩
          repeat (first | with_reducible exact hb3 | (refine Below.setCell ?_ hMX _))
        · go_wp2_with fail
          go_meet
          refine ⟨_, MgOk.hand 9 t n15 cn (.inr rfl) hpok hn15 hcn2, (Blk.set (Blk.set (Blk.set hX3 5 (.string t)) 6 (.int .i64 (n15 : Int))) 7 (.int .i64 (cn : Int))), (Blk.far (Blk.far (Blk.far hR3 hRX (.string t)) hRX (.int .i64 (n15 : Int))) hRX (.int .i64 (cn : Int))), ?_⟩
          repeat (first | with_reducible exact hb3 | (refine Below.setCell ?_ hMX _))
      case rest =>
      obtain ⟨X, hok, hx, hr, hb⟩ := hcut
      have x0 : wc.cell? ⟨M + 1 + 1, 0, none⟩ = some (.int .i64 X.kind) := hx.cell 0
      have x1 : wc.cell? ⟨M + 1 + 1, 1, none⟩ = some (.int .i64 X.gen) := hx.cell 1
      have x2 : wc.cell? ⟨M + 1 + 1, 2, none⟩ = some (.int .i64 X.seq) := hx.cell 2
      have x3 : wc.cell? ⟨M + 1 + 1, 3, none⟩ = some (.bool X.key) := hx.cell 3
      have x4 : wc.cell? ⟨M + 1 + 1, 4, none⟩ = some (.string X.body) := hx.cell 4
      have x5 : wc.cell? ⟨M + 1 + 1, 5, none⟩ = some (.string X.path) := hx.cell 5
      have x6 : wc.cell? ⟨M + 1 + 1, 6, none⟩ = some (.int .i64 X.node) := hx.cell 6
      have x7 : wc.cell? ⟨M + 1 + 1, 7, none⟩ = some (.int .i64 X.nonce) := hx.cell 7
      have r0 : wc.cell? ⟨M + 1, 0, none⟩ = some (.int .i64 0) := hr.cell 0
      have r1 : wc.cell? ⟨M + 1, 1, none⟩ = some (.int .i64 0) := hr.cell 1
      have r2 : wc.cell? ⟨M + 1, 2, none⟩ = some (.int .i64 0) := hr.cell 2
      have r3 : wc.cell? ⟨M + 1, 3, none⟩ = some (.bool false) := hr.cell 3
      have r4 : wc.cell? ⟨M + 1, 4, none⟩ = some (.string ⟨#[]⟩) := hr.cell 4
      have r5 : wc.cell? ⟨M + 1, 5, none⟩ = some (.string ⟨#[]⟩) := hr.cell 5
      have r6 : wc.cell? ⟨M + 1, 6, none⟩ = some (.int .i64 0) := hr.cell 6
      have r7 : wc.cell? ⟨M + 1, 7, none⟩ = some (.int .i64 0) := hr.cell 7
      have g0 := hr.free 0
      have g1 := hr.free 1
      have g2 := hr.free 2
      have g3 := hr.free 3
      have g4 := hr.free 4
      have g5 := hr.free 5
      have g6 := hr.free 6
      have g7 := hr.free 7
      go_wp2_with fail
      have hF0 : Blk _ (M + 1) 25 #[.int .i64 X.kind, .int .i64 0, .int .i64 0, .bool false, .string ⟨#[]⟩, .string ⟨#[]⟩, .int .i64 0, .int .i64 0] := hr.set 0 (.int .i64 X.kind)
      have hF1 : Blk _ (M + 1) 25 #[.int .i64 X.kind, .int .i64 X.gen, .int .i64 0, .bool false, .string ⟨#[]⟩, .string ⟨#[]⟩, .int .i64 0, .int .i64 0] := hF0.set 1 (.int .i64 X.gen)
      have hF2 : Blk _ (M + 1) 25 #[.int .i64 X.kind, .int .i64 X.gen, .int .i64 X.seq, .bool false, .string ⟨#[]⟩, .string ⟨#[]⟩, .int .i64 0, .int .i64 0] := hF1.set 2 (.int .i64 X.seq)
      have hF3 : Blk _ (M + 1) 25 #[.int .i64 X.kind, .int .i64 X.gen, .int .i64 X.seq, .bool X.key, .string ⟨#[]⟩, .string ⟨#[]⟩, .int .i64 0, .int .i64 0] := hF2.set 3 (.bool X.key)
      have hF4 : Blk _ (M + 1) 25 #[.int .i64 X.kind, .int .i64 X.gen, .int .i64 X.seq, .bool X.key, .string X.body, .string ⟨#[]⟩, .int .i64 0, .int .i64 0] := hF3.set 4 (.string X.body)
      have hF5 : Blk _ (M + 1) 25 #[.int .i64 X.kind, .int .i64 X.gen, .int .i64 X.seq, .bool X.key, .string X.body, .string X.path, .int .i64 0, .int .i64 0] := hF4.set 5 (.string X.path)
      have hF6 : Blk _ (M + 1) 25 #[.int .i64 X.kind, .int .i64 X.gen, .int .i64 X.seq, .bool X.key, .string X.body, .string X.path, .int .i64 X.node, .int .i64 0] := hF5.set 6 (.int .i64 X.node)
      have hF7 : Blk _ (M + 1) 25 #[.int .i64 X.kind, .int .i64 X.gen, .int .i64 X.seq, .bool X.key, .string X.body, .string X.path, .int .i64 X.node, .int .i64 X.nonce] := hF6.set 7 (.int .i64 X.nonce)
      have hF := hF7
      clear hF0 hF1 hF2 hF3 hF4 hF5 hF6 hF7
      have hbF : Below M w ((((((((wc.setCell ⟨M + 1, 0, none⟩ (.int .i64 X.kind)).setCell ⟨M + 1, 1, none⟩ (.int .i64 X.gen)).setCell ⟨M + 1, 2, none⟩ (.int .i64 X.seq)).setCell ⟨M + 1, 3, none⟩ (.bool X.key)).setCell ⟨M + 1, 4, none⟩ (.string X.body)).setCell ⟨M + 1, 5, none⟩ (.string X.path)).setCell ⟨M + 1, 6, none⟩ (.int .i64 X.node)).setCell ⟨M + 1, 7, none⟩ (.int .i64 X.nonce)) := by
        repeat (first | with_reducible exact hb | (refine Below.setCell ?_ (Nat.le_succ M) _))
      generalize ((((((((wc.setCell ⟨M + 1, 0, none⟩ (.int .i64 X.kind)).setCell ⟨M + 1, 1, none⟩ (.int .i64 X.gen)).setCell ⟨M + 1, 2, none⟩ (.int .i64 X.seq)).setCell ⟨M + 1, 3, none⟩ (.bool X.key)).setCell ⟨M + 1, 4, none⟩ (.string X.body)).setCell ⟨M + 1, 5, none⟩ (.string X.path)).setCell ⟨M + 1, 6, none⟩ (.int .i64 X.node)).setCell ⟨M + 1, 7, none⟩ (.int .i64 X.nonce)) = wf at hF hbF ⊢
      clear x0 x1 x2 x3 x4 x5 x6 x7 r0 r1 r2 r3 r4 r5 r6 r7 g0 g1 g2 g3 g4 g5 g6 g7
      have d0 : wf.cell? ⟨M + 1, 0, none⟩ = some (.int .i64 X.kind) := hF.cell 0
      have d1 : wf.cell? ⟨M + 1, 1, none⟩ = some (.int .i64 X.gen) := hF.cell 1
      have d2 : wf.cell? ⟨M + 1, 2, none⟩ = some (.int .i64 X.seq) := hF.cell 2
      have d3 : wf.cell? ⟨M + 1, 3, none⟩ = some (.bool X.key) := hF.cell 3
      have d4 : wf.cell? ⟨M + 1, 4, none⟩ = some (.string X.body) := hF.cell 4
      have d5 : wf.cell? ⟨M + 1, 5, none⟩ = some (.string X.path) := hF.cell 5
      have d6 : wf.cell? ⟨M + 1, 6, none⟩ = some (.int .i64 X.node) := hF.cell 6
      have d7 : wf.cell? ⟨M + 1, 7, none⟩ = some (.int .i64 X.nonce) := hF.cell 7
      refine bodyPost_ret (v := .agg X.v) ?_ rfl ⟨X, hok, rfl, by rw [hM]; exact hbF⟩
      simp [results, Tryd.results5, go_sem, d0, d1, d2, d3, d4, d5, d6, d7]
end Go.Proofs.YtndlnphklklclaaDoorRR
