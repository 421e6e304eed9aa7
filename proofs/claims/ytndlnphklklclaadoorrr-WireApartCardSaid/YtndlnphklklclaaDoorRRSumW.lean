/- package check (New, Write, Sum, Reset), walked: a summer's sum is the sum of XCrcP. -/
import Derived.Test.YtndlnphklklclaaDoorRRFillW
import Derived.BigQuiet
import Derived.Deep.QuietTactic
namespace Go.Proofs.YtndlnphklklclaaDoorRR
open Go.RowKit Crc

/-- A new summer's cells. -/
def zeroSum : Array Value := Array.replicate 257 (.int .u32 0)
theorem zero_any (w : World) : (zeroValue 87).run Tryd.prog w = .ok (.agg zeroSum) w := by kernel_rfl

/-- In block b lies a summer whose table is made, and whose sum is s. -/
def SumAt (w : World) (b : Nat) (s : Nat) : Prop := ∃ cs : Array Value, Blk w b 87 cs ∧ cs.size = 257 ∧ (∀ i, i < 256 → cs[i]? = some (.int .u32 (eight i))) ∧ cs[256]? = some (.int .u32 s)

set_option maxRecDepth 100000 in
set_option maxHeartbeats 1000000 in
theorem new_any (w : World) :
    Calls Tryd.prog 28 #[] w fun e w' => e = .returned (.pointer (some ⟨w.heap.size, 0, none⟩)) ∧ SumAt w' w.heap.size 0 ∧ Below w.heap.size w w' ∧ w.heap.size < w'.heap.size := by
  have hz := zero_any
  go_enter Tryd.func28, Tryd.ntmps28
  go_wp2_with fail
  refine (fill_any _ _ _ (Blk.new w 87 zeroSum) (by simp [zeroSum])).mono ?_
  rintro e w1 ⟨rfl, cs, hB, hs, ht, hl, hO⟩
  go_wp2_with fail
  go_ret
  refine ⟨rfl, ⟨cs, hB, hs, ht, by rw [hl]; simp [zeroSum]⟩, ((Below.refl _ _).alloc (Nat.le_refl _) _).trans (only_below hO (Nat.le_refl _) (by simp)), hB.lt⟩
/-- The bytes of all texts, one behind the other. -/
def allB (ps : List ByteArray) : List UInt8 := ps.flatMap (·.data.toList)

theorem take_snoc_b (p : ByteArray) (j : Nat) (h : j < p.size) : p.data.toList.take (j + 1) = p.data.toList.take j ++ [p[j]] := by
  rw [List.take_succ_eq_append_getElem (by simpa using h)]; rfl
theorem take_all_b (p : ByteArray) (j : Nat) (h : p.size ≤ j) : p.data.toList.take j = p.data.toList := List.take_of_length_le (show p.data.toList.length ≤ j from h)
theorem allB_step (ps : List ByteArray) (k : Nat) (h : k < ps.length) : allB (ps.take k) ++ (ps.getD k ByteArray.empty).data.toList = allB (ps.take (k + 1)) := by
  unfold allB
  rw [List.take_succ_eq_append_getElem h, List.flatMap_append]
  simp only [List.getD, List.getElem?_eq_getElem h, Option.getD_some, List.flatMap_cons, List.flatMap_nil, List.append_nil]

set_option maxRecDepth 100000 in
set_option maxHeartbeats 2000000 in
theorem write_any (b s : Nat) (A : Option Addr) (n c : Nat) (ps : List ByteArray) (w : World) (hs : s < 4294967296) (hS : SumAt w b s) (hn : ps.length = n) (hm : n ≤ maxLen) (hP : Elems w A n fun k => .string (ps.getD k ByteArray.empty)) (hsz : ∀ p ∈ ps, p.size ≤ maxLen) :
    Calls Tryd.prog 29 #[.pointer (some ⟨b, 0, none⟩), .slice A n c] w fun e w' => e = .returned (.pointer (some ⟨b, 0, none⟩)) ∧ SumAt w' b (run (s ^^^ ones) (allB ps) ^^^ ones) ∧ Only b w w' := by
  obtain ⟨cs, hB, hsize, ht, hl⟩ := hS
  have h1 : w.cell? ⟨b, 1, none⟩ = some (.int .u32 4067132163) := (hB.cell 1).trans (ht 1 (by omega))
  have h256 : w.cell? ⟨b, 256, none⟩ = some (.int .u32 s) := (hB.cell 256).trans hl
  have HT := Lib.hid ht
  have HN := Lib.hid hn
  have HL := Lib.hid hl
  have HZ := Lib.hid hsz
  unfold maxLen at hm
  clear ht hn hl hsz
  go_enter Tryd.func29, Tryd.ntmps29
  go_wp2
  have hmx : bits .xor .u32 IntKind.u32.max (s : Int) = ((s ^^^ ones : Nat) : Int) := by
    rw [Nat.xor_comm]; exact u32_xor_nat 4294967295 s (by omega) hs
  have HM := Lib.hid hmx
  clear hmx
  go_loopw [5, 26] (fun r i wr => ∃ (k q m : Nat), k ≤ n ∧ q = run (s ^^^ ones) (allB (ps.take k)) ∧ i = .int .i64 k ∧ r = .int .u32 q ∧ wr = w.drewN m) (fun _ i _ => n - (intOf i).toNat)
  case atStart => exact ⟨0, _, 0, by omega, rfl, rfl, by rw [HM.out]; rfl, rfl⟩
  case round =>
    obtain ⟨k, q, m, hk, hq, rfl, rfl, rfl⟩ := hrel
    have hq32 : q < 4294967296 := by rw [hq]; exact run_lt _ _ (Nat.xor_lt_two_pow hs ones_lt)
    have HQ := Lib.hid hq
    clear hq
    by_cases hlt : k < n
    · obtain ⟨ad, rfl, hc⟩ := hP.at_ hlt
      obtain ⟨p, hp⟩ : ∃ p, p = ps.getD k ByteArray.empty := ⟨_, rfl⟩
      have hpm : p ∈ ps := by
        rw [hp]
        have := HN.out
        simp [List.getD, show k < ps.length by omega]
      have hps := HZ.out p hpm
      unfold maxLen at hps
      rw [← hp] at hc
      have HPP := Lib.hid hp
      clear hp hpm hP
      go_wp2
      obtain ⟨wo, hwo⟩ : ∃ wo : World, wo = w.drewN m := ⟨_, rfl⟩
      go_loopw [5, 32] (fun r i wr => ∃ (j x m : Nat), j ≤ p.size ∧ x = run q (p.data.toList.take j) ∧ i = .int .i64 j ∧ r = .int .u32 x ∧ wr = w.drewN m) (fun _ i _ => p.size - (intOf i).toNat)
      case atStart => exact ⟨0, q, m, by omega, rfl, rfl, rfl, rfl⟩
      case round =>
        obtain ⟨j, x, m', hj, hx, rfl, rfl, rfl⟩ := hrel
        have hx32 : x < 4294967296 := by rw [hx]; exact run_lt _ _ hq32
        have HX := Lib.hid hx
        clear hx hwo
        by_cases hlj : j < p.size
        · obtain ⟨y, hy⟩ : ∃ y, y = x % 256 ^^^ (p[j]'hlj).toNat := ⟨_, rfl⟩
          have hc256 : (p[j]'hlj).toNat < 256 := UInt8.toNat_lt _
          have hy256 : y < 256 := by rw [hy]; exact Nat.xor_lt_two_pow (n := 8) (by omega) hc256
          have hxb : bits .xor .u8 ((x : Int) % 256) ((p[j]'hlj).toNat : Int) = (y : Int) := by
            have h := u8_xor_nat (x % 256) (p[j]'hlj).toNat (by omega) hc256
            rw [← hy, show ((x % 256 : Nat) : Int) = (x : Int) % 256 from by omega] at h
            exact h
          have hcell : w.cell? ⟨b, y, none⟩ = some (.int .u32 (eight y)) := (hB.cell y).trans (HT.out y hy256)
          have hup : bits .xor .u32 ((x : Int) / 256) (eight y : Int) = ((upd x (p[j]'hlj).toNat : Nat) : Int) := by
            have h := u32_xor_nat (x / 256) (eight y) (by omega) (eight_lt (r := y) (by omega))
            rw [hy, upd_table, show ((x / 256 : Nat) : Int) = (x : Int) / 256 from by omega, ← hy] at h
            exact h
          have HY := Lib.hid hy
          clear hy hc256
          go_wp2
          go_quiet (fail)
          go_wp2
          go_roundw
          case rel => exact ⟨j + 1, upd x (p[j]'hlj).toNat, _, by omega, by rw [take_snoc_b p j hlj, run_snoc, ← HX.out], by go_num, rfl, rfl⟩
          case measure => simp [intOf]; omega
        · go_wp2
          go_roundw
          case rel => exact ⟨k + 1, x, _, by omega, by rw [HX.out, take_all_b p j (by omega), HQ.out, ← run_append, HPP.out, allB_step ps k (by have := HN.out; omega)], by go_num, rfl, rfl⟩
          case measure => simp [intOf]; omega
    · have hmq : bits .xor .u32 IntKind.u32.max (q : Int) = ((q ^^^ ones : Nat) : Int) := by
        rw [Nat.xor_comm]; exact u32_xor_nat 4294967295 q (by omega) hq32
      have hf := hB.free 256
      go_wp2
      go_ret
      refine ⟨rfl, ⟨cs.setIfInBounds 256 (.int .u32 ((q ^^^ ones : Nat) : Int)), (hB.drewN _).set 256 _, by simpa using hsize, ?_, ?_⟩, only_set (only_drewN (only_refl _ _) _) 256 _⟩
      · intro i hi
        rw [Array.getElem?_setIfInBounds_ne (by omega)]
        exact HT.out i hi
      · rw [Array.getElem?_setIfInBounds_self_of_lt (by omega), HQ.out, List.take_of_length_le (by have := HN.out; omega)]

set_option maxRecDepth 100000 in
theorem sumM_any (b s : Nat) (w : World) (hS : SumAt w b s) : Calls Tryd.prog 30 #[.pointer (some ⟨b, 0, none⟩)] w fun e w' => e = .returned (.int .u32 (s : Int)) ∧ w = w' := by
  obtain ⟨cs, hB, _, _, hl⟩ := hS
  have h256 : w.cell? ⟨b, 256, none⟩ = some (.int .u32 s) := (hB.cell 256).trans hl
  go_enter Tryd.func30, Tryd.ntmps30
  go_wp2
  go_ret
  exact ⟨rfl, rfl⟩

theorem Elems.one (w : World) (v : Value) (t : TypeId) (f : Nat → Value) (hf : f 0 = v) : Elems (w.alloc (.cells #[v] t)) (some ⟨w.heap.size, 0, none⟩) 1 f := fun _ =>
  ⟨_, rfl, fun k hk => by
    obtain rfl : k = 0 := by omega
    rw [hf]
    exact cell_one_new w v t 0 v rfl⟩

theorem SumAt.alloc {w : World} {b s : Nat} (h : SumAt w b s) (o : Obj) : SumAt (w.alloc o) b s := by
  obtain ⟨cs, hB, hs, ht, hl⟩ := h
  exact ⟨cs, hB.alloc o, hs, ht, hl⟩
theorem SumAt.lt {w : World} {b s : Nat} (h : SumAt w b s) : b < w.heap.size := by
  obtain ⟨cs, hB, _⟩ := h
  exact hB.lt
theorem SumAt.below {w w' : World} {b s B : Nat} (h : SumAt w b s) (hb : Below B w w') (hB : b < B) : SumAt w' b s := by
  obtain ⟨cs, h, hs, ht, hl⟩ := h
  exact ⟨cs, h.below hb hB, hs, ht, hl⟩

set_option maxRecDepth 100000 in
theorem sum_any (s : ByteArray) (w : World) (hsz : s.size ≤ maxLen) : Calls Tryd.prog 20 #[.string s] w fun e w' => e = .returned (.int .u32 (crc s.data.toList : Int)) ∧ Below w.heap.size w w' := by
  have hrun : run (0 ^^^ ones) (allB [s]) ^^^ ones = crc s.data.toList := by unfold crc allB; simp
  have HR := Lib.hid hrun
  clear hrun
  go_enter Tryd.func20, Tryd.ntmps20
  go_wp2_with fail
  refine (new_any w).mono ?_
  rintro e w1 ⟨rfl, hS, hb1, hlt⟩
  go_wp2_with fail
  refine (write_any _ 0 _ _ _ [s] _ (by omega) (hS.alloc (.cells #[.string s] 9)) rfl (by simp [maxLen]) (Elems.one _ _ _ _ rfl) (fun p hp => by simp at hp; rw [hp]; exact hsz)).mono ?_
  rintro e w2 ⟨rfl, hS2, hO⟩
  rw [HR.out] at hS2
  go_wp2_with fail
  refine (sumM_any _ _ _ hS2).mono ?_
  rintro e w3 ⟨rfl, rfl⟩
  go_wp2_with fail
  go_ret
  exact ⟨rfl, (hb1.alloc hb1.size _).trans (only_below hO (Nat.le_refl _) (by simp; omega))⟩
end Go.Proofs.YtndlnphklklclaaDoorRR
