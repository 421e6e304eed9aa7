/- Numbers that are obeyed one behind the other are obeyed as well in two sequences: the statement's walk. -/
import Derived.Test.YtljjklhkifehaaaPenAwk
import Derived.Test.YtljjklhkifehaaaActW
import Derived.Deep.RegionHeld3
import Derived.Deep.Cut
import Derived.Deep.CutRange
import Derived.Deep.CutBlock
import Derived.Deep.DeepCutAuto
import Derived.Deep.DrawnRows
import Derived.Outline
namespace Go.Proofs.Ytljjklhkifehaaa
open Go.RowKit
attribute [local go_sem ↓] Go.wp_at_zero Go.wp_at_succ
/-- Numbers that act may be made of, none of them 38 or 48. -/
def Plain8 (ms : List Int) : Prop := ∀ x ∈ ms, 0 ≤ x ∧ x < 112 ∧ x ≠ 38 ∧ x ≠ 48
theorem runs_all : ∀ (l : List Int) (s : Int × Int × Int), Plain8 l → Runs l.length l s (l.foldl obeyP s)
  | [], _, _ => ⟨rfl, rfl⟩
  | n :: r, s, h => .inr (.inl ⟨n, r, rfl, (h n (by simp)).2.2.1, (h n (by simp)).2.2.2, runs_all r _ fun x hx => h x (by simp [hx])⟩)
theorem apply_act (r s0 s1 s2 t0 t1 t2 : Int) (l : List Int) (w : World) (h0 : 0 < l.length) (h8 : l.length ≤ 8) (h : Plain8 l) (ht : l.foldl obeyP (s0, s1, s2) = (t0, t1, t2)) :
    Calls Try.prog 8 #[.agg #[.int .i32 r, .int .u8 s0, .int .u8 s1, .int .u8 s2], .agg (actA l)] w fun e w' => e = .returned (.agg #[.int .i32 r, .int .u8 t0, .int .u8 t1, .int .u8 t2]) ∧ Below w.heap.size w w' := by
  have hr := runs_all l (s0, s1, s2) h
  rw [ht] at hr
  exact apply_m r (s0, s1, s2) (t0, t1, t2) l.length _ _ _ _ _ _ _ _ l.length w h0 h8 (by rw [actA_take l h8]; exact hr)
theorem act_list (A : Option Addr) (n c : Nat) (ms : List Int) (w : World) (hn : ms.length = n) (h8 : n ≤ 8) (hA : Ints w A ms) (h : Plain8 ms) :
    Calls Try.prog 9 #[.slice A n c] w fun e w' => e = .returned (.agg (actA ms)) ∧ Below w.heap.size w w' := by
  have hm : (ms.map md).take 8 = ms := by
    rw [List.take_of_length_le (by rw [List.length_map]; omega)]
    conv => rhs; rw [← List.map_id ms]
    exact List.map_congr_left fun x hx => by
      obtain ⟨a, b, _⟩ := h x hx
      show x % 112 = x
      omega
  have hf : Fit ms := fun x hx => by
    obtain ⟨a, b, _⟩ := h x hx
    omega
  have := act_any A n c ms w hn (by unfold maxLen; omega) hA hf
  rw [hm] at this
  exact this
theorem tmod_in (a m : Int) (h : 0 < m) : -m < a.tmod m ∧ a.tmod m < m := by
  have h1 := Int.tmod_lt_of_pos a h
  have h2 := Int.tmod_lt_of_pos (-a) h
  rw [Int.neg_tmod] at h2
  omega
theorem wrap_nat {k : Nat} (h : k < 9223372036854775808) : wrap64 (k : Int) = k := by
  unfold wrap64
  omega
theorem keep4 {w w' : World} {p : Addr} {v : Value} (hb : Below w.heap.size w w') (h : w.cell? p = some v) : w'.cell? p = some v := (hb.cell (World.block_lt_of_cell? w p h)).trans h
abbrev HeldP (b g : Nat) (r s0 s1 s2 : Int) (ad : Addr) (ms : List Int) (w0 : World) (w : World) : Prop :=
  w.cell? ⟨g, 0, none⟩ = some (.int .i32 r) ∧ w.cell? ⟨g, 1, none⟩ = some (.int .u8 s0) ∧ w.cell? ⟨g, 2, none⟩ = some (.int .u8 s1) ∧ w.cell? ⟨g, 3, none⟩ = some (.int .u8 s2) ∧ Ints w (some ad) ms ∧ Below b w0 w ∧ b ≤ w.heap.size
theorem HeldP.keep {b g : Nat} {r s0 s1 s2 : Int} {ad : Addr} {ms : List Int} {w0 w w' : World} (h : HeldP b g r s0 s1 s2 ad ms w0 w) (hb : Below w.heap.size w w') : HeldP b g r s0 s1 s2 ad ms w0 w' :=
  ⟨keep4 hb h.1, keep4 hb h.2.1, keep4 hb h.2.2.1, keep4 hb h.2.2.2.1, h.2.2.2.2.1.below hb, h.2.2.2.2.2.1.trans (hb.mono h.2.2.2.2.2.2), Nat.le_trans h.2.2.2.2.2.2 hb.size⟩
theorem HeldP.ints {b g : Nat} {r s0 s1 s2 : Int} {ad : Addr} {ms : List Int} {w0 w : World} (h : HeldP b g r s0 s1 s2 ad ms w0 w) : Ints w (some ad) ms := h.2.2.2.2.1
theorem HeldP.rest {b g : Nat} {r s0 s1 s2 : Int} {ad : Addr} {ms : List Int} {w0 w : World} {c : Nat} (h : HeldP b g r s0 s1 s2 ad ms w0 w) (k : Nat) (hc : ms.length ≤ c) (hk : k < c) : Ints w (some (ad.add k)) (ms.drop k) := by
  have := h.ints.drop k hc
  rwa [if_neg (by omega)] at this
theorem HeldP.bel {b g : Nat} {r s0 s1 s2 : Int} {ad : Addr} {ms : List Int} {w0 w : World} (h : HeldP b g r s0 s1 s2 ad ms w0 w) : Below b w0 w := h.2.2.2.2.2.1
theorem Plain8.snoc {ms : List Int} (h : Plain8 ms) {x : Int} (h0 : 0 ≤ x) (h1 : x < 112) (h2 : x ≠ 38) (h3 : x ≠ 48) : Plain8 (ms ++ [x]) := fun y hy => by
  rcases List.mem_append.1 hy with hy | hy
  · exact h y hy
  · obtain rfl : y = x := by simpa using hy
    exact ⟨h0, h1, h2, h3⟩

set_option maxRecDepth 100000 in
set_option maxHeartbeats 4000000 in
theorem penParts_walk (r s0 s1 s2 : Int) (A : Option Addr) (n c : Nat) (xs : List Int) (at_ : Int) (w : World) (hn : xs.length = n) (hm : n ≤ maxLen) (hA : Ints w A xs) (hx : Fit xs) :
    Calls Try.prog 4 #[.agg #[.int .i32 r, .int .u8 s0, .int .u8 s1, .int .u8 s2], .slice A n c, .int .i64 at_] w fun e w' => e = .returned (.bool true) ∧ Below w.heap.size w w' := by
  subst hn
  unfold maxLen at hm
  obtain ⟨i0, hi, hz0, hz1, hz2⟩ := info_parts (show (Try.prog.info? 3).map (fun i => (i.zero, i.size, i.bytes)) = some (some (.int .i64 0), 1, 8) from by kernel_rfl)
  go_enter Try.func4, Try.ntmps4
  go_wp2_with fail
  refine (awake_pen _).mono ?_
  rintro e w1 ⟨rfl, hb1⟩
  have hB1 : Blk w1 w.heap.size 23 #[.int .i32 r, .int .u8 s0, .int .u8 s1, .int .u8 s2] := (Blk.new w 23 #[.int .i32 r, .int .u8 s0, .int .u8 s1, .int .u8 s2]).below hb1 (by simp)
  have hb : Below w.heap.size w w1 := later_alloc _ hb1
  clear hb1
  go_upto_block 0 with fail
  go_cut [8, 9, 10] from 13 to 40 (fun s8 _ _ wx => ∃ ms : List Int, ms.length ≤ 8 ∧ Plain8 ms ∧ wx.ownsRow w1.heap.size 3 1 s8 ms.length (ms.map (Value.int .i64)) ∧ Blk wx w.heap.size 23 #[.int .i32 r, .int .u8 s0, .int .u8 s1, .int .u8 s2] ∧ Below w.heap.size w wx)
  case first =>
    go_wp2_with fail
    go_loopw [8, 9, 10] (fun v i _ wr => ∃ (k : Nat) (ms : List Int), k ≤ xs.length ∧ i = .int .i64 k ∧ ms.length ≤ 8 ∧ Plain8 ms ∧ wr.ownsRow w1.heap.size 3 1 v ms.length (ms.map (Value.int .i64)) ∧ Blk wr w.heap.size 23 #[.int .i32 r, .int .u8 s0, .int .u8 s1, .int .u8 s2] ∧ Below w.heap.size w wr ∧ w1.heap.size ≤ wr.heap.size) (fun _ i _ _ => xs.length - (intOf i).toNat)
    case atStart => exact ⟨0, [], Nat.zero_le _, rfl, by simp, (fun _ hx => nomatch hx), World.ownsRow_nil _ _ _ _, hB1, hb, Nat.le_refl _⟩
    case round =>
      obtain ⟨k, ms, hk, rfl, h8, hpl, hown, hB, hbr, hsz⟩ := hrel
      obtain ⟨A', c', rfl⟩ := own_form hown
      by_cases hlt : k < xs.length
      · by_cases hl8 : ms.length < 8
        · obtain ⟨ad, rfl, hc⟩ := (hA.below hbr).at_ hlt
          obtain ⟨x, hxk⟩ : ∃ x, x = xs.getD k 0 := ⟨_, rfl⟩
          have hX : x ∈ xs := by rw [hxk]; simp [hlt, List.getD]
          obtain ⟨hx0, hx1⟩ := hx x hX
          rw [← hxk] at hc
          obtain ⟨t0, t1⟩ := tmod_112 x
          have hmd := md_eq x
          have HMD := Lib.hid hmd
          clear hxk hX hmd
          go_wp2_with (at_builtin; refine wpList_append_own _ rfl _ _ 30 rfl w1.heap.size 3 i0 (.int .i64 0) 1 8 Try.underlying30 hi hz0 hz1 hz2 rfl (by decide) _ _ _ rfl (hown.alloc _) ⟨wr.heap.size, 0, none⟩ 1 1 [_] rfl rfl (cell_one_new _ _ _) (fun u hu => by simp at hu; subst hu; rfl) (by unfold maxLen; omega) (by omega) (by simp; omega) ?_; intro v' w2 hown' hgrow _)
          · go_roundw
            case rel => exact ⟨k + 1, ms, by omega, by go_num, by omega, hpl, hown, hB, hbr, hsz⟩
            case measure => simp [intOf]; omega
          · have e2 : (x.tmod 112 % 112 != 38) = true ∧ (x.tmod 112 % 112 != 48) = true := by assumption
            have e3 : x.tmod 112 % 112 ≠ 38 ∧ x.tmod 112 % 112 ≠ 48 := by simpa using e2
            have hlow : ∀ q, (Value.slice A' ms.length c').ownBlock = some q → w1.heap.size ≤ q := fun q hq => (hown.lt q hq).1
            have hlt1 := hB1.lt
            have hB2 := (hB.alloc (.cells #[.int .i64 (x.tmod 112 % 112)] 3)).grown hgrow (fun e => by have := hlow _ e.symm; omega)
            have hb2 := (hbr.alloc hbr.size (.cells #[.int .i64 (x.tmod 112 % 112)] 3)).grown hgrow (by have := hbr.size; simp; omega) (fun q hq => by have := hlow q hq; omega)
            have hsz2 := hgrow.size
            go_roundw
            case rel =>
              refine ⟨k + 1, ms ++ [x.tmod 112 % 112], by omega, by go_num, by simp; omega, hpl.snoc (by omega) (by omega) e3.1 e3.2, ?_, hB2, hb2, ?_⟩
              · rw [List.length_append, List.map_append]; exact hown'
              · simp at hsz2; omega
            case measure => simp [intOf]; omega
          · go_roundw
            case rel => exact ⟨k + 1, ms, by omega, by go_num, by omega, hpl, hown, hB, hbr, hsz⟩
            case measure => simp [intOf]; omega
        · go_wp2_with fail
          go_meet
          exact ⟨ms, h8, hpl, hown, hB, hbr⟩
      · go_wp2_with fail
        go_meet
        exact ⟨ms, h8, hpl, hown, hB, hbr⟩
  case rest =>
  obtain ⟨ms, h8, hpl, hown, hB, hb2⟩ := hcut
  obtain ⟨A', c', rfl⟩ := own_form hown
  have hA2 : Ints wc A' ms := (Src.of_own hown).ints
  clear hB1 hb hA hx hi hz0 hz1 hz2
  by_cases h2 : ms.length < 2
  · go_wp2_with fail
    refine bodyPost_ret (v := .bool true) ?_ rfl ⟨rfl, hb2⟩
    simp [results, Try.results4, go_sem]
  · have h2' : 2 ≤ ms.length := by omega
    clear h2
    obtain ⟨ht0, ht1⟩ := tmod_in at_ ((ms.length : Int) - 1) (by omega)
    obtain ⟨k, hk, hk1, hk2⟩ : ∃ k : Nat, 1 + (at_.tmod ((ms.length : Int) - 1) + (ms.length : Int) - 1) % ((ms.length : Int) - 1) = (k : Int) ∧ 1 ≤ k ∧ k < ms.length := by
      have h1 := Int.emod_nonneg (at_.tmod ((ms.length : Int) - 1) + (ms.length : Int) - 1) (show (ms.length : Int) - 1 ≠ 0 by omega)
      have h2 := Int.emod_lt_of_pos (at_.tmod ((ms.length : Int) - 1) + (ms.length : Int) - 1) (show 0 < (ms.length : Int) - 1 by omega)
      exact ⟨(1 + (at_.tmod ((ms.length : Int) - 1) + (ms.length : Int) - 1) % ((ms.length : Int) - 1)).toNat, by omega, by omega, by omega⟩
    have HK := Lib.hid hk
    clear hk
    go_upto_region 11 with fail
    go_cut [11] from 12 to 58 (fun s11 wx => s11 = .int .i64 k ∧ wx = wc)
    case first =>
      go_wp2_with fail
      go_meet
      refine ⟨congrArg (Value.int .i64) ?_, rfl⟩
      have h := HK.out
      rw [h]
      exact wrap_nat (by omega)
    case rest =>
    obtain ⟨rfl, rfl⟩ := hcut
    obtain ⟨⟨t0, t1, t2⟩, ht⟩ : ∃ t, t = ms.foldl obeyP (s0, s1, s2) := ⟨_, rfl⟩
    obtain ⟨⟨v0, v1, v2⟩, hv⟩ : ∃ t, t = (ms.take k).foldl obeyP (s0, s1, s2) := ⟨_, rfl⟩
    have hvt : (ms.drop k).foldl obeyP (v0, v1, v2) = (t0, t1, t2) := by
      rw [hv, ht, ← List.foldl_append, List.take_append_drop]
    have hkc : ms.length ≤ c' := by
      rcases hown.2 with ⟨_, h⟩ | ⟨g, cap, cur, h, _, _, hcap, _⟩
      · omega
      · injection h with _ _ h; omega
    obtain ⟨ad, rfl⟩ : ∃ ad, A' = some ad := by
      obtain ⟨ad, h, _⟩ := hA2.at_ (k := 0) (by omega)
      exact ⟨ad, h⟩
    have hpt : Plain8 (ms.take k) := fun x hx => hpl x (List.mem_of_mem_take hx)
    have hpd : Plain8 (ms.drop k) := fun x hx => hpl x (List.mem_of_mem_drop hx)
    have hlt : (ms.take k).length = k := by rw [List.length_take]; omega
    have hld : (ms.drop k).length = ms.length - k := List.length_drop
    obtain ⟨b0, b1, b2, b3, _⟩ := blk4 hB
    have i1 : (0 : Int) ≤ (k : Int) := by omega
    have i2 : (k : Int) ≤ (ms.length : Int) := by omega
    have i3 : (k : Int) ≤ (c' : Int) := by omega
    have hS : HeldP w.heap.size w.heap.size r s0 s1 s2 ad ms w wc.drew := ⟨b0, b1, b2, b3, hA2, hb2.drew, hb2.size⟩
    clear hown hB b0 b1 b2 b3 hA2 hb2 HK ht0 ht1 hm
    go_upto_region 12 with fail
    go_region_held3 (fun w' => w'.cell? ⟨w.heap.size, 0, none⟩ = some (.int .i32 r) ∧ w'.cell? ⟨w.heap.size, 1, none⟩ = some (.int .u8 s0) ∧ w'.cell? ⟨w.heap.size, 2, none⟩ = some (.int .u8 s1) ∧ w'.cell? ⟨w.heap.size, 3, none⟩ = some (.int .u8 s2) ∧ Ints w' (some ad) ms ∧ Below w.heap.size w w' ∧ w.heap.size ≤ w'.heap.size) (first | exact hS | exact hq) (first
      | (go_at_call_of 9 (Value.slice (some ad) ms.length c'); refine (act_list (some ad) ms.length c' ms _ rfl h8 (HeldP.ints (by assumption)) hpl).mono ?_; rintro e w4 ⟨rfl, hb4⟩; have hq := HeldP.keep (by assumption) hb4)
      | (go_at_call_of 8 (Value.agg (actA ms)); refine (apply_act r s0 s1 s2 t0 t1 t2 ms _ (by omega) h8 hpl ht.symm).mono ?_; rintro e w4 ⟨rfl, hb4⟩; have hq := HeldP.keep (by assumption) hb4)
      | (go_at_call_of 9 (Value.slice (some ad) k c'); refine (act_list (some ad) k c' (ms.take k) _ hlt (by omega) ((HeldP.ints (by assumption)).take k) hpt).mono ?_; rintro e w4 ⟨rfl, hb4⟩; have hq := HeldP.keep (by assumption) hb4)
      | (go_at_call_of 8 (Value.agg (actA (ms.take k))); refine (apply_act r s0 s1 s2 v0 v1 v2 (ms.take k) _ (by omega) (by omega) hpt hv.symm).mono ?_; rintro e w4 ⟨rfl, hb4⟩; have hq := HeldP.keep (by assumption) hb4)
      | (go_at_call_of 8 (Value.agg (actA (ms.drop k))); refine (apply_act r v0 v1 v2 t0 t1 t2 (ms.drop k) _ (by omega) (by omega) hpd hvt).mono ?_; rintro e w4 ⟨rfl, hb4⟩; have hq := HeldP.keep (by assumption) hb4)
      | (go_at_call_of 9 (Value.slice (some (ad.add k)) (ms.length - k) (c' - k)); refine (act_list (some (ad.add k)) (ms.length - k) (c' - k) (ms.drop k) _ hld (by omega) (HeldP.rest (c := c') (by assumption) k (by omega) (by omega)) hpd).mono ?_; rintro e w4 ⟨rfl, hb4⟩; have hq := HeldP.keep (by assumption) hb4))
    go_wp2_with fail
    refine bodyPost_ret (v := .bool true) ?_ rfl ⟨rfl, HeldP.bel (by assumption)⟩
    simp [results, Try.results4, go_sem]
end Go.Proofs.Ytljjklhkifehaaa
