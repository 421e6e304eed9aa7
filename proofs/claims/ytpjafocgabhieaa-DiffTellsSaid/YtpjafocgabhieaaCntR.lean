/- The document's Count: walked (for DiffTells). -/
import Derived.Test.YtpjafocgabhieaaNewR
namespace Go.Proofs.Ytpjafocgabhieaa
open Go.RowKit Go.Sort
theorem own_bools {w : World} {base n : Nat} {t : TypeId} {v : Value} {l : List Bool} (h : w.ownsRow base t 1 v n (l.map Value.bool)) (hn : 1 ≤ n) : ∃ g c, v = .slice (some ⟨g, 0, none⟩) n c ∧ base ≤ g ∧ g < w.heap.size ∧ l.length = n ∧ ∀ i b, l[i]? = some b → w.cell? ⟨g, i, none⟩ = some (.bool b) := by
  have hl := h.1
  rw [List.length_map, Nat.mul_one] at hl
  rcases h.2 with ⟨rfl, h0⟩ | ⟨g, cap, cur, rfl, hb, hg, _⟩
  · omega
  · refine ⟨g, cap, rfl, hb, (Array.getElem?_eq_some_iff.1 hg).1, hl, fun i b hi => ?_⟩
    have h2 := h.cells (g := g) rfl i (.bool b) (by simp [hi])
    rw [show ((⟨g, 0, none⟩ : Addr).add i) = ⟨g, i, none⟩ from by unfold Addr.add; split <;> simp_all] at h2
    exact h2
theorem cnt_succ {l : List Bool} {k : Nat} {b : Bool} (h : l[k]? = some b) : cntT (l.take (k + 1)) = cntT (l.take k) + if b then 1 else 0 := by
  obtain ⟨h1, h2⟩ := List.getElem?_eq_some_iff.1 h
  rw [List.take_succ_eq_append_getElem h1, h2, cnt_append]
  cases b <;> rfl
theorem cnt_le (l : List Bool) : cntT l ≤ l.length := List.countP_le_length
set_option maxRecDepth 100000 in
set_option maxHeartbeats 4000000 in
theorem countR_gen (xa ya xb yb : Int) (A B : Option Addr) (na ca nb cb : Nat) (la lb : List Cl) (w : World) (hA : RowS w A na ca la) (hB : RowS w B nb cb lb) :
    Calls Try.prog 26 #[grv xa ya A na ca, grv xb yb B nb cb] w fun e w' => e = .returned (.int .i64 (countP xa ya xb yb la lb : Nat)) ∧ Below w.heap.size w w' := by
  have hNa := (Blk.new w 32 #[.int .i64 xa, .int .i64 ya, .slice A na ca]).alloc (.cells #[.int .i64 xb, .int .i64 yb, .slice B nb cb] 32)
  have hNb := Blk.new (w.alloc (.cells #[.int .i64 xa, .int .i64 ya, .slice A na ca] 32)) 32 #[.int .i64 xb, .int .i64 yb, .slice B nb cb]
  rw [World.size_alloc] at hNb
  have hb0 := ((Below.refl w.heap.size w).alloc (Nat.le_refl _) (.cells #[.int .i64 xa, .int .i64 ya, .slice A na ca] 32)).alloc (by simp) (.cells #[.int .i64 xb, .int .i64 yb, .slice B nb cb] 32)
  obtain ⟨W0, hW0⟩ : ∃ W0, (w.alloc (.cells #[.int .i64 xa, .int .i64 ya, .slice A na ca] 32)).alloc (.cells #[.int .i64 xb, .int .i64 yb, .slice B nb cb] 32) = W0 := ⟨_, rfl⟩
  rw [hW0] at hNa hNb hb0
  have hnew := newR_gen xa ya xb yb A B na ca nb cb la lb W0 (hA.below hb0) (hB.below hb0)
  have ka0 : W0.cell? ⟨w.heap.size, 0, none⟩ = some (.int .i64 xa) := hNa.cell 0
  have ka1 : W0.cell? ⟨w.heap.size, 1, none⟩ = some (.int .i64 ya) := hNa.cell 1
  have ka2 : W0.cell? ⟨w.heap.size, 2, none⟩ = some (.slice A na ca) := hNa.cell 2
  have kb0 : W0.cell? ⟨w.heap.size + 1, 0, none⟩ = some (.int .i64 xb) := hNb.cell 0
  have kb1 : W0.cell? ⟨w.heap.size + 1, 1, none⟩ = some (.int .i64 yb) := hNb.cell 1
  have kb2 : W0.cell? ⟨w.heap.size + 1, 2, none⟩ = some (.slice B nb cb) := hNb.cell 2
  have HB := Lib.hid hB
  clear hA hB
  cases hq : alikeP xa ya xb yb la lb with
  | false =>
    have HP := Lib.hid (show countP xa ya xb yb la lb = 0 by unfold countP; rw [hq]; rfl)
    rw [hq] at hnew
    clear hq
    go_enter Try.func26, Try.ntmps26
    go_wp2_with fail
    refine hnew.mono ?_
    rintro e w1 ⟨v, rfl, hv, _, hb1⟩
    obtain rfl := hv trivial
    have hb2 := hb0.trans (hb1.mono hb0.size)
    clear hW0 hnew
    go_wp2_with fail
    go_loopw [5, 7] (fun s5 s7 wr => s5 = .int .i64 0 ∧ s7 = .int .i64 0 ∧ Below w.heap.size w wr) (fun _ _ _ => 0)
    case atStart => exact ⟨rfl, rfl, hb2⟩
    case round =>
      obtain ⟨rfl, rfl, hbr⟩ := hrel
      go_wp2_with fail
      go_ret
      exact ⟨by rw [HP.out]; rfl, hbr⟩
  | true =>
    obtain ⟨hga, hgb, e1, e2⟩ := alike_parts hq
    obtain ⟨wn, hn, h3, h4, hw1, hw2, hh1, hh2, hlb, hrb⟩ := gridP_parts hgb
    have hnbE := HB.out.len
    have hok : ∀ c ∈ lb, c.x < 256 := fun c hc => (HB.out.ok c hc).x
    have HP := Lib.hid (show countP xa ya xb yb la lb = cntT (newP la lb) by
      unfold countP
      rw [hq, count_new hlb hrb hok, h3, h4]
      rfl)
    rw [hq] at hnew
    have hn12 : nb ≤ 12000 := by
      have h2 : wn * hn ≤ 200 * 60 := Nat.mul_le_mul hw2 hh2
      rw [← hnbE, hlb]
      exact h2
    have hn1 : 1 ≤ nb := by
      have h4 := Nat.mul_le_mul hw1 hh1
      rw [← hnbE, hlb]
      exact h4
    clear hq hga hgb e1 e2 h3 h4 hlb hrb hok
    go_enter Try.func26, Try.ntmps26
    go_wp2_with fail
    refine hnew.mono ?_
    rintro e w1 ⟨v, rfl, _, hv, hb1⟩
    obtain ⟨g, c, rfl, _, hg, hll, hcl⟩ := own_bools (hv trivial) hn1
    have hb2 := hb0.trans (hb1.mono hb0.size)
    generalize newP la lb = l at hcl hll HP
    have HC := Lib.hid hcl
    clear hW0 hnew hv hcl hb1 ka0 ka1 ka2 kb0 kb1 kb2 hNa hNb hb0
    go_wp2_with fail
    go_loopw [5, 7] (fun s5 s7 wr => ∃ k z : Nat, k ≤ nb ∧ z ≤ k ∧ s5 = .int .i64 (z : Nat) ∧ s7 = .int .i64 (k : Nat) ∧ RowKit.Hid (z = cntT (l.take k)) ∧ Below w1.heap.size w1 wr ∧ Below w.heap.size w wr) (fun _ s7 _ => nb - (intOf s7).toNat)
    case atStart => exact ⟨0, 0, by omega, by omega, rfl, rfl, Lib.hid rfl, Below.refl _ _, hb2⟩
    case round =>
      clear hb2
      obtain ⟨k, z, hk, hz, rfl, rfl, HZ, hbr, hbw⟩ := hrel
      by_cases hlt : k < nb
      · have d1 : decide ((k : Int) < (nb : Int)) = true := decide_eq_true (by omega)
        have d2 : decide (k < nb) = true := decide_eq_true hlt
        have d3 : (k : Int) < (nb : Int) := by omega
        obtain ⟨b, hb⟩ : ∃ b, l[k]? = some b := ⟨_, List.getElem?_eq_getElem (by omega)⟩
        have c0 := keepc hbr (HC.out k b hb)
        have HS := Lib.hid (cnt_succ hb)
        clear hb
        cases b with
        | true =>
          go_wp2_with fail
          go_roundw
          case rel => exact ⟨k + 1, z + 1, hlt, by omega, by go_num, by go_num, Lib.hid (by rw [HS.out, ← HZ.out]; rfl), hbr, hbw⟩
          case measure => simp [intOf]; omega
        | false =>
          go_wp2_with fail
          go_roundw
          case rel => exact ⟨k + 1, z, hlt, by omega, by go_num, by go_num, Lib.hid (by rw [HS.out, ← HZ.out]; rfl), hbr, hbw⟩
          case measure => simp [intOf]; omega
      · have d1 : decide ((k : Int) < (nb : Int)) = false := decide_eq_false (by omega)
        have d2 : decide (k < nb) = false := decide_eq_false hlt
        have HQ := Lib.hid (show z = countP xa ya xb yb la lb by rw [HZ.out, List.take_of_length_le (by omega), HP.out])
        go_wp2_with fail
        go_ret
        exact ⟨by rw [← HQ.out]; rfl, hbw⟩
end Go.Proofs.Ytpjafocgabhieaa
