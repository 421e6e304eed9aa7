/- The document's marks of a whole grid, and the rows' marks: plain (for DiffTells). -/
import Derived.Test.YtpjafocgabhieaaDifE
import Derived.Test.YtpjafocgabhieaaCelE
namespace Go.Proofs.Ytpjafocgabhieaa
/-- Which places are new, as the document says. -/
def newP (la lb : List Cl) : List Bool := (List.range lb.length).map (freshR la lb)
theorem newP_len (la lb : List Cl) : (newP la lb).length = lb.length := by simp [newP]
theorem newP_at {la lb : List Cl} {i : Nat} (h : i < lb.length) : (newP la lb)[i]? = some (freshR la lb i) := by simp [newP, h]
theorem row_get {l : List Cl} {wn y x : Nat} (hx : x < wn) : (rowAt l wn y)[x]? = l[y * wn + x]? := by
  unfold rowAt
  rw [List.getElem?_take_of_lt hx, List.getElem?_drop]
theorem row_neq {la lb : List Cl} {wn y x : Nat} (hx : x < wn) : neqAt (rowAt la wn y) (rowAt lb wn y) x = neqAt la lb (y * wn + x) := by
  unfold neqAt
  rw [row_get hx, row_get hx]
/-- What a cell of a right grid's neighbours are. -/
theorem row_next {lb : List Cl} {wn y x : Nat} {c : Cl} (hr : rightP (rowAt lb wn y) = true) (hx : x < wn) (hc : lb[y * wn + x]? = some c) :
    (c.x / 64 = 1 → x + 1 < wn ∧ y * wn + x + 1 < lb.length) ∧ (c.x / 64 = 2 → 1 ≤ x) := by
  have hc' : (rowAt lb wn y)[x]? = some c := by rw [row_get hx, hc]
  obtain ⟨k1, k2, k3⟩ := right_at hr hc'
  constructor
  · intro h1
    have hw : wideC c = true := by
      unfold wideC
      rw [decide_eq_true_eq]
      omega
    have h2 := k2 hw
    have h3 := (List.getElem?_eq_some_iff.1 h2).1
    have h4 : x + 1 < wn := by
      have := rowAt_le lb wn y
      omega
    rw [row_get h4] at h2
    have h5 := (List.getElem?_eq_some_iff.1 h2).1
    exact ⟨h4, by omega⟩
  · intro h1
    have ht : tailC c = true := by
      unfold tailC
      rw [decide_eq_true_eq]
      omega
    obtain ⟨j, _, h2, _⟩ := k3 ht
    omega
theorem fresh_row {la lb : List Cl} {wn y x : Nat} (hr : rightP (rowAt lb wn y) = true) (hok : ∀ c ∈ lb, c.x < 256) (hx : x < wn) (hlen : (rowAt lb wn y).length = wn) : freshG (rowAt la wn y) (rowAt lb wn y) x = freshR la lb (y * wn + x) := by
  rw [fresh_eq hr (fun c hc => hok c (rowAt_sub hc)) (by rw [hlen]; exact hx)]
  obtain ⟨c, hc⟩ : ∃ c, (rowAt lb wn y)[x]? = some c := ⟨_, List.getElem?_eq_getElem (by rw [hlen]; exact hx)⟩
  have hc' := hc
  rw [row_get hx] at hc'
  have hcx := hok c (List.mem_of_getElem? hc')
  obtain ⟨h1, h2⟩ := row_next hr hx hc'
  unfold freshR
  rw [hc, hc', row_neq hx]
  simp only
  by_cases e1 : c.x / 64 = 1
  · rw [if_pos e1, if_pos e1, row_neq (h1 e1).1]
    rfl
  · rw [if_neg e1, if_neg e1]
    by_cases e2 : c.x / 64 = 2
    · have h3 := h2 e2
      rw [if_pos e2, if_pos e2, row_neq (show x - 1 < wn by omega), decide_eq_true h3, decide_eq_true (show 1 ≤ y * wn + x by omega), show y * wn + x - 1 = y * wn + (x - 1) by omega]
    · rw [if_neg e2, if_neg e2]
theorem newP_row {la lb : List Cl} {wn hn y x : Nat} (hlb : lb.length = wn * hn) (hrb : ∀ k, k < hn → rightP (rowAt lb wn k) = true) (hok : ∀ c ∈ lb, c.x < 256) (hy : y < hn) (hx : x < wn) : (newP la lb)[y * wn + x]? = (rowM la lb wn y)[x]? := by
  have h1 : y * wn + wn ≤ hn * wn := by
    rw [← Nat.succ_mul]
    exact Nat.mul_le_mul_right _ hy
  rw [rowM_at hlb hy hx, newP_at (by rw [hlb, Nat.mul_comm wn hn]; omega), fresh_row (hrb y hy) hok hx (rowAt_full hlb hy)]
/-- All marks, row by row. -/
theorem newP_rows {la lb : List Cl} {wn hn : Nat} (hlb : lb.length = wn * hn) (hrb : ∀ k, k < hn → rightP (rowAt lb wn k) = true) (hok : ∀ c ∈ lb, c.x < 256) : ∀ k, k ≤ hn → (newP la lb).take (k * wn) = (List.range k).flatMap fun y => rowM la lb wn y
  | 0, _ => by simp
  | k + 1, hk => by
    have h1 : k * wn + wn ≤ hn * wn := by
      rw [← Nat.succ_mul]
      exact Nat.mul_le_mul_right _ hk
    have h2 : (newP la lb).length = hn * wn := by rw [newP_len, hlb, Nat.mul_comm]
    rw [List.range_succ, List.flatMap_append, ← newP_rows hlb hrb hok k (by omega), Nat.succ_mul, List.take_add]
    congr 1
    simp only [List.flatMap_cons, List.flatMap_nil, List.append_nil]
    apply List.ext_getElem?
    intro x
    by_cases hx : x < wn
    · rw [List.getElem?_take_of_lt hx, List.getElem?_drop, newP_row hlb hrb hok hk hx]
    · rw [List.getElem?_eq_none (by rw [List.length_take, List.length_drop]; omega), List.getElem?_eq_none (by rw [rowM_len hlb hk]; omega)]
theorem cnt_append (a b : List Bool) : cntT (a ++ b) = cntT a + cntT b := by simp [cntT]
/-- BOTH COUNT THE SAME. -/
theorem count_new {la lb : List Cl} {wn hn : Nat} (hlb : lb.length = wn * hn) (hrb : ∀ k, k < hn → rightP (rowAt lb wn k) = true) (hok : ∀ c ∈ lb, c.x < 256) : cntT (newP la lb) = ((allD la lb wn hn).map (·.2.2)).sum := by
  have h1 := newP_rows (la := la) hlb hrb hok hn (Nat.le_refl _)
  rw [List.take_of_length_le (by rw [newP_len, hlb, Nat.mul_comm]; exact Nat.le_refl _)] at h1
  unfold allD
  rw [sum_rest hlb hn 0 (by omega), List.drop_zero, h1]
  have : ∀ L : List Nat, cntT (L.flatMap fun y => rowM la lb wn y) = (L.map fun y => cntT (rowM la lb wn y)).sum := by
    intro L
    induction L with
    | nil => rfl
    | cons y L ih => rw [List.flatMap_cons, cnt_append, ih, List.map_cons, List.sum_cons]
  exact this _
end Go.Proofs.Ytpjafocgabhieaa

/- The document's pair of a place of a grid: walked (for DiffTells). -/
namespace Go.Proofs.Ytpjafocgabhieaa
open Go.RowKit Go.Sort
/-- The other half's place; below 0: none. -/
def pairI (c : Cl) (i : Nat) : Int := if c.x / 64 = 1 then (i : Int) + 1 else if c.x / 64 = 2 then (i : Int) - 1 else -1
set_option maxRecDepth 100000 in
set_option maxHeartbeats 4000000 in
theorem pair16_gen (x y : Int) (ad : Addr) (n cp i : Nat) (l : List Cl) (w : World) (hl : l.length = n) (hn : n ≤ 12000) (hC : Cels w ad l) (c : Cl) (hc : l[i]? = some c) :
    Calls Try.prog 67 #[grv x y (some ad) n cp, .int .i64 (i : Nat)] w fun e w' => e = .returned (.int .i64 (pairI c i)) ∧ Below w.heap.size w w' := by
  have hi : i < n := by rw [← hl]; exact (List.getElem?_eq_some_iff.1 hc).1
  have hN := Blk.new w 32 #[.int .i64 x, .int .i64 y, .slice (some ad) n cp]
  have hb0 := (Below.refl w.heap.size w).alloc (Nat.le_refl _) (.cells #[.int .i64 x, .int .i64 y, .slice (some ad) n cp] 32)
  obtain ⟨⟨_, _, _, c3⟩, ok⟩ := hC.below hb0 i c hc
  have k2 : (w.alloc (.cells #[.int .i64 x, .int .i64 y, .slice (some ad) n cp] 32)).cell? ⟨w.heap.size, 2, none⟩ = some (.slice (some ad) n cp) := hN.cell 2
  have d1 : decide ((i : Int) < (n : Int)) = true := decide_eq_true (by omega)
  have d2 : decide (i < n) = true := decide_eq_true hi
  have hx := ok.x
  have q0 : ∃ z : Nat, z = c.x / 64 ∧ ((c.x : Int) / 64) = (z : Int) := ⟨_, rfl, (Int.natCast_ediv _ _).symm⟩
  obtain ⟨z, hz, q1⟩ := q0
  have q2 : ((c.x : Int).tdiv 64) = (z : Int) := by
    rw [Int.tdiv_eq_ediv_of_nonneg (Int.natCast_nonneg _)]
    exact q1
  have HP := Lib.hid (show pairI c i = if z = 1 then (i : Int) + 1 else if z = 2 then (i : Int) - 1 else -1 by unfold pairI; rw [hz])
  have hz4 : z ≤ 3 := by omega
  clear hC hc hx hl ok hN hz
  by_cases h1 : z = 1
  · have HQ := Lib.hid (HP.out.trans (if_pos h1))
    subst h1
    go_enter Try.func67, Try.ntmps67
    go_wp2_with fail
    go_ret
    exact ⟨by rw [HQ.out]; rfl, hb0⟩
  · have e1 : ((z : Int) % 256 == 1) = false := by
      rw [beq_eq_false_iff_ne]
      omega
    have e2 : (z == 1) = false := by
      rw [beq_eq_false_iff_ne]
      exact h1
    by_cases h2 : z = 2
    · have HQ := Lib.hid (HP.out.trans ((if_neg h1).trans (if_pos h2)))
      subst h2
      go_enter Try.func67, Try.ntmps67
      go_wp2_with fail
      go_ret
      exact ⟨by rw [HQ.out]; rfl, hb0⟩
    · have HQ := Lib.hid (HP.out.trans ((if_neg h1).trans (if_neg h2)))
      have e3 : ((z : Int) % 256 == 2) = false := by
        rw [beq_eq_false_iff_ne]
        omega
      have e4 : (z == 2) = false := by
        rw [beq_eq_false_iff_ne]
        exact h2
      go_enter Try.func67, Try.ntmps67
      go_wp2_with fail
      go_ret
      exact ⟨by rw [HQ.out]; rfl, hb0⟩
end Go.Proofs.Ytpjafocgabhieaa
