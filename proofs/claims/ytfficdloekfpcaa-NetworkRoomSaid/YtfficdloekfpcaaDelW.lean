/- slices.Delete of one packet, walked. (Types and functions by this seat's numbers.) -/
import Derived.Test.YtfficdloekfpcaaSendW
import Derived.Laws.IdiomCopy
import Derived.Deep.RegionLaw
namespace Go.Proofs.Ytfficdloekfpcaa
open Go.RowKit Go.Maps
attribute [local go_sem ↓] Go.wp_at_zero Go.wp_at_succ
/-- Cells laid one behind the other. -/
def putAll (cs : Array Value) : Nat → List Value → Array Value
  | _, [] => cs
  | o, v :: r => putAll (cs.setIfInBounds o v) (o + 1) r
theorem putAll_size (vs : List Value) : ∀ (cs : Array Value) (o : Nat), (putAll cs o vs).size = cs.size := by
  induction vs with
  | nil => intro cs o; rfl
  | cons v r ih => intro cs o; show (putAll _ _ r).size = _; rw [ih]; simp
theorem putAll_get (vs : List Value) : ∀ (cs : Array Value) (o j : Nat), o + vs.length ≤ cs.size → (putAll cs o vs)[j]? = if o ≤ j ∧ j < o + vs.length then vs[j - o]? else cs[j]? := by
  induction vs with
  | nil => intro cs o j _; rw [if_neg (by simp)]; rfl
  | cons v r ih =>
    intro cs o j h
    simp only [List.length_cons] at h
    show (putAll (cs.setIfInBounds o v) (o + 1) r)[j]? = _
    rw [ih _ _ _ (by simp; omega)]
    by_cases h1 : o + 1 ≤ j ∧ j < o + 1 + r.length
    · rw [if_pos h1, if_pos (by simp; omega), show j - o = (j - (o + 1)) + 1 from by omega, List.getElem?_cons_succ]
    · rw [if_neg h1]
      by_cases h2 : j = o
      · subst h2
        rw [if_pos (by simp), Array.getElem?_setIfInBounds_self_of_lt (by omega)]
        simp
      · rw [if_neg (by simp; omega), Array.getElem?_setIfInBounds_ne (by omega)]
theorem Blk.setCells {g t : Nat} (vs : List Value) : ∀ {w : World} {cs : Array Value} (o : Nat), Blk w g t cs → Blk (w.setCells g o vs) g t (putAll cs o vs) := by
  induction vs with
  | nil => intro w cs o h; exact h
  | cons v r ih => intro w cs o h; exact ih (o + 1) (h.set o v)
theorem only_setCells {g : Nat} {a : World} (vs : List Value) : ∀ {w : World} (o : Nat), Only g a w → Only g a (w.setCells g o vs) := by
  induction vs with
  | nil => intro w o h; exact h
  | cons v r ih => intro w o h; exact ih (o + 1) (only_set h o v)
theorem pk_length (ps : List (Int × Int × ByteArray)) : (pkCells ps).length = ps.length * 3 := by
  induction ps with
  | nil => rfl
  | cons p r ih =>
    have : pkCells (p :: r) = [.int .i64 p.1, .int .i64 p.2.1, .string p.2.2] ++ pkCells r := rfl
    rw [this, List.length_append, ih]
    simp
    omega
theorem pk_append (a b : List (Int × Int × ByteArray)) : pkCells (a ++ b) = pkCells a ++ pkCells b := by simp [pkCells]
theorem pk_erase (ps : List (Int × Int × ByteArray)) (i : Nat) (h : i < ps.length) : pkCells (ps.eraseIdx i) = (pkCells ps).take (i * 3) ++ (pkCells ps).drop ((i + 1) * 3) := by
  rw [List.eraseIdx_eq_take_drop_succ, pk_append]
  have h1 : pkCells ps = pkCells (ps.take i) ++ pkCells (ps.drop i) := by rw [← pk_append, List.take_append_drop]
  have h2 : pkCells ps = pkCells (ps.take (i + 1)) ++ pkCells (ps.drop (i + 1)) := by rw [← pk_append, List.take_append_drop]
  have l1 : (pkCells (ps.take i)).length = i * 3 := by rw [pk_length, List.length_take]; omega
  have l2 : (pkCells (ps.take (i + 1))).length = (i + 1) * 3 := by rw [pk_length, List.length_take]; omega
  congr 1
  · conv => rhs; rw [h1]
    rw [← l1, List.take_left]
  · conv => rhs; rw [h2]
    rw [← l2, List.drop_left]
theorem pk_one (ps : List (Int × Int × ByteArray)) : ∀ u ∈ pkCells ps, u.oneCell' = true := fun u hu => by
  obtain ⟨p, _, h⟩ := List.mem_flatMap.1 hu
  simp at h
  rcases h with rfl | rfl | rfl <;> rfl
def zero3 : List Value := [.int .i64 0, .int .i64 0, .string ByteArray.empty]
theorem clear_one (g N cc : Nat) (w : World) (cur : Array Value) (hB : Blk w g 27 cur) (hs : N * 3 + 3 ≤ cur.size) : (Builtin.clear_ #[43] 0 #[.slice (some ⟨g, N * 3, none⟩) 1 cc]).run Try.prog w = .ok (.tuple #[]) (w.setCells g (N * 3) zero3) := by
  have h := run_storeCells_cells (P := Try.prog) g (N * 3) zero3 0 w (fun j hj => by
      have hj3 : j < 3 := hj
      rw [show w.cell? ⟨g, N * 3 + 0 + j, none⟩ = cur[N * 3 + 0 + j]? from hB.cell _, Array.getElem?_eq_getElem (by omega)]
      rfl) (fun j _ => hB.free _) (fun v hv => by simp [zero3] at hv; rcases hv with rfl | rfl | rfl <;> rfl)
  simp [Builtin.clear_, run_underlying Try.underlying43, Result.andThen]
  rw [show (Builtin.zeroCells (Value.agg #[Value.int IntKind.i64 0, Value.int IntKind.i64 0, Value.string { data := #[] }]).cells 1).toList = zero3 from by simp [Builtin.zeroCells, Value.cells, List.range_succ, zero3]; rfl, h]
  rfl
set_option maxRecDepth 100000 in
set_option maxHeartbeats 1000000 in
theorem delete_any (g n cap i : Nat) (cur : Array Value) (w : World) (hB : Blk w g 27 cur) (hi : i < n) (hn : n ≤ cap) (hs : cur.size = cap * 3) (ps : List (Int × Int × ByteArray)) (hps : ps.length = n) (hrow : cur.toList.take (n * 3) = pkCells ps) :
    Calls Try.prog 23 #[.slice (some ⟨g, 0, none⟩) n cap, .int .i64 i, .int .i64 ((i + 1 : Nat) : Int)] w fun e w' => e = .returned (.slice (some ⟨g, 0, none⟩) (n - 1) cap) ∧ Only g w w' ∧ ∃ cur', Blk w' g 27 cur' ∧ cur'.size = cap * 3 ∧ cur'.toList.take ((n - 1) * 3) = pkCells (ps.eraseIdx i) := by
  have i1 : (0 : Int) ≤ (i : Int) := by omega
  have i2 : (i : Int) ≤ ((i + 1 : Nat) : Int) := by omega
  have i3 : ((i + 1 : Nat) : Int) ≤ (n : Int) := by omega
  have i4 : (n : Int) ≤ (cap : Int) := by omega
  have i5 : ((i + 1 : Nat) : Int) ≤ (cap : Int) := by omega
  have i6 : (i : Int) ≤ (cap : Int) := by omega
  have hne : ((i : Int) == ((i + 1 : Nat) : Int)) = false := by simp; omega
  have i7 : (0 : Int) ≤ (i : Int) + 1 := by omega
  have i8 : (i : Int) + 1 ≤ (n : Int) := by omega
  obtain ⟨ad, had⟩ : ∃ ad : Addr, (if cap = i + 1 then some (⟨g, 0, none⟩ : Addr) else some ⟨g, (i + 1) * 3, none⟩) = some ad := by
    by_cases hc : cap = i + 1
    · exact ⟨_, if_pos hc⟩
    · exact ⟨_, if_neg hc⟩
  obtain ⟨news, hnews⟩ : ∃ news : List Value, news = (cur.toList.drop ((i + 1) * 3)).take ((n - (i + 1)) * 3) := ⟨_, rfl⟩
  have hnl : news.length = (n - (i + 1)) * 3 := by rw [hnews, List.length_take, List.length_drop]; simp [hs]; omega
  have hnc : ∀ j u, news[j]? = some u → w.drew.cell? (ad.add j) = some u := fun j u hj => by
    have hjl : j < (n - (i + 1)) * 3 := by rw [← hnl]; exact (List.getElem?_eq_some_iff.1 hj).1
    have hc : cap ≠ i + 1 := by omega
    rw [if_neg hc] at had
    injection had with had
    subst had
    have h2 : cur[(i + 1) * 3 + j]? = some u := by
      rw [hnews, List.getElem?_take, if_pos hjl, List.getElem?_drop] at hj
      simpa using hj
    rw [show ((⟨g, (i + 1) * 3, none⟩ : Addr).add j) = ⟨g, (i + 1) * 3 + j, none⟩ from by unfold Addr.add; split <;> simp_all]
    exact (hB.cell _).trans h2
  have hnone : ∀ u ∈ news, u.oneCell' = true := fun u hu => by
    rw [hnews, show (n - (i + 1)) * 3 = n * 3 - (i + 1) * 3 from by omega, ← List.drop_take, hrow] at hu
    exact pk_one ps u (List.mem_of_mem_drop hu)
  have hspare : ∀ j, j < news.length → (w.drew.cell? ⟨g, 0 + i * 3 + j, none⟩).isSome = true ∧ w.drew.frozen? ⟨g, 0 + i * 3 + j, none⟩ = false := fun j hj => by
    rw [hnl] at hj
    refine ⟨?_, hB.free _⟩
    have : w.drew.cell? ⟨g, 0 + i * 3 + j, none⟩ = cur[0 + i * 3 + j]? := hB.cell _
    rw [this, Array.getElem?_eq_getElem (by omega)]
    rfl
  obtain ⟨i0, hi0, hz0, hz1, hz2⟩ := info_parts (show (Try.prog.info? 27).map (fun i => (i.zero, i.size, i.bytes)) = some (some (.agg #[.int .i64 0, .int .i64 0, .string ByteArray.empty]), 3, 32) from by kernel_rfl)
  have HNE := Lib.hid hnews
  clear hnews
  go_enter Try.func23, Try.ntmps23
  go_upto_region 5 with fail
  go_region_law (refine step_append_room rfl (.tmp 22) (.tmp 25) 43 rfl 27 i0 3 Try.underlying43 hi0 hz1 g 0 i cap (by simp [Act.eval, Act.put]) ad (n - (i + 1)) (cap - (i + 1)) news (by simp [Act.eval, Act.put]) hnl hnc hnone (by omega) hspare ?_)
  have hB5 : Blk (w.drew.setCells g (i * 3) news) g 27 (putAll cur (i * 3) news) := Blk.setCells news _ hB.drew
  have hO5 : Only g w (w.drew.setCells g (i * 3) news) := only_setCells news _ (only_drew (only_refl g w))
  have hs5 : (putAll cur (i * 3) news).size = cap * 3 := (putAll_size news cur _).trans hs
  have hg5 := putAll_get news cur (i * 3)
  generalize putAll cur (i * 3) news = cur5 at hB5 hs5 hg5
  go_upto_region 6 with fail
  generalize w.drew.setCells g (i * 3) news = w5 at hB5 hO5 ⊢
  obtain ⟨N, hN⟩ : ∃ N, n = N + 1 := ⟨n - 1, by omega⟩
  subst hN
  have e1 : i + (N + 1 - (i + 1)) = N := by omega
  have e2 : N + 1 - N = 1 := by omega
  obtain ⟨x0, hx0⟩ : ∃ x, cur5[N * 3]? = some x := ⟨_, Array.getElem?_eq_getElem (by omega)⟩
  obtain ⟨x1, hx1⟩ : ∃ x, cur5[N * 3 + 1]? = some x := ⟨_, Array.getElem?_eq_getElem (by omega)⟩
  obtain ⟨x2, hx2⟩ : ∃ x, cur5[N * 3 + 2]? = some x := ⟨_, Array.getElem?_eq_getElem (by omega)⟩
  have c0 : w5.cell? ⟨g, N * 3, none⟩ = some x0 := (hB5.cell _).trans hx0
  have c1 : w5.cell? ⟨g, N * 3 + 1, none⟩ = some x1 := (hB5.cell _).trans hx1
  have c2 : w5.cell? ⟨g, N * 3 + 2, none⟩ = some x2 := (hB5.cell _).trans hx2
  have f0 := hB5.free (N * 3)
  have f1 := hB5.free (N * 3 + 1)
  have f2 := hB5.free (N * 3 + 2)
  have j1 : (0 : Int) ≤ (N : Int) := by omega
  have j2 : (N : Int) ≤ ((N + 1 : Nat) : Int) := by omega
  have j3 : ((N + 1 : Nat) : Int) ≤ (cap : Int) := by omega
  have HG := Lib.hid hg5
  have HNL := Lib.hid hnl
  clear hg5 hnc hspare hnl hnone had
  simp only [e1]
  have hcl := clear_one g N (cap - N) w5 cur5 hB5 (by omega)
  have HR := Lib.hid hrow
  clear hrow
  go_wp2_with fail
  go_ret
  refine ⟨rfl, only_setCells zero3 _ hO5, _, Blk.setCells zero3 (N * 3) hB5, (putAll_size _ _ _).trans hs5, ?_⟩
  rw [show N + 1 - 1 = N from rfl, pk_erase ps i (by omega)]
  apply List.ext_getElem?
  intro j
  by_cases hj : j < N * 3
  · rw [List.getElem?_take, if_pos hj, Array.getElem?_toList, putAll_get _ _ _ _ (by show N * 3 + 3 ≤ _; omega), if_neg (by omega), HG.out j (by rw [HNL.out, hs]; omega), HNL.out]
    have hlen : (pkCells ps).length = (N + 1) * 3 := by rw [pk_length, hps]
    have hcur : ∀ q, q < (N + 1) * 3 → cur[q]? = (pkCells ps)[q]? := fun q hq => by
      have h := congrArg (fun l => l[q]?) HR.out
      simp only [List.getElem?_take, if_pos hq, Array.getElem?_toList] at h
      exact h
    by_cases hji : j < i * 3
    · rw [if_neg (by omega), hcur j (by omega), List.getElem?_append_left (by rw [List.length_take, hlen]; omega), List.getElem?_take, if_pos hji]
    · rw [if_pos (by omega), HNE.out, List.getElem?_take, if_pos (by omega), List.getElem?_drop, Array.getElem?_toList, hcur _ (by omega), List.getElem?_append_right (by rw [List.length_take, hlen]; omega), List.getElem?_drop, List.length_take, hlen]
      congr 1
      omega
  · rw [List.getElem?_eq_none (by rw [List.length_take]; omega), List.getElem?_eq_none (by rw [List.length_append, List.length_take, List.length_drop, pk_length, hps]; omega)]
end Go.Proofs.Ytfficdloekfpcaa
