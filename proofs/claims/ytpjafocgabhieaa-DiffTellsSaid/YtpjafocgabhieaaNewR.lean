/- The document's New of two grids: walked (for DiffTells). -/
import Derived.Test.YtpjafocgabhieaaMgN
import Derived.Test.YtpjafocgabhieaaSrcL2
import Derived.Test.YtpjafocgabhieaaDRnL
import Derived.OrdersHeld
import Derived.Deep.RegionHeld
namespace Go.Proofs.Ytpjafocgabhieaa
open Go.RowKit Go.Sort
theorem freshR_cases {la lb : List Cl} {i : Nat} {d : Cl} (hd : lb[i]? = some d) : freshR la lb i = (neqAt la lb i || (if d.x / 64 = 1 then neqAt la lb (i + 1) else if d.x / 64 = 2 then decide (1 ≤ i) && neqAt la lb (i - 1) else false)) := by
  unfold freshR
  rw [hd]
theorem take_map_succ {l : List Bool} {k : Nat} {b : Bool} (h : l[k]? = some b) : (l.take (k + 1)).map Value.bool = (l.take k).map Value.bool ++ [.bool b] := by
  have hk := (List.getElem?_eq_some_iff.1 h).1
  rw [List.take_succ_eq_append_getElem hk, List.map_append]
  rw [(List.getElem?_eq_some_iff.1 h).2]
  rfl
/-- What the region reads. -/
abbrev HeldN (H0 na ca cb : Nat) (aa ab : Addr) (k : Nat) (c d : Cl) (w : World) : Prop :=
  w.cell? ⟨H0, 2, none⟩ = some (.slice (some aa) na ca) ∧ w.cell? ⟨H0 + 1, 2, none⟩ = some (.slice (some ab) na cb) ∧ w.cell? (aa.add (k * 4)) = some (.int .i32 c.r) ∧ w.cell? ⟨(aa.add (k * 4)).block, (aa.add (k * 4)).off + 1, none⟩ = some (.int .u8 (c.f : Int)) ∧ w.cell? ⟨(aa.add (k * 4)).block, (aa.add (k * 4)).off + 2, none⟩ = some (.int .u8 (c.b : Int)) ∧ w.cell? ⟨(aa.add (k * 4)).block, (aa.add (k * 4)).off + 3, none⟩ = some (.int .u8 (c.x : Int)) ∧ w.cell? (ab.add (k * 4)) = some (.int .i32 d.r) ∧ w.cell? ⟨(ab.add (k * 4)).block, (ab.add (k * 4)).off + 1, none⟩ = some (.int .u8 (d.f : Int)) ∧ w.cell? ⟨(ab.add (k * 4)).block, (ab.add (k * 4)).off + 2, none⟩ = some (.int .u8 (d.b : Int)) ∧ w.cell? ⟨(ab.add (k * 4)).block, (ab.add (k * 4)).off + 3, none⟩ = some (.int .u8 (d.x : Int))
abbrev HeldK (H0 na ca cb : Nat) (aa ab : Addr) (k : Nat) (c d : Cl) (K : Nat) (c2 d2 : Cl) (w : World) : Prop :=
  w.cell? ⟨H0, 2, none⟩ = some (.slice (some aa) na ca) ∧ w.cell? ⟨H0 + 1, 2, none⟩ = some (.slice (some ab) na cb) ∧ w.cell? (aa.add (k * 4)) = some (.int .i32 c.r) ∧ w.cell? ⟨(aa.add (k * 4)).block, (aa.add (k * 4)).off + 1, none⟩ = some (.int .u8 (c.f : Int)) ∧ w.cell? ⟨(aa.add (k * 4)).block, (aa.add (k * 4)).off + 2, none⟩ = some (.int .u8 (c.b : Int)) ∧ w.cell? ⟨(aa.add (k * 4)).block, (aa.add (k * 4)).off + 3, none⟩ = some (.int .u8 (c.x : Int)) ∧ w.cell? (ab.add (k * 4)) = some (.int .i32 d.r) ∧ w.cell? ⟨(ab.add (k * 4)).block, (ab.add (k * 4)).off + 1, none⟩ = some (.int .u8 (d.f : Int)) ∧ w.cell? ⟨(ab.add (k * 4)).block, (ab.add (k * 4)).off + 2, none⟩ = some (.int .u8 (d.b : Int)) ∧ w.cell? ⟨(ab.add (k * 4)).block, (ab.add (k * 4)).off + 3, none⟩ = some (.int .u8 (d.x : Int)) ∧ w.cell? (aa.add (K * 4)) = some (.int .i32 c2.r) ∧ w.cell? ⟨(aa.add (K * 4)).block, (aa.add (K * 4)).off + 1, none⟩ = some (.int .u8 (c2.f : Int)) ∧ w.cell? ⟨(aa.add (K * 4)).block, (aa.add (K * 4)).off + 2, none⟩ = some (.int .u8 (c2.b : Int)) ∧ w.cell? ⟨(aa.add (K * 4)).block, (aa.add (K * 4)).off + 3, none⟩ = some (.int .u8 (c2.x : Int)) ∧ w.cell? (ab.add (K * 4)) = some (.int .i32 d2.r) ∧ w.cell? ⟨(ab.add (K * 4)).block, (ab.add (K * 4)).off + 1, none⟩ = some (.int .u8 (d2.f : Int)) ∧ w.cell? ⟨(ab.add (K * 4)).block, (ab.add (K * 4)).off + 2, none⟩ = some (.int .u8 (d2.b : Int)) ∧ w.cell? ⟨(ab.add (K * 4)).block, (ab.add (K * 4)).off + 3, none⟩ = some (.int .u8 (d2.x : Int))
theorem cell_grown {w w' : World} {row : Option Nat} (hg : w.grownBy w' row) {p : Addr} {v : Value} (h : w.cell? p = some v) {B : Nat} (hp : p.block < B) (hr : ∀ q, row = some q → B ≤ q) : w'.cell? p = some v := by
  rw [World.cell?_of_block (hg.block p.block (World.block_lt_of_cell? w p h) (fun e => by have := hr _ e.symm; omega))]
  exact h
theorem add_lt {ad : Addr} {k B : Nat} (h : ad.block < B) : (ad.add k).block < B := by rw [block_add]; exact h
theorem HeldN.grown {H0 na ca cb : Nat} {aa ab : Addr} {k : Nat} {c d : Cl} {w w' : World} {row : Option Nat} (h : HeldN H0 na ca cb aa ab k c d w) (hg : w.grownBy w' row) (hn : aa.block < H0 + 2 ∧ ab.block < H0 + 2 ∧ ∀ q, row = some q → H0 + 2 ≤ q) : HeldN H0 na ca cb aa ab k c d w' := by
  obtain ⟨g0, g1, x0, x1, x2, x3, y0, y1, y2, y3⟩ := h
  obtain ⟨ha, hb, hr⟩ := hn
  exact ⟨cell_grown hg g0 (B := H0 + 2) (by simp only; omega) hr, cell_grown hg g1 (B := H0 + 2) (by simp only; omega) hr, cell_grown hg x0 (add_lt ha) hr, cell_grown hg x1 (add_lt ha) hr, cell_grown hg x2 (add_lt ha) hr, cell_grown hg x3 (add_lt ha) hr, cell_grown hg y0 (add_lt hb) hr, cell_grown hg y1 (add_lt hb) hr, cell_grown hg y2 (add_lt hb) hr, cell_grown hg y3 (add_lt hb) hr⟩
theorem HeldK.grown {H0 na ca cb : Nat} {aa ab : Addr} {k : Nat} {c d : Cl} {K : Nat} {c2 d2 : Cl} {w w' : World} {row : Option Nat} (h : HeldK H0 na ca cb aa ab k c d K c2 d2 w) (hg : w.grownBy w' row) (hn : aa.block < H0 + 2 ∧ ab.block < H0 + 2 ∧ ∀ q, row = some q → H0 + 2 ≤ q) : HeldK H0 na ca cb aa ab k c d K c2 d2 w' := by
  obtain ⟨g0, g1, x0, x1, x2, x3, y0, y1, y2, y3, u0, u1, u2, u3, v0, v1, v2, v3⟩ := h
  obtain ⟨ha, hb, hr⟩ := hn
  exact ⟨cell_grown hg g0 (B := H0 + 2) (by simp only; omega) hr, cell_grown hg g1 (B := H0 + 2) (by simp only; omega) hr, cell_grown hg x0 (add_lt ha) hr, cell_grown hg x1 (add_lt ha) hr, cell_grown hg x2 (add_lt ha) hr, cell_grown hg x3 (add_lt ha) hr, cell_grown hg y0 (add_lt hb) hr, cell_grown hg y1 (add_lt hb) hr, cell_grown hg y2 (add_lt hb) hr, cell_grown hg y3 (add_lt hb) hr, cell_grown hg u0 (add_lt ha) hr, cell_grown hg u1 (add_lt ha) hr, cell_grown hg u2 (add_lt ha) hr, cell_grown hg u3 (add_lt ha) hr, cell_grown hg v0 (add_lt hb) hr, cell_grown hg v1 (add_lt hb) hr, cell_grown hg v2 (add_lt hb) hr, cell_grown hg v3 (add_lt hb) hr⟩
theorem own_later1 {w w' : World} {base n : Nat} {e : TypeId} {v : Value} {xs : List Value} (h : w.ownsRow base e 1 v n xs) (hb : Below w.heap.size w w') : w'.ownsRow base e 1 v n xs := h.kept (grown_none' hb) (by
  cases hv : v.ownBlock with
  | none => exact .inl rfl
  | some g => exact .inr (by simp))
/-- What a place's mark hangs on. -/
theorem new_parts {la lb : List Cl} {wn hn k : Nat} {d : Cl} (hw : 1 ≤ wn) (hlb : lb.length = wn * hn) (hrb : ∀ y, y < hn → rightP (rowAt lb wn y) = true) (hd : lb[k]? = some d) :
    (neqAt la lb k = true ∧ freshR la lb k = true) ∨ (neqAt la lb k = false ∧ pairI d k = -1 ∧ freshR la lb k = false) ∨ (neqAt la lb k = false ∧ ∃ K : Nat, pairI d k = (K : Int) ∧ K < lb.length ∧ freshR la lb k = neqAt la lb K) := by
  have hk := (List.getElem?_eq_some_iff.1 hd).1
  rw [freshR_cases hd]
  cases hq : neqAt la lb k with
  | true => exact .inl ⟨rfl, rfl⟩
  | false =>
    refine .inr ?_
    rw [Bool.false_or]
    have h1 := Nat.div_add_mod k wn
    have h2 := Nat.mod_lt k (show 0 < wn by omega)
    have h3 : k / wn < hn := by
      rw [Nat.div_lt_iff_lt_mul (by omega), Nat.mul_comm hn wn, ← hlb]
      exact hk
    have h4 : k / wn * wn + k % wn = k := by rw [Nat.mul_comm]; exact h1
    obtain ⟨n1, n2⟩ := row_next (hrb _ h3) h2 (by rw [h4]; exact hd)
    rw [h4] at n1
    by_cases e1 : d.x / 64 = 1
    · refine .inr ⟨rfl, k + 1, ?_, (n1 e1).2, by rw [if_pos e1]⟩
      unfold pairI
      rw [if_pos e1]
      rfl
    · by_cases e2 : d.x / 64 = 2
      · have h5 : 1 ≤ k := by
          have := n2 e2
          have := Nat.mod_le k wn
          omega
        refine .inr ⟨rfl, k - 1, ?_, by omega, by rw [if_neg e1, if_pos e2, decide_eq_true h5]; simp⟩
        unfold pairI
        rw [if_neg e1, if_pos e2]
        omega
      · refine .inl ⟨rfl, ?_, by rw [if_neg e1, if_neg e2]⟩
        unfold pairI
        rw [if_neg e1, if_neg e2]
/-- What New's loop keeps. -/
structure NwR (w wr : World) (wn hn n ca cb : Nat) (aa ab : Addr) : Prop where
  a : Blk wr w.heap.size 32 #[.int .i64 (wn : Int), .int .i64 (hn : Int), .slice (some aa) n ca]
  b : Blk wr (w.heap.size + 1) 32 #[.int .i64 (wn : Int), .int .i64 (hn : Int), .slice (some ab) n cb]
  below : Below w.heap.size w wr
  size : w.heap.size + 2 ≤ wr.heap.size
set_option maxRecDepth 100000 in
set_option maxHeartbeats 8000000 in
theorem newR_gen (xa ya xb yb : Int) (A B : Option Addr) (na ca nb cb : Nat) (la lb : List Cl) (w : World) (hA : RowS w A na ca la) (hB : RowS w B nb cb lb) :
    Calls Try.prog 50 #[grv xa ya A na ca, grv xb yb B nb cb] w fun e w' => ∃ v, e = .returned v ∧ (alikeP xa ya xb yb la lb = false → v = .slice none 0 0) ∧ (alikeP xa ya xb yb la lb = true → w'.ownsRow (w.heap.size + 2) 4 1 v nb ((newP la lb).map Value.bool)) ∧ Below w.heap.size w w' := by
  have HA := Lib.hid hA
  have HB := Lib.hid hB
  have hNa := (Blk.new w 32 #[.int .i64 xa, .int .i64 ya, .slice A na ca]).alloc (.cells #[.int .i64 xb, .int .i64 yb, .slice B nb cb] 32)
  have hNb := Blk.new (w.alloc (.cells #[.int .i64 xa, .int .i64 ya, .slice A na ca] 32)) 32 #[.int .i64 xb, .int .i64 yb, .slice B nb cb]
  rw [World.size_alloc] at hNb
  have hb0 := ((Below.refl w.heap.size w).alloc (Nat.le_refl _) (.cells #[.int .i64 xa, .int .i64 ya, .slice A na ca] 32)).alloc (by simp) (.cells #[.int .i64 xb, .int .i64 yb, .slice B nb cb] 32)
  obtain ⟨W0, hW0⟩ : ∃ W0, (w.alloc (.cells #[.int .i64 xa, .int .i64 ya, .slice A na ca] 32)).alloc (.cells #[.int .i64 xb, .int .i64 yb, .slice B nb cb] 32) = W0 := ⟨_, rfl⟩
  have hs0 : W0.heap.size = w.heap.size + 2 := by rw [← hW0]; simp
  rw [hW0] at hNa hNb hb0
  have hca := checkRG_gen xa ya A na ca la W0 (HA.out.below hb0)
  have ka0 : W0.cell? ⟨w.heap.size, 0, none⟩ = some (.int .i64 xa) := hNa.cell 0
  have ka1 : W0.cell? ⟨w.heap.size, 1, none⟩ = some (.int .i64 ya) := hNa.cell 1
  have ka2 : W0.cell? ⟨w.heap.size, 2, none⟩ = some (.slice A na ca) := hNa.cell 2
  clear hA hB
  go_enter Try.func50, Try.ntmps50
  go_wp2_with fail
  refine hca.mono ?_
  rintro e w1 ⟨rfl, hb1⟩
  have hNa1 := hNa.below hb1 hNa.lt
  have hNb1 := hNb.below hb1 hNb.lt
  have hb2 := hb0.trans (hb1.mono hb0.size)
  have hcb := checkRG_gen xb yb B nb cb lb w1 (HB.out.below hb2)
  have hs1 : w.heap.size + 2 ≤ w1.heap.size := by rw [← hs0]; exact hb1.size
  have kb0 : w1.cell? ⟨w.heap.size + 1, 0, none⟩ = some (.int .i64 xb) := hNb1.cell 0
  have kb1 : w1.cell? ⟨w.heap.size + 1, 1, none⟩ = some (.int .i64 yb) := hNb1.cell 1
  have kb2 : w1.cell? ⟨w.heap.size + 1, 2, none⟩ = some (.slice B nb cb) := hNb1.cell 2
  clear hW0 hca ka0 ka1 ka2 hNa hNb hb0 hb1 hs0
  go_wp2_with fail
  refine hcb.mono ?_
  rintro e w2 ⟨rfl, hb3⟩
  have hNa2 := hNa1.below hb3 hNa1.lt
  have hNb2 := hNb1.below hb3 hNb1.lt
  have hb4 := hb2.trans (hb3.mono hb2.size)
  have hs2 := Nat.le_trans hs1 hb3.size
  have ja0 : w2.cell? ⟨w.heap.size, 0, none⟩ = some (.int .i64 xa) := hNa2.cell 0
  have ja1 : w2.cell? ⟨w.heap.size, 1, none⟩ = some (.int .i64 ya) := hNa2.cell 1
  have jb0 : w2.cell? ⟨w.heap.size + 1, 0, none⟩ = some (.int .i64 xb) := hNb2.cell 0
  have jb1 : w2.cell? ⟨w.heap.size + 1, 1, none⟩ = some (.int .i64 yb) := hNb2.cell 1
  clear hcb kb0 kb1 kb2 hNa1 hNb1 hb2 hb3 hs1
  have HP := Lib.hid (show alikeP xa ya xb yb la lb = (gridP xa ya la && gridP xb yb lb && decide (xa = xb) && decide (ya = yb)) from rfl)
  cases hga : gridP xa ya la with
  | false =>
    have HF := Lib.hid (show alikeP xa ya xb yb la lb = false by rw [HP.out, hga]; rfl)
    clear hga HP
    generalize gridP xb yb lb = gb
    cases gb <;>
    · go_wp2_with fail
      go_ret
      exact ⟨_, rfl, fun _ => rfl, (fun h => by rw [HF.out] at h; cases h), hb4⟩
  | true =>
    cases hgb : gridP xb yb lb with
    | false =>
      have HF := Lib.hid (show alikeP xa ya xb yb la lb = false by rw [HP.out, hga, hgb]; rfl)
      clear hga hgb HP
      go_wp2_with fail
      go_ret
      exact ⟨_, rfl, fun _ => rfl, (fun h => by rw [HF.out] at h; cases h), hb4⟩
    | true =>
      by_cases h1 : xa = xb
      · by_cases h2 : ya = yb
        · have HF := Lib.hid (show alikeP xa ya xb yb la lb = true by rw [HP.out, hga, hgb]; simp [h1, h2])
          subst h1 h2
          obtain ⟨wn, hn, rfl, rfl, hw1, hw2, hh1, hh2, hlb, hrb⟩ := gridP_parts hgb
          obtain ⟨wn', hn', e1, e2, _, _, _, _, hla, _⟩ := gridP_parts hga
          obtain rfl : wn = wn' := by omega
          obtain rfl : hn = hn' := by omega
          have hnaE := HA.out.len
          have hnbE := HB.out.len
          obtain rfl : na = nb := by rw [← hnaE, ← hnbE, hla, hlb]
          have HNW := Lib.hid (show na = wn * hn from hnaE.symm.trans hla)
          have hn1 : 1 ≤ na := by
            have h4 := Nat.mul_le_mul hw1 hh1
            rw [HNW.out]
            exact h4
          obtain ⟨aa, rfl⟩ := HA.out.some_ad hn1
          obtain ⟨ab, rfl⟩ := HB.out.some_ad hn1
          have hCa : Cels w aa la := by
            obtain ⟨ad', he, hC⟩ := HA.out.row (by rw [hnaE]; omega)
            injection he with he
            subst he
            exact hC
          have hCb : Cels w ab lb := by
            obtain ⟨ad', he, hC⟩ := HB.out.row (by rw [hnbE]; omega)
            injection he with he
            subst he
            exact hC
          have hn12 : na ≤ 12000 := by
            have h2 : wn * hn ≤ 200 * 60 := Nat.mul_le_mul hw2 hh2
            rw [HNW.out]
            exact h2
          have hlta : aa.block < w.heap.size := by
            obtain ⟨c, hc⟩ : ∃ c, la[0]? = some c := ⟨_, List.getElem?_eq_getElem (by omega)⟩
            have := World.block_lt_of_cell? w _ (hCa 0 c hc).1.c0
            rw [block_add] at this
            exact this
          have hltb : ab.block < w.heap.size := by
            obtain ⟨c, hc⟩ : ∃ c, lb[0]? = some c := ⟨_, List.getElem?_eq_getElem (by omega)⟩
            have := World.block_lt_of_cell? w _ (hCb 0 c hc).1.c0
            rw [block_add] at this
            exact this
          obtain ⟨j0, hj, hy0, hy1, hy2⟩ := info_parts (show (Try.prog.info? 4).map (fun i => (i.zero, i.size, i.bytes)) = some (some (.bool false), 1, 1) from by kernel_rfl)
          have HLB := Lib.hid hlb
          have HRB := Lib.hid hrb
          have hM : NwR w w2 wn hn na ca cb aa ab := ⟨hNa2, hNb2, hb4, hs2⟩
          have jb2 : w2.cell? ⟨w.heap.size + 1, 2, none⟩ = some (.slice (some ab) na cb) := hNb2.cell 2
          clear hga hgb HP e1 e2 hla hlb hrb hNa2 hNb2 hb4 hs2
          go_wp2_with fail
          go_loopw [7, 8] (fun s7 s8 wr => ∃ k : Nat, k ≤ na ∧ s8 = .int .i64 (k : Nat) ∧ wr.ownsRow (w.heap.size + 2) 4 1 s7 k (((newP la lb).take k).map Value.bool) ∧ NwR w wr wn hn na ca cb aa ab) (fun _ s8 _ => na - (intOf s8).toNat)
          case atStart => exact ⟨0, by omega, rfl, World.ownsRow_nil _ _ _ _, hM⟩
          case round =>
            clear hM ja0 ja1 jb0 jb1 jb2
            obtain ⟨k, hk, rfl, hown, hMr⟩ := hrel
            obtain ⟨A7, c7, rfl⟩ := own_form hown
            have jb2 : wr.cell? ⟨w.heap.size + 1, 2, none⟩ = some (.slice (some ab) na cb) := hMr.b.cell 2
            by_cases hlt : k < na
            · have d1 : decide ((k : Int) < (na : Int)) = true := decide_eq_true (by omega)
              have d2 : decide (k < na) = true := decide_eq_true hlt
              have d3 : (k : Int) < (na : Int) := by omega
              obtain ⟨c, hc⟩ : ∃ c, la[k]? = some c := ⟨_, List.getElem?_eq_getElem (by rw [hnaE]; exact hlt)⟩
              obtain ⟨d, hd⟩ : ∃ d, lb[k]? = some d := ⟨_, List.getElem?_eq_getElem (by rw [hnbE]; exact hlt)⟩
              have jb0 : wr.cell? ⟨w.heap.size + 1, 0, none⟩ = some (.int .i64 (wn : Int)) := hMr.b.cell 0
              have jb1 : wr.cell? ⟨w.heap.size + 1, 1, none⟩ = some (.int .i64 (hn : Int)) := hMr.b.cell 1
              have hpair := pair16_gen wn hn ab na cb k lb wr hnbE hn12 (hCb.below hMr.below) d hd
              go_wp2_with fail
              refine hpair.mono ?_
              rintro e w5 ⟨rfl, hb5⟩
              have ha5 := hMr.a.below hb5 hMr.a.lt
              have hb5' := hMr.b.below hb5 hMr.b.lt
              have hbw5 := hMr.below.trans (hb5.mono hMr.below.size)
              have hs5 := Nat.le_trans hMr.size hb5.size
              have hown5 := hown.kept (grown_none' hb5) (by
                cases hv : (Value.slice A7 k c7).ownBlock with
                | none => exact .inl rfl
                | some g => exact .inr (by simp))
              have hCa5 := hCa.below hbw5
              have hCb5 := hCb.below hbw5
              clear hpair hMr hown hb5 jb0 jb1 jb2
              go_wp2_with fail
              go_upto_region 10 with fail
              have xk := (hCa5 k c hc).1
              have yk := (hCb5 k d hd).1
              have hqe := fun W => neq_cell d c W
              have HK1 := Lib.hid (show k + 1 ≤ maxLen by unfold maxLen; omega)
              have HK2 := Lib.hid (show (k + 1) * 1 ≤ 140737488355328 by omega)
              have HNE := Lib.hid (show aa.block < w.heap.size + 2 ∧ ab.block < w.heap.size + 2 ∧ ∀ q, (Value.slice A7 k c7).ownBlock = some q → w.heap.size + 2 ≤ q from ⟨by omega, by omega, fun q hq => (hown5.lt q hq).1⟩)
              rcases new_parts (la := la) hw1 HLB.out HRB.out hd with ⟨hnq, hfr⟩ | ⟨hnq, hp, hfr⟩ | ⟨hnq, K, hp, hK, hfr⟩
              · have HTK := Lib.hid (take_map_succ (newP_at (la := la) (show k < lb.length by rw [hnbE]; exact hlt)))
                rw [hfr] at HTK
                rw [← neq_eq hc hd, hnq] at hqe
                clear hnq hfr hd hc
                have hbn : Below w5.heap.size w5 (w5.alloc (.cells #[.bool true] 4)).drew := ((Below.refl w5.heap.size w5).alloc (Nat.le_refl _) (.cells #[.bool true] 4)).drew
                have hS0 : HeldN w.heap.size na ca cb aa ab k c d w5 := ⟨ha5.cell 2, hb5'.cell 2, xk.c0, xk.c1, xk.c2, xk.c3, yk.c0, yk.c1, yk.c2, yk.c3⟩
                have hS : HeldN w.heap.size na ca cb aa ab k c d w5.drew := hS0
                have hS1 : HeldN w.heap.size na ca cb aa ab k c d (w5.alloc (.cells #[.bool true] 4)).drew := HeldN.grown (row := none) hS0 (grown_none' hbn) ⟨by omega, by omega, fun q e => by cases e⟩
                refine wp_region_held_drew (S := fun w' => w'.cell? ⟨w.heap.size, 2, none⟩ = some (.slice (some aa) na ca) ∧ w'.cell? ⟨w.heap.size + 1, 2, none⟩ = some (.slice (some ab) na cb) ∧ w'.cell? (aa.add (k * 4)) = some (.int .i32 c.r) ∧ w'.cell? ⟨(aa.add (k * 4)).block, (aa.add (k * 4)).off + 1, none⟩ = some (.int .u8 (c.f : Int)) ∧ w'.cell? ⟨(aa.add (k * 4)).block, (aa.add (k * 4)).off + 2, none⟩ = some (.int .u8 (c.b : Int)) ∧ w'.cell? ⟨(aa.add (k * 4)).block, (aa.add (k * 4)).off + 3, none⟩ = some (.int .u8 (c.x : Int)) ∧ w'.cell? (ab.add (k * 4)) = some (.int .i32 d.r) ∧ w'.cell? ⟨(ab.add (k * 4)).block, (ab.add (k * 4)).off + 1, none⟩ = some (.int .u8 (d.f : Int)) ∧ w'.cell? ⟨(ab.add (k * 4)).block, (ab.add (k * 4)).off + 2, none⟩ = some (.int .u8 (d.b : Int)) ∧ w'.cell? ⟨(ab.add (k * 4)).block, (ab.add (k * 4)).off + 3, none⟩ = some (.int .u8 (d.x : Int))) (by kernel_rfl) hS (fun hHeld => ?_)
                refine wpAnyH_take (i := 0) (v := ?av1) rfl (by kernel_rfl) (by kernel_rfl) (by kernel_rfl) (fun _ _ _ h => h) (Or.inl ⟨by rfl, ?ahy1⟩) (by assumption) ?arest1
                case ahy1 => (intro w hSw; (try dsimp only at hSw); go_simp; try with_reducible rfl)
                try simp only [Act.put, List.getElem_toArray, List.getElem_cons_zero, List.setIfInBounds_toArray, List.set_cons_zero, List.set_cons_succ]
                refine wpAnyH_take (i := 1) (v := ?av2) rfl (by kernel_rfl) (by kernel_rfl) (by kernel_rfl) (fun _ _ _ h => h) (Or.inl ⟨by rfl, ?ahy2⟩) (by assumption) ?arest2
                case ahy2 => (intro w hSw; (try dsimp only at hSw); go_simp; try with_reducible rfl)
                try simp only [Act.put, List.getElem_toArray, List.getElem_cons_succ, List.getElem_cons_zero, List.setIfInBounds_toArray, List.set_cons_zero, List.set_cons_succ]
                refine wpAnyH_take (i := 2) (v := ?av3) rfl (by kernel_rfl) (by kernel_rfl) (by kernel_rfl) (fun _ _ _ h => h) (Or.inl ⟨by rfl, ?ahy3⟩) (by assumption) ?arest3
                case ahy3 => (intro w hSw; (try dsimp only at hSw); go_simp; try with_reducible rfl)
                try simp only [Act.put, List.getElem_toArray, List.getElem_cons_succ, List.getElem_cons_zero, List.setIfInBounds_toArray, List.set_cons_zero, List.set_cons_succ]
                refine wpAnyH_take (i := 3) (v := ?av4) rfl (by kernel_rfl) (by kernel_rfl) (by kernel_rfl) (fun _ _ _ h => h) (Or.inl ⟨by rfl, ?ahy4⟩) (by assumption) ?arest4
                case ahy4 => (intro w hSw; (try dsimp only at hSw); go_simp; try with_reducible rfl)
                try simp only [Act.put, List.getElem_toArray, List.getElem_cons_succ, List.getElem_cons_zero, List.setIfInBounds_toArray, List.set_cons_zero, List.set_cons_succ]
                refine wpAnyH_take (i := 4) (v := ?av5) rfl (by kernel_rfl) (by kernel_rfl) (by kernel_rfl) (fun _ _ _ h => h) (Or.inl ⟨by rfl, ?ahy5⟩) (by assumption) ?arest5
                case ahy5 => (intro w hSw; (try dsimp only at hSw); go_simp; try with_reducible rfl)
                try simp only [Act.put, List.getElem_toArray, List.getElem_cons_succ, List.getElem_cons_zero, List.setIfInBounds_toArray, List.set_cons_zero, List.set_cons_succ]
                refine wpAnyH_take (i := 5) (v := ?av6) rfl (by kernel_rfl) (by kernel_rfl) (by kernel_rfl) (fun _ _ _ h => h) (Or.inl ⟨by rfl, ?ahy6⟩) (by assumption) ?arest6
                case ahy6 => (intro w hSw; (try dsimp only at hSw); go_simp; try with_reducible rfl)
                try simp only [Act.put, List.getElem_toArray, List.getElem_cons_succ, List.getElem_cons_zero, List.setIfInBounds_toArray, List.set_cons_zero, List.set_cons_succ]
                refine wpAnyH_take (i := 6) (v := ?av7) rfl (by kernel_rfl) (by kernel_rfl) (by kernel_rfl) (fun _ _ _ h => h) (Or.inl ⟨by rfl, ?ahy7⟩) (by assumption) ?arest7
                case ahy7 => (intro w hSw; (try dsimp only at hSw); go_simp; try with_reducible rfl)
                try simp only [Act.put, List.getElem_toArray, List.getElem_cons_succ, List.getElem_cons_zero, List.setIfInBounds_toArray, List.set_cons_zero, List.set_cons_succ]
                refine wpAnyH_take (i := 7) (v := ?av8) rfl (by kernel_rfl) (by kernel_rfl) (by kernel_rfl) (fun _ _ _ h => h) (Or.inl ⟨by rfl, ?ahy8⟩) (by assumption) ?arest8
                case ahy8 => (intro w hSw; (try dsimp only at hSw); go_simp; try with_reducible rfl)
                try simp only [Act.put, List.getElem_toArray, List.getElem_cons_succ, List.getElem_cons_zero, List.setIfInBounds_toArray, List.set_cons_zero, List.set_cons_succ]
                refine wpAnyH_take (i := 8) (v := ?av9) rfl (by kernel_rfl) (by kernel_rfl) (by kernel_rfl) (fun _ _ _ h => h) (Or.inl ⟨by rfl, ?ahy9⟩) (by assumption) ?arest9
                case ahy9 => (intro w hSw; (try dsimp only at hSw); go_simp; try with_reducible rfl)
                try simp only [Act.put, List.getElem_toArray, List.getElem_cons_succ, List.getElem_cons_zero, List.setIfInBounds_toArray, List.set_cons_zero, List.set_cons_succ]
                refine wpAnyH_take (i := 9) (v := ?av10) rfl (by kernel_rfl) (by kernel_rfl) (by kernel_rfl) (fun _ _ _ h => h) (Or.inl ⟨by rfl, ?ahy10⟩) (by assumption) ?arest10
                case ahy10 => (intro w hSw; (try dsimp only at hSw); go_simp; try with_reducible rfl)
                try simp only [Act.put, List.getElem_toArray, List.getElem_cons_succ, List.getElem_cons_zero, List.setIfInBounds_toArray, List.set_cons_zero, List.set_cons_succ]
                refine wpAnyH_take (i := 10) (v := ?av11) rfl (by kernel_rfl) (by kernel_rfl) (by kernel_rfl) (fun _ _ _ h => h) (Or.inl ⟨by rfl, ?ahy11⟩) (by assumption) ?arest11
                case ahy11 => (intro w hSw; (try dsimp only at hSw); go_simp; try with_reducible rfl)
                try simp only [Act.put, List.getElem_toArray, List.getElem_cons_succ, List.getElem_cons_zero, List.setIfInBounds_toArray, List.set_cons_zero, List.set_cons_succ]
                refine wpAnyH_take (i := 11) (v := ?av12) rfl (by kernel_rfl) (by kernel_rfl) (by kernel_rfl) (fun _ _ _ h => h) (Or.inl ⟨by rfl, ?ahy12⟩) (by assumption) ?arest12
                case ahy12 => (intro w hSw; (try dsimp only at hSw); go_simp; try with_reducible rfl)
                try simp only [Act.put, List.getElem_toArray, List.getElem_cons_succ, List.getElem_cons_zero, List.setIfInBounds_toArray, List.set_cons_zero, List.set_cons_succ]
                refine wpAnyH_take (i := 12) (v := ?av13) rfl (by kernel_rfl) (by kernel_rfl) (by kernel_rfl) (fun _ _ _ h => h) (Or.inl ⟨by rfl, ?ahy13⟩) (by assumption) ?arest13
                case ahy13 => (intro w hSw; (try dsimp only at hSw); go_simp; try with_reducible rfl)
                try simp only [Act.put, List.getElem_toArray, List.getElem_cons_succ, List.getElem_cons_zero, List.setIfInBounds_toArray, List.set_cons_zero, List.set_cons_succ]
                refine wpAnyH_take (i := 13) (v := undef) rfl (by kernel_rfl) (by kernel_rfl) (by kernel_rfl) (fun _ _ _ h => h) (Or.inr ⟨by rfl, rfl⟩) (by assumption) ?_
                try simp only [Act.put, List.getElem_toArray, List.getElem_cons_succ, List.getElem_cons_zero, List.setIfInBounds_toArray, List.set_cons_zero, List.set_cons_succ]
                refine wpAnyH_take (i := 14) (v := undef) rfl (by kernel_rfl) (by kernel_rfl) (by kernel_rfl) (fun _ _ _ h => h) (Or.inr ⟨by rfl, rfl⟩) (by assumption) ?_
                try simp only [Act.put, List.getElem_toArray, List.getElem_cons_succ, List.getElem_cons_zero, List.setIfInBounds_toArray, List.set_cons_zero, List.set_cons_succ]
                refine wpAnyH_take (i := 15) (v := undef) rfl (by kernel_rfl) (by kernel_rfl) (by kernel_rfl) (fun _ _ _ h => h) (Or.inr ⟨by rfl, rfl⟩) (by assumption) ?_
                try simp only [Act.put, List.getElem_toArray, List.getElem_cons_succ, List.getElem_cons_zero, List.setIfInBounds_toArray, List.set_cons_zero, List.set_cons_succ]
                refine wpAnyH_take (i := 16) (v := undef) rfl (by kernel_rfl) (by kernel_rfl) (by kernel_rfl) (fun _ _ _ h => h) (Or.inr ⟨by rfl, rfl⟩) (by assumption) ?_
                try simp only [Act.put, List.getElem_toArray, List.getElem_cons_succ, List.getElem_cons_zero, List.setIfInBounds_toArray, List.set_cons_zero, List.set_cons_succ]
                refine wpAnyH_take (i := 17) (v := undef) rfl (by kernel_rfl) (by kernel_rfl) (by kernel_rfl) (fun _ _ _ h => h) (Or.inr ⟨by rfl, rfl⟩) (by assumption) ?_
                try simp only [Act.put, List.getElem_toArray, List.getElem_cons_succ, List.getElem_cons_zero, List.setIfInBounds_toArray, List.set_cons_zero, List.set_cons_succ]
                refine wpAnyH_take (i := 18) (v := undef) rfl (by kernel_rfl) (by kernel_rfl) (by kernel_rfl) (fun _ _ _ h => h) (Or.inr ⟨by rfl, rfl⟩) (by assumption) ?_
                try simp only [Act.put, List.getElem_toArray, List.getElem_cons_succ, List.getElem_cons_zero, List.setIfInBounds_toArray, List.set_cons_zero, List.set_cons_succ]
                refine wpAnyH_take (i := 19) (v := undef) rfl (by kernel_rfl) (by kernel_rfl) (by kernel_rfl) (fun _ _ _ h => h) (Or.inr ⟨by rfl, rfl⟩) (by assumption) ?_
                try simp only [Act.put, List.getElem_toArray, List.getElem_cons_succ, List.getElem_cons_zero, List.setIfInBounds_toArray, List.set_cons_zero, List.set_cons_succ]
                refine wpAnyH_take (i := 20) (v := undef) rfl (by kernel_rfl) (by kernel_rfl) (by kernel_rfl) (fun _ _ _ h => h) (Or.inr ⟨by rfl, rfl⟩) (by assumption) ?_
                try simp only [Act.put, List.getElem_toArray, List.getElem_cons_succ, List.getElem_cons_zero, List.setIfInBounds_toArray, List.set_cons_zero, List.set_cons_succ]
                refine wpAnyH_take (i := 21) (v := undef) rfl (by kernel_rfl) (by kernel_rfl) (by kernel_rfl) (fun _ _ _ h => h) (Or.inr ⟨by rfl, rfl⟩) (by assumption) ?_
                try simp only [Act.put, List.getElem_toArray, List.getElem_cons_succ, List.getElem_cons_zero, List.setIfInBounds_toArray, List.set_cons_zero, List.set_cons_succ]
                refine wpAnyH_take (i := 22) (v := undef) rfl (by kernel_rfl) (by kernel_rfl) (by kernel_rfl) (fun _ _ _ h => h) (Or.inr ⟨by rfl, rfl⟩) (by assumption) ?_
                try simp only [Act.put, List.getElem_toArray, List.getElem_cons_succ, List.getElem_cons_zero, List.setIfInBounds_toArray, List.set_cons_zero, List.set_cons_succ]
                refine wpAnyH_take (i := 23) (v := undef) rfl (by kernel_rfl) (by kernel_rfl) (by kernel_rfl) (fun _ _ _ h => h) (Or.inr ⟨by rfl, rfl⟩) (by assumption) ?_
                try simp only [Act.put, List.getElem_toArray, List.getElem_cons_succ, List.getElem_cons_zero, List.setIfInBounds_toArray, List.set_cons_zero, List.set_cons_succ]
                refine wpAnyH_take (i := 24) (v := undef) rfl (by kernel_rfl) (by kernel_rfl) (by kernel_rfl) (fun _ _ _ h => h) (Or.inr ⟨by rfl, rfl⟩) (by assumption) ?_
                try simp only [Act.put, List.getElem_toArray, List.getElem_cons_succ, List.getElem_cons_zero, List.setIfInBounds_toArray, List.set_cons_zero, List.set_cons_succ]
                refine wpAnyH_take (i := 25) (v := undef) rfl (by kernel_rfl) (by kernel_rfl) (by kernel_rfl) (fun _ _ _ h => h) (Or.inr ⟨by rfl, rfl⟩) (by assumption) ?_
                try simp only [Act.put, List.getElem_toArray, List.getElem_cons_succ, List.getElem_cons_zero, List.setIfInBounds_toArray, List.set_cons_zero, List.set_cons_succ]
                refine wpAnyH_take (i := 26) (v := undef) rfl (by kernel_rfl) (by kernel_rfl) (by kernel_rfl) (fun _ _ _ h => h) (Or.inr ⟨by rfl, rfl⟩) (by assumption) ?_
                try simp only [Act.put, List.getElem_toArray, List.getElem_cons_succ, List.getElem_cons_zero, List.setIfInBounds_toArray, List.set_cons_zero, List.set_cons_succ]
                refine wpAnyH_take (i := 27) (v := undef) rfl (by kernel_rfl) (by kernel_rfl) (by kernel_rfl) (fun _ _ _ h => h) (Or.inr ⟨by rfl, rfl⟩) (by assumption) ?_
                try simp only [Act.put, List.getElem_toArray, List.getElem_cons_succ, List.getElem_cons_zero, List.setIfInBounds_toArray, List.set_cons_zero, List.set_cons_succ]
                refine wpAnyH_take (i := 28) (v := ?av14) rfl (by kernel_rfl) (by kernel_rfl) (by kernel_rfl) (fun _ _ _ h => h) (Or.inl ⟨by rfl, ?ahy14⟩) (by assumption) ?arest14
                case ahy14 => (intro w hSw; (try dsimp only at hSw); go_simp; try with_reducible rfl)
                try simp only [Act.put, List.getElem_toArray, List.getElem_cons_succ, List.getElem_cons_zero, List.setIfInBounds_toArray, List.set_cons_zero, List.set_cons_succ]
                refine wpAnyH_ready (rs := [29]) (by kernel_rfl) (by simp) ?_
                refine AllReadyH.cons rfl (fun K hK => ?_) AllReadyH.nil
                · go_simp
                  refine hK.out _ _ ?_ (fun hHeld => ?_)
                  · first | exact hS | exact hS1 | exact hS2
                  clear hK K
                  try simp only [Act.put, List.getElem_toArray, List.getElem_cons_succ, List.getElem_cons_zero, List.setIfInBounds_toArray, List.set_cons_zero, List.set_cons_succ]
                  refine wpAnyH_ready (rs := [30]) (by kernel_rfl) (by simp) ?_
                  refine AllReadyH.cons rfl (fun K hK => ?_) AllReadyH.nil
                  · have hsr : Src (w5.alloc (.cells #[.bool true] 4)).drew (some ⟨w5.heap.size, 0, none⟩) [.bool true] := fun _ => ⟨_, rfl, fun j u hj => cell_one_new w5 _ _ j u hj⟩
                    refine step_append_src rfl (.tmp 44) (.tmp 73) 68 rfl (w.heap.size + 2) 4 j0 (.bool false) 1 1 Try.underlying68 hj hy0 hy1 hy2 rfl (by decide) (.slice A7 k c7) k (((newP la lb).take k).map Value.bool) (by rfl) (own_later1 hown5 hbn) (some ⟨w5.heap.size, 0, none⟩) 1 1 [.bool true] (by rfl) rfl hsr (fun h => by cases h) (fun u hu => by simp at hu; subst hu; rfl) HK1.out HK2.out (Nat.le_trans hs5 hbn.size) ?_
                    intro v7 w7 ho7 hg7
                    have hS2 := HeldN.grown hS1 hg7 HNE.out
                    refine hK.out _ _ ?_ (fun hHeld => ?_)
                    · first | exact hS | exact hS1 | exact hS2
                    clear hK K
                    try simp only [Act.put, List.getElem_toArray, List.getElem_cons_succ, List.getElem_cons_zero, List.setIfInBounds_toArray, List.set_cons_zero, List.set_cons_succ]
                    refine wpAnyH_take (i := 31) (v := ?av15) rfl (by kernel_rfl) (by kernel_rfl) (by kernel_rfl) (fun _ _ _ h => h) (Or.inl ⟨by rfl, ?ahy15⟩) (by assumption) ?arest15
                    case ahy15 => (intro w hSw; (try dsimp only at hSw); go_simp; try with_reducible rfl)
                    try simp only [Act.put, List.getElem_toArray, List.getElem_cons_succ, List.getElem_cons_zero, List.setIfInBounds_toArray, List.set_cons_zero, List.set_cons_succ]
                    refine wpAnyH_done (by kernel_rfl) ?_ _
                    have ha7 := (ha5.below hbn ha5.lt).grown hg7 (fun e => by have := HNE.out.2.2 _ e.symm; omega)
                    have hb7 := (hb5'.below hbn hb5'.lt).grown hg7 (fun e => by have := HNE.out.2.2 _ e.symm; omega)
                    have hbw7 : Below w.heap.size w w7 := (hbw5.trans (hbn.mono hbw5.size)).grown hg7 (Nat.le_trans hbw5.size hbn.size) (fun q hq => Nat.le_trans (Nat.le_add_right _ 2) (HNE.out.2.2 q hq))
                    have hN7 : NwR w w7 wn hn na ca cb aa ab := ⟨ha7, hb7, hbw7, Nat.le_trans hs5 (Nat.le_trans hbn.size hg7.size)⟩
                    rw [← HTK.out] at ho7
                    clear hS0 hS hS1 hS2 hsr hg7 ha7 hb7 hbw7
                    go_wp2_with fail
                    go_roundw
                    case rel => exact ⟨k + 1, hlt, by go_num, ho7, hN7⟩
                    case measure => simp [intOf]; omega
              · have HTK := Lib.hid (take_map_succ (newP_at (la := la) (show k < lb.length by rw [hnbE]; exact hlt)))
                rw [hfr] at HTK
                rw [← neq_eq hc hd, hnq] at hqe
                rw [hp]
                clear hnq hfr hd hc hp
                have hbn : Below w5.heap.size w5 (w5.alloc (.cells #[.bool false] 4)).drew := ((Below.refl w5.heap.size w5).alloc (Nat.le_refl _) (.cells #[.bool false] 4)).drew
                have hS0 : HeldN w.heap.size na ca cb aa ab k c d w5 := ⟨ha5.cell 2, hb5'.cell 2, xk.c0, xk.c1, xk.c2, xk.c3, yk.c0, yk.c1, yk.c2, yk.c3⟩
                have hS : HeldN w.heap.size na ca cb aa ab k c d w5.drew := hS0
                have hS1 : HeldN w.heap.size na ca cb aa ab k c d (w5.alloc (.cells #[.bool false] 4)).drew := HeldN.grown (row := none) hS0 (grown_none' hbn) ⟨by omega, by omega, fun q e => by cases e⟩
                refine wp_region_held_drew (S := fun w' => w'.cell? ⟨w.heap.size, 2, none⟩ = some (.slice (some aa) na ca) ∧ w'.cell? ⟨w.heap.size + 1, 2, none⟩ = some (.slice (some ab) na cb) ∧ w'.cell? (aa.add (k * 4)) = some (.int .i32 c.r) ∧ w'.cell? ⟨(aa.add (k * 4)).block, (aa.add (k * 4)).off + 1, none⟩ = some (.int .u8 (c.f : Int)) ∧ w'.cell? ⟨(aa.add (k * 4)).block, (aa.add (k * 4)).off + 2, none⟩ = some (.int .u8 (c.b : Int)) ∧ w'.cell? ⟨(aa.add (k * 4)).block, (aa.add (k * 4)).off + 3, none⟩ = some (.int .u8 (c.x : Int)) ∧ w'.cell? (ab.add (k * 4)) = some (.int .i32 d.r) ∧ w'.cell? ⟨(ab.add (k * 4)).block, (ab.add (k * 4)).off + 1, none⟩ = some (.int .u8 (d.f : Int)) ∧ w'.cell? ⟨(ab.add (k * 4)).block, (ab.add (k * 4)).off + 2, none⟩ = some (.int .u8 (d.b : Int)) ∧ w'.cell? ⟨(ab.add (k * 4)).block, (ab.add (k * 4)).off + 3, none⟩ = some (.int .u8 (d.x : Int))) (by kernel_rfl) hS (fun hHeld => ?_)
                refine wpAnyH_take (i := 0) (v := ?bv1) rfl (by kernel_rfl) (by kernel_rfl) (by kernel_rfl) (fun _ _ _ h => h) (Or.inl ⟨by rfl, ?bhy1⟩) (by assumption) ?brest1
                case bhy1 => (intro w hSw; (try dsimp only at hSw); go_simp; try with_reducible rfl)
                try simp only [Act.put, List.getElem_toArray, List.getElem_cons_zero, List.setIfInBounds_toArray, List.set_cons_zero, List.set_cons_succ]
                refine wpAnyH_take (i := 1) (v := ?bv2) rfl (by kernel_rfl) (by kernel_rfl) (by kernel_rfl) (fun _ _ _ h => h) (Or.inl ⟨by rfl, ?bhy2⟩) (by assumption) ?brest2
                case bhy2 => (intro w hSw; (try dsimp only at hSw); go_simp; try with_reducible rfl)
                try simp only [Act.put, List.getElem_toArray, List.getElem_cons_succ, List.getElem_cons_zero, List.setIfInBounds_toArray, List.set_cons_zero, List.set_cons_succ]
                refine wpAnyH_take (i := 2) (v := ?bv3) rfl (by kernel_rfl) (by kernel_rfl) (by kernel_rfl) (fun _ _ _ h => h) (Or.inl ⟨by rfl, ?bhy3⟩) (by assumption) ?brest3
                case bhy3 => (intro w hSw; (try dsimp only at hSw); go_simp; try with_reducible rfl)
                try simp only [Act.put, List.getElem_toArray, List.getElem_cons_succ, List.getElem_cons_zero, List.setIfInBounds_toArray, List.set_cons_zero, List.set_cons_succ]
                refine wpAnyH_take (i := 3) (v := ?bv4) rfl (by kernel_rfl) (by kernel_rfl) (by kernel_rfl) (fun _ _ _ h => h) (Or.inl ⟨by rfl, ?bhy4⟩) (by assumption) ?brest4
                case bhy4 => (intro w hSw; (try dsimp only at hSw); go_simp; try with_reducible rfl)
                try simp only [Act.put, List.getElem_toArray, List.getElem_cons_succ, List.getElem_cons_zero, List.setIfInBounds_toArray, List.set_cons_zero, List.set_cons_succ]
                refine wpAnyH_take (i := 4) (v := ?bv5) rfl (by kernel_rfl) (by kernel_rfl) (by kernel_rfl) (fun _ _ _ h => h) (Or.inl ⟨by rfl, ?bhy5⟩) (by assumption) ?brest5
                case bhy5 => (intro w hSw; (try dsimp only at hSw); go_simp; try with_reducible rfl)
                try simp only [Act.put, List.getElem_toArray, List.getElem_cons_succ, List.getElem_cons_zero, List.setIfInBounds_toArray, List.set_cons_zero, List.set_cons_succ]
                refine wpAnyH_take (i := 5) (v := ?bv6) rfl (by kernel_rfl) (by kernel_rfl) (by kernel_rfl) (fun _ _ _ h => h) (Or.inl ⟨by rfl, ?bhy6⟩) (by assumption) ?brest6
                case bhy6 => (intro w hSw; (try dsimp only at hSw); go_simp; try with_reducible rfl)
                try simp only [Act.put, List.getElem_toArray, List.getElem_cons_succ, List.getElem_cons_zero, List.setIfInBounds_toArray, List.set_cons_zero, List.set_cons_succ]
                refine wpAnyH_take (i := 6) (v := ?bv7) rfl (by kernel_rfl) (by kernel_rfl) (by kernel_rfl) (fun _ _ _ h => h) (Or.inl ⟨by rfl, ?bhy7⟩) (by assumption) ?brest7
                case bhy7 => (intro w hSw; (try dsimp only at hSw); go_simp; try with_reducible rfl)
                try simp only [Act.put, List.getElem_toArray, List.getElem_cons_succ, List.getElem_cons_zero, List.setIfInBounds_toArray, List.set_cons_zero, List.set_cons_succ]
                refine wpAnyH_take (i := 7) (v := ?bv8) rfl (by kernel_rfl) (by kernel_rfl) (by kernel_rfl) (fun _ _ _ h => h) (Or.inl ⟨by rfl, ?bhy8⟩) (by assumption) ?brest8
                case bhy8 => (intro w hSw; (try dsimp only at hSw); go_simp; try with_reducible rfl)
                try simp only [Act.put, List.getElem_toArray, List.getElem_cons_succ, List.getElem_cons_zero, List.setIfInBounds_toArray, List.set_cons_zero, List.set_cons_succ]
                refine wpAnyH_take (i := 8) (v := ?bv9) rfl (by kernel_rfl) (by kernel_rfl) (by kernel_rfl) (fun _ _ _ h => h) (Or.inl ⟨by rfl, ?bhy9⟩) (by assumption) ?brest9
                case bhy9 => (intro w hSw; (try dsimp only at hSw); go_simp; try with_reducible rfl)
                try simp only [Act.put, List.getElem_toArray, List.getElem_cons_succ, List.getElem_cons_zero, List.setIfInBounds_toArray, List.set_cons_zero, List.set_cons_succ]
                refine wpAnyH_take (i := 9) (v := ?bv10) rfl (by kernel_rfl) (by kernel_rfl) (by kernel_rfl) (fun _ _ _ h => h) (Or.inl ⟨by rfl, ?bhy10⟩) (by assumption) ?brest10
                case bhy10 => (intro w hSw; (try dsimp only at hSw); go_simp; try with_reducible rfl)
                try simp only [Act.put, List.getElem_toArray, List.getElem_cons_succ, List.getElem_cons_zero, List.setIfInBounds_toArray, List.set_cons_zero, List.set_cons_succ]
                refine wpAnyH_take (i := 10) (v := ?bv11) rfl (by kernel_rfl) (by kernel_rfl) (by kernel_rfl) (fun _ _ _ h => h) (Or.inl ⟨by rfl, ?bhy11⟩) (by assumption) ?brest11
                case bhy11 => (intro w hSw; (try dsimp only at hSw); go_simp; try with_reducible rfl)
                try simp only [Act.put, List.getElem_toArray, List.getElem_cons_succ, List.getElem_cons_zero, List.setIfInBounds_toArray, List.set_cons_zero, List.set_cons_succ]
                refine wpAnyH_take (i := 11) (v := ?bv12) rfl (by kernel_rfl) (by kernel_rfl) (by kernel_rfl) (fun _ _ _ h => h) (Or.inl ⟨by rfl, ?bhy12⟩) (by assumption) ?brest12
                case bhy12 => (intro w hSw; (try dsimp only at hSw); go_simp; try with_reducible rfl)
                try simp only [Act.put, List.getElem_toArray, List.getElem_cons_succ, List.getElem_cons_zero, List.setIfInBounds_toArray, List.set_cons_zero, List.set_cons_succ]
                refine wpAnyH_take (i := 12) (v := ?bv13) rfl (by kernel_rfl) (by kernel_rfl) (by kernel_rfl) (fun _ _ _ h => h) (Or.inl ⟨by rfl, ?bhy13⟩) (by assumption) ?brest13
                case bhy13 => (intro w hSw; (try dsimp only at hSw); go_simp; try with_reducible rfl)
                try simp only [Act.put, List.getElem_toArray, List.getElem_cons_succ, List.getElem_cons_zero, List.setIfInBounds_toArray, List.set_cons_zero, List.set_cons_succ]
                refine wpAnyH_take (i := 13) (v := ?bv14) rfl (by kernel_rfl) (by kernel_rfl) (by kernel_rfl) (fun _ _ _ h => h) (Or.inl ⟨by rfl, ?bhy14⟩) (by assumption) ?brest14
                case bhy14 => (intro w hSw; (try dsimp only at hSw); go_simp; try with_reducible rfl)
                try simp only [Act.put, List.getElem_toArray, List.getElem_cons_succ, List.getElem_cons_zero, List.setIfInBounds_toArray, List.set_cons_zero, List.set_cons_succ]
                refine wpAnyH_take (i := 14) (v := ?bv15) rfl (by kernel_rfl) (by kernel_rfl) (by kernel_rfl) (fun _ _ _ h => h) (Or.inl ⟨by rfl, ?bhy15⟩) (by assumption) ?brest15
                case bhy15 => (intro w hSw; (try dsimp only at hSw); go_simp; try with_reducible rfl)
                try simp only [Act.put, List.getElem_toArray, List.getElem_cons_succ, List.getElem_cons_zero, List.setIfInBounds_toArray, List.set_cons_zero, List.set_cons_succ]
                refine wpAnyH_take (i := 15) (v := ?bv16) rfl (by kernel_rfl) (by kernel_rfl) (by kernel_rfl) (fun _ _ _ h => h) (Or.inl ⟨by rfl, ?bhy16⟩) (by assumption) ?brest16
                case bhy16 => (intro w hSw; (try dsimp only at hSw); go_simp; try with_reducible rfl)
                try simp only [Act.put, List.getElem_toArray, List.getElem_cons_succ, List.getElem_cons_zero, List.setIfInBounds_toArray, List.set_cons_zero, List.set_cons_succ]
                refine wpAnyH_take (i := 16) (v := undef) rfl (by kernel_rfl) (by kernel_rfl) (by kernel_rfl) (fun _ _ _ h => h) (Or.inr ⟨by rfl, rfl⟩) (by assumption) ?_
                try simp only [Act.put, List.getElem_toArray, List.getElem_cons_succ, List.getElem_cons_zero, List.setIfInBounds_toArray, List.set_cons_zero, List.set_cons_succ]
                refine wpAnyH_take (i := 17) (v := undef) rfl (by kernel_rfl) (by kernel_rfl) (by kernel_rfl) (fun _ _ _ h => h) (Or.inr ⟨by rfl, rfl⟩) (by assumption) ?_
                try simp only [Act.put, List.getElem_toArray, List.getElem_cons_succ, List.getElem_cons_zero, List.setIfInBounds_toArray, List.set_cons_zero, List.set_cons_succ]
                refine wpAnyH_take (i := 18) (v := undef) rfl (by kernel_rfl) (by kernel_rfl) (by kernel_rfl) (fun _ _ _ h => h) (Or.inr ⟨by rfl, rfl⟩) (by assumption) ?_
                try simp only [Act.put, List.getElem_toArray, List.getElem_cons_succ, List.getElem_cons_zero, List.setIfInBounds_toArray, List.set_cons_zero, List.set_cons_succ]
                refine wpAnyH_take (i := 19) (v := undef) rfl (by kernel_rfl) (by kernel_rfl) (by kernel_rfl) (fun _ _ _ h => h) (Or.inr ⟨by rfl, rfl⟩) (by assumption) ?_
                try simp only [Act.put, List.getElem_toArray, List.getElem_cons_succ, List.getElem_cons_zero, List.setIfInBounds_toArray, List.set_cons_zero, List.set_cons_succ]
                refine wpAnyH_take (i := 20) (v := undef) rfl (by kernel_rfl) (by kernel_rfl) (by kernel_rfl) (fun _ _ _ h => h) (Or.inr ⟨by rfl, rfl⟩) (by assumption) ?_
                try simp only [Act.put, List.getElem_toArray, List.getElem_cons_succ, List.getElem_cons_zero, List.setIfInBounds_toArray, List.set_cons_zero, List.set_cons_succ]
                refine wpAnyH_take (i := 21) (v := undef) rfl (by kernel_rfl) (by kernel_rfl) (by kernel_rfl) (fun _ _ _ h => h) (Or.inr ⟨by rfl, rfl⟩) (by assumption) ?_
                try simp only [Act.put, List.getElem_toArray, List.getElem_cons_succ, List.getElem_cons_zero, List.setIfInBounds_toArray, List.set_cons_zero, List.set_cons_succ]
                refine wpAnyH_take (i := 22) (v := undef) rfl (by kernel_rfl) (by kernel_rfl) (by kernel_rfl) (fun _ _ _ h => h) (Or.inr ⟨by rfl, rfl⟩) (by assumption) ?_
                try simp only [Act.put, List.getElem_toArray, List.getElem_cons_succ, List.getElem_cons_zero, List.setIfInBounds_toArray, List.set_cons_zero, List.set_cons_succ]
                refine wpAnyH_take (i := 23) (v := undef) rfl (by kernel_rfl) (by kernel_rfl) (by kernel_rfl) (fun _ _ _ h => h) (Or.inr ⟨by rfl, rfl⟩) (by assumption) ?_
                try simp only [Act.put, List.getElem_toArray, List.getElem_cons_succ, List.getElem_cons_zero, List.setIfInBounds_toArray, List.set_cons_zero, List.set_cons_succ]
                refine wpAnyH_take (i := 24) (v := undef) rfl (by kernel_rfl) (by kernel_rfl) (by kernel_rfl) (fun _ _ _ h => h) (Or.inr ⟨by rfl, rfl⟩) (by assumption) ?_
                try simp only [Act.put, List.getElem_toArray, List.getElem_cons_succ, List.getElem_cons_zero, List.setIfInBounds_toArray, List.set_cons_zero, List.set_cons_succ]
                refine wpAnyH_take (i := 25) (v := undef) rfl (by kernel_rfl) (by kernel_rfl) (by kernel_rfl) (fun _ _ _ h => h) (Or.inr ⟨by rfl, rfl⟩) (by assumption) ?_
                try simp only [Act.put, List.getElem_toArray, List.getElem_cons_succ, List.getElem_cons_zero, List.setIfInBounds_toArray, List.set_cons_zero, List.set_cons_succ]
                refine wpAnyH_take (i := 26) (v := undef) rfl (by kernel_rfl) (by kernel_rfl) (by kernel_rfl) (fun _ _ _ h => h) (Or.inr ⟨by rfl, rfl⟩) (by assumption) ?_
                try simp only [Act.put, List.getElem_toArray, List.getElem_cons_succ, List.getElem_cons_zero, List.setIfInBounds_toArray, List.set_cons_zero, List.set_cons_succ]
                refine wpAnyH_take (i := 27) (v := ?bv17) rfl (by kernel_rfl) (by kernel_rfl) (by kernel_rfl) (fun _ _ _ h => h) (Or.inl ⟨by rfl, ?bhy17⟩) (by assumption) ?brest17
                case bhy17 => (intro w hSw; (try dsimp only at hSw); go_simp; try with_reducible rfl)
                try simp only [Act.put, List.getElem_toArray, List.getElem_cons_succ, List.getElem_cons_zero, List.setIfInBounds_toArray, List.set_cons_zero, List.set_cons_succ]
                refine wpAnyH_take (i := 28) (v := ?bv18) rfl (by kernel_rfl) (by kernel_rfl) (by kernel_rfl) (fun _ _ _ h => h) (Or.inl ⟨by rfl, ?bhy18⟩) (by assumption) ?brest18
                case bhy18 => (intro w hSw; (try dsimp only at hSw); go_simp; try with_reducible rfl)
                try simp only [Act.put, List.getElem_toArray, List.getElem_cons_succ, List.getElem_cons_zero, List.setIfInBounds_toArray, List.set_cons_zero, List.set_cons_succ]
                refine wpAnyH_ready (rs := [29]) (by kernel_rfl) (by simp) ?_
                refine AllReadyH.cons rfl (fun K hK => ?_) AllReadyH.nil
                · go_simp
                  refine hK.out _ _ ?_ (fun hHeld => ?_)
                  · first | exact hS | exact hS1 | exact hS2
                  clear hK K
                  try simp only [Act.put, List.getElem_toArray, List.getElem_cons_succ, List.getElem_cons_zero, List.setIfInBounds_toArray, List.set_cons_zero, List.set_cons_succ]
                  refine wpAnyH_ready (rs := [30]) (by kernel_rfl) (by simp) ?_
                  refine AllReadyH.cons rfl (fun K hK => ?_) AllReadyH.nil
                  · have hsr : Src (w5.alloc (.cells #[.bool false] 4)).drew (some ⟨w5.heap.size, 0, none⟩) [.bool false] := fun _ => ⟨_, rfl, fun j u hj => cell_one_new w5 _ _ j u hj⟩
                    refine step_append_src rfl (.tmp 44) (.tmp 73) 68 rfl (w.heap.size + 2) 4 j0 (.bool false) 1 1 Try.underlying68 hj hy0 hy1 hy2 rfl (by decide) (.slice A7 k c7) k (((newP la lb).take k).map Value.bool) (by rfl) (own_later1 hown5 hbn) (some ⟨w5.heap.size, 0, none⟩) 1 1 [.bool false] (by rfl) rfl hsr (fun h => by cases h) (fun u hu => by simp at hu; subst hu; rfl) HK1.out HK2.out (Nat.le_trans hs5 hbn.size) ?_
                    intro v7 w7 ho7 hg7
                    have hS2 := HeldN.grown hS1 hg7 HNE.out
                    refine hK.out _ _ ?_ (fun hHeld => ?_)
                    · first | exact hS | exact hS1 | exact hS2
                    clear hK K
                    try simp only [Act.put, List.getElem_toArray, List.getElem_cons_succ, List.getElem_cons_zero, List.setIfInBounds_toArray, List.set_cons_zero, List.set_cons_succ]
                    refine wpAnyH_take (i := 31) (v := ?bv19) rfl (by kernel_rfl) (by kernel_rfl) (by kernel_rfl) (fun _ _ _ h => h) (Or.inl ⟨by rfl, ?bhy19⟩) (by assumption) ?brest19
                    case bhy19 => (intro w hSw; (try dsimp only at hSw); go_simp; try with_reducible rfl)
                    try simp only [Act.put, List.getElem_toArray, List.getElem_cons_succ, List.getElem_cons_zero, List.setIfInBounds_toArray, List.set_cons_zero, List.set_cons_succ]
                    refine wpAnyH_done (by kernel_rfl) ?_ _
                    have ha7 := (ha5.below hbn ha5.lt).grown hg7 (fun e => by have := HNE.out.2.2 _ e.symm; omega)
                    have hb7 := (hb5'.below hbn hb5'.lt).grown hg7 (fun e => by have := HNE.out.2.2 _ e.symm; omega)
                    have hbw7 : Below w.heap.size w w7 := (hbw5.trans (hbn.mono hbw5.size)).grown hg7 (Nat.le_trans hbw5.size hbn.size) (fun q hq => Nat.le_trans (Nat.le_add_right _ 2) (HNE.out.2.2 q hq))
                    have hN7 : NwR w w7 wn hn na ca cb aa ab := ⟨ha7, hb7, hbw7, Nat.le_trans hs5 (Nat.le_trans hbn.size hg7.size)⟩
                    rw [← HTK.out] at ho7
                    clear hS0 hS hS1 hS2 hsr hg7 ha7 hb7 hbw7
                    go_wp2_with fail
                    go_roundw
                    case rel => exact ⟨k + 1, hlt, by go_num, ho7, hN7⟩
                    case measure => simp [intOf]; omega
              · obtain ⟨c2, hc2⟩ : ∃ c2, la[K]? = some c2 := ⟨_, List.getElem?_eq_getElem (by omega)⟩
                obtain ⟨d2, hd2⟩ : ∃ d2, lb[K]? = some d2 := ⟨_, List.getElem?_eq_getElem hK⟩
                have xK := (hCa5 K c2 hc2).1
                have yK := (hCb5 K d2 hd2).1
                have hqe2 := fun W => neq_cell d2 c2 W
                rw [← neq_eq hc2 hd2] at hqe2
                have hKn : K < na := by omega
                have f1 : decide ((K : Int) < (na : Int)) = true := decide_eq_true (by omega)
                have f2 : decide (K < na) = true := decide_eq_true hKn
                have f3 : (K : Int) < (na : Int) := by omega
                have f4 : decide ((0 : Int) ≤ (K : Int)) = true := decide_eq_true (by omega)
                have HTK := Lib.hid (take_map_succ (newP_at (la := la) (show k < lb.length by rw [hnbE]; exact hlt)))
                rw [hfr] at HTK
                rw [← neq_eq hc hd, hnq] at hqe
                rw [hp]
                clear hnq hfr hd hc hp hc2 hd2
                generalize neqAt la lb K = bq at HTK hqe2
                have hbn : Below w5.heap.size w5 (w5.alloc (.cells #[.bool bq] 4)).drew := ((Below.refl w5.heap.size w5).alloc (Nat.le_refl _) (.cells #[.bool bq] 4)).drew
                have hS0 : HeldK w.heap.size na ca cb aa ab k c d K c2 d2 w5 := ⟨ha5.cell 2, hb5'.cell 2, xk.c0, xk.c1, xk.c2, xk.c3, yk.c0, yk.c1, yk.c2, yk.c3, xK.c0, xK.c1, xK.c2, xK.c3, yK.c0, yK.c1, yK.c2, yK.c3⟩
                have hS : HeldK w.heap.size na ca cb aa ab k c d K c2 d2 w5.drew := hS0
                have hS1 : HeldK w.heap.size na ca cb aa ab k c d K c2 d2 (w5.alloc (.cells #[.bool bq] 4)).drew := HeldK.grown (row := none) hS0 (grown_none' hbn) ⟨by omega, by omega, fun q e => by cases e⟩
                refine wp_region_held_drew (S := fun w' => w'.cell? ⟨w.heap.size, 2, none⟩ = some (.slice (some aa) na ca) ∧ w'.cell? ⟨w.heap.size + 1, 2, none⟩ = some (.slice (some ab) na cb) ∧ w'.cell? (aa.add (k * 4)) = some (.int .i32 c.r) ∧ w'.cell? ⟨(aa.add (k * 4)).block, (aa.add (k * 4)).off + 1, none⟩ = some (.int .u8 (c.f : Int)) ∧ w'.cell? ⟨(aa.add (k * 4)).block, (aa.add (k * 4)).off + 2, none⟩ = some (.int .u8 (c.b : Int)) ∧ w'.cell? ⟨(aa.add (k * 4)).block, (aa.add (k * 4)).off + 3, none⟩ = some (.int .u8 (c.x : Int)) ∧ w'.cell? (ab.add (k * 4)) = some (.int .i32 d.r) ∧ w'.cell? ⟨(ab.add (k * 4)).block, (ab.add (k * 4)).off + 1, none⟩ = some (.int .u8 (d.f : Int)) ∧ w'.cell? ⟨(ab.add (k * 4)).block, (ab.add (k * 4)).off + 2, none⟩ = some (.int .u8 (d.b : Int)) ∧ w'.cell? ⟨(ab.add (k * 4)).block, (ab.add (k * 4)).off + 3, none⟩ = some (.int .u8 (d.x : Int)) ∧ w'.cell? (aa.add (K * 4)) = some (.int .i32 c2.r) ∧ w'.cell? ⟨(aa.add (K * 4)).block, (aa.add (K * 4)).off + 1, none⟩ = some (.int .u8 (c2.f : Int)) ∧ w'.cell? ⟨(aa.add (K * 4)).block, (aa.add (K * 4)).off + 2, none⟩ = some (.int .u8 (c2.b : Int)) ∧ w'.cell? ⟨(aa.add (K * 4)).block, (aa.add (K * 4)).off + 3, none⟩ = some (.int .u8 (c2.x : Int)) ∧ w'.cell? (ab.add (K * 4)) = some (.int .i32 d2.r) ∧ w'.cell? ⟨(ab.add (K * 4)).block, (ab.add (K * 4)).off + 1, none⟩ = some (.int .u8 (d2.f : Int)) ∧ w'.cell? ⟨(ab.add (K * 4)).block, (ab.add (K * 4)).off + 2, none⟩ = some (.int .u8 (d2.b : Int)) ∧ w'.cell? ⟨(ab.add (K * 4)).block, (ab.add (K * 4)).off + 3, none⟩ = some (.int .u8 (d2.x : Int))) (by kernel_rfl) hS (fun hHeld => ?_)
                refine wpAnyH_take (i := 0) (v := ?cv1) rfl (by kernel_rfl) (by kernel_rfl) (by kernel_rfl) (fun _ _ _ h => h) (Or.inl ⟨by rfl, ?chy1⟩) (by assumption) ?crest1
                case chy1 => (intro w hSw; (try dsimp only at hSw); go_simp; try with_reducible rfl)
                try simp only [Act.put, List.getElem_toArray, List.getElem_cons_zero, List.setIfInBounds_toArray, List.set_cons_zero, List.set_cons_succ]
                refine wpAnyH_take (i := 1) (v := ?cv2) rfl (by kernel_rfl) (by kernel_rfl) (by kernel_rfl) (fun _ _ _ h => h) (Or.inl ⟨by rfl, ?chy2⟩) (by assumption) ?crest2
                case chy2 => (intro w hSw; (try dsimp only at hSw); go_simp; try with_reducible rfl)
                try simp only [Act.put, List.getElem_toArray, List.getElem_cons_succ, List.getElem_cons_zero, List.setIfInBounds_toArray, List.set_cons_zero, List.set_cons_succ]
                refine wpAnyH_take (i := 2) (v := ?cv3) rfl (by kernel_rfl) (by kernel_rfl) (by kernel_rfl) (fun _ _ _ h => h) (Or.inl ⟨by rfl, ?chy3⟩) (by assumption) ?crest3
                case chy3 => (intro w hSw; (try dsimp only at hSw); go_simp; try with_reducible rfl)
                try simp only [Act.put, List.getElem_toArray, List.getElem_cons_succ, List.getElem_cons_zero, List.setIfInBounds_toArray, List.set_cons_zero, List.set_cons_succ]
                refine wpAnyH_take (i := 3) (v := ?cv4) rfl (by kernel_rfl) (by kernel_rfl) (by kernel_rfl) (fun _ _ _ h => h) (Or.inl ⟨by rfl, ?chy4⟩) (by assumption) ?crest4
                case chy4 => (intro w hSw; (try dsimp only at hSw); go_simp; try with_reducible rfl)
                try simp only [Act.put, List.getElem_toArray, List.getElem_cons_succ, List.getElem_cons_zero, List.setIfInBounds_toArray, List.set_cons_zero, List.set_cons_succ]
                refine wpAnyH_take (i := 4) (v := ?cv5) rfl (by kernel_rfl) (by kernel_rfl) (by kernel_rfl) (fun _ _ _ h => h) (Or.inl ⟨by rfl, ?chy5⟩) (by assumption) ?crest5
                case chy5 => (intro w hSw; (try dsimp only at hSw); go_simp; try with_reducible rfl)
                try simp only [Act.put, List.getElem_toArray, List.getElem_cons_succ, List.getElem_cons_zero, List.setIfInBounds_toArray, List.set_cons_zero, List.set_cons_succ]
                refine wpAnyH_take (i := 5) (v := ?cv6) rfl (by kernel_rfl) (by kernel_rfl) (by kernel_rfl) (fun _ _ _ h => h) (Or.inl ⟨by rfl, ?chy6⟩) (by assumption) ?crest6
                case chy6 => (intro w hSw; (try dsimp only at hSw); go_simp; try with_reducible rfl)
                try simp only [Act.put, List.getElem_toArray, List.getElem_cons_succ, List.getElem_cons_zero, List.setIfInBounds_toArray, List.set_cons_zero, List.set_cons_succ]
                refine wpAnyH_take (i := 6) (v := ?cv7) rfl (by kernel_rfl) (by kernel_rfl) (by kernel_rfl) (fun _ _ _ h => h) (Or.inl ⟨by rfl, ?chy7⟩) (by assumption) ?crest7
                case chy7 => (intro w hSw; (try dsimp only at hSw); go_simp; try with_reducible rfl)
                try simp only [Act.put, List.getElem_toArray, List.getElem_cons_succ, List.getElem_cons_zero, List.setIfInBounds_toArray, List.set_cons_zero, List.set_cons_succ]
                refine wpAnyH_take (i := 7) (v := ?cv8) rfl (by kernel_rfl) (by kernel_rfl) (by kernel_rfl) (fun _ _ _ h => h) (Or.inl ⟨by rfl, ?chy8⟩) (by assumption) ?crest8
                case chy8 => (intro w hSw; (try dsimp only at hSw); go_simp; try with_reducible rfl)
                try simp only [Act.put, List.getElem_toArray, List.getElem_cons_succ, List.getElem_cons_zero, List.setIfInBounds_toArray, List.set_cons_zero, List.set_cons_succ]
                refine wpAnyH_take (i := 8) (v := ?cv9) rfl (by kernel_rfl) (by kernel_rfl) (by kernel_rfl) (fun _ _ _ h => h) (Or.inl ⟨by rfl, ?chy9⟩) (by assumption) ?crest9
                case chy9 => (intro w hSw; (try dsimp only at hSw); go_simp; try with_reducible rfl)
                try simp only [Act.put, List.getElem_toArray, List.getElem_cons_succ, List.getElem_cons_zero, List.setIfInBounds_toArray, List.set_cons_zero, List.set_cons_succ]
                refine wpAnyH_take (i := 9) (v := ?cv10) rfl (by kernel_rfl) (by kernel_rfl) (by kernel_rfl) (fun _ _ _ h => h) (Or.inl ⟨by rfl, ?chy10⟩) (by assumption) ?crest10
                case chy10 => (intro w hSw; (try dsimp only at hSw); go_simp; try with_reducible rfl)
                try simp only [Act.put, List.getElem_toArray, List.getElem_cons_succ, List.getElem_cons_zero, List.setIfInBounds_toArray, List.set_cons_zero, List.set_cons_succ]
                refine wpAnyH_take (i := 10) (v := ?cv11) rfl (by kernel_rfl) (by kernel_rfl) (by kernel_rfl) (fun _ _ _ h => h) (Or.inl ⟨by rfl, ?chy11⟩) (by assumption) ?crest11
                case chy11 => (intro w hSw; (try dsimp only at hSw); go_simp; try with_reducible rfl)
                try simp only [Act.put, List.getElem_toArray, List.getElem_cons_succ, List.getElem_cons_zero, List.setIfInBounds_toArray, List.set_cons_zero, List.set_cons_succ]
                refine wpAnyH_take (i := 11) (v := ?cv12) rfl (by kernel_rfl) (by kernel_rfl) (by kernel_rfl) (fun _ _ _ h => h) (Or.inl ⟨by rfl, ?chy12⟩) (by assumption) ?crest12
                case chy12 => (intro w hSw; (try dsimp only at hSw); go_simp; try with_reducible rfl)
                try simp only [Act.put, List.getElem_toArray, List.getElem_cons_succ, List.getElem_cons_zero, List.setIfInBounds_toArray, List.set_cons_zero, List.set_cons_succ]
                refine wpAnyH_take (i := 12) (v := ?cv13) rfl (by kernel_rfl) (by kernel_rfl) (by kernel_rfl) (fun _ _ _ h => h) (Or.inl ⟨by rfl, ?chy13⟩) (by assumption) ?crest13
                case chy13 => (intro w hSw; (try dsimp only at hSw); go_simp; try with_reducible rfl)
                try simp only [Act.put, List.getElem_toArray, List.getElem_cons_succ, List.getElem_cons_zero, List.setIfInBounds_toArray, List.set_cons_zero, List.set_cons_succ]
                refine wpAnyH_take (i := 13) (v := ?cv14) rfl (by kernel_rfl) (by kernel_rfl) (by kernel_rfl) (fun _ _ _ h => h) (Or.inl ⟨by rfl, ?chy14⟩) (by assumption) ?crest14
                case chy14 => (intro w hSw; (try dsimp only at hSw); go_simp; try with_reducible rfl)
                try simp only [Act.put, List.getElem_toArray, List.getElem_cons_succ, List.getElem_cons_zero, List.setIfInBounds_toArray, List.set_cons_zero, List.set_cons_succ]
                refine wpAnyH_take (i := 14) (v := ?cv15) rfl (by kernel_rfl) (by kernel_rfl) (by kernel_rfl) (fun _ _ _ h => h) (Or.inl ⟨by rfl, ?chy15⟩) (by assumption) ?crest15
                case chy15 => (intro w hSw; (try dsimp only at hSw); go_simp; try with_reducible rfl)
                try simp only [Act.put, List.getElem_toArray, List.getElem_cons_succ, List.getElem_cons_zero, List.setIfInBounds_toArray, List.set_cons_zero, List.set_cons_succ]
                refine wpAnyH_take (i := 15) (v := ?cv16) rfl (by kernel_rfl) (by kernel_rfl) (by kernel_rfl) (fun _ _ _ h => h) (Or.inl ⟨by rfl, ?chy16⟩) (by assumption) ?crest16
                case chy16 => (intro w hSw; (try dsimp only at hSw); go_simp; try with_reducible rfl)
                try simp only [Act.put, List.getElem_toArray, List.getElem_cons_succ, List.getElem_cons_zero, List.setIfInBounds_toArray, List.set_cons_zero, List.set_cons_succ]
                refine wpAnyH_take (i := 16) (v := ?cv17) rfl (by kernel_rfl) (by kernel_rfl) (by kernel_rfl) (fun _ _ _ h => h) (Or.inl ⟨by rfl, ?chy17⟩) (by assumption) ?crest17
                case chy17 => (intro w hSw; (try dsimp only at hSw); go_simp; try with_reducible rfl)
                try simp only [Act.put, List.getElem_toArray, List.getElem_cons_succ, List.getElem_cons_zero, List.setIfInBounds_toArray, List.set_cons_zero, List.set_cons_succ]
                refine wpAnyH_take (i := 17) (v := ?cv18) rfl (by kernel_rfl) (by kernel_rfl) (by kernel_rfl) (fun _ _ _ h => h) (Or.inl ⟨by rfl, ?chy18⟩) (by assumption) ?crest18
                case chy18 => (intro w hSw; (try dsimp only at hSw); go_simp; try with_reducible rfl)
                try simp only [Act.put, List.getElem_toArray, List.getElem_cons_succ, List.getElem_cons_zero, List.setIfInBounds_toArray, List.set_cons_zero, List.set_cons_succ]
                refine wpAnyH_take (i := 18) (v := ?cv19) rfl (by kernel_rfl) (by kernel_rfl) (by kernel_rfl) (fun _ _ _ h => h) (Or.inl ⟨by rfl, ?chy19⟩) (by assumption) ?crest19
                case chy19 => (intro w hSw; (try dsimp only at hSw); go_simp; try with_reducible rfl)
                try simp only [Act.put, List.getElem_toArray, List.getElem_cons_succ, List.getElem_cons_zero, List.setIfInBounds_toArray, List.set_cons_zero, List.set_cons_succ]
                refine wpAnyH_take (i := 19) (v := ?cv20) rfl (by kernel_rfl) (by kernel_rfl) (by kernel_rfl) (fun _ _ _ h => h) (Or.inl ⟨by rfl, ?chy20⟩) (by assumption) ?crest20
                case chy20 => (intro w hSw; (try dsimp only at hSw); go_simp; try with_reducible rfl)
                try simp only [Act.put, List.getElem_toArray, List.getElem_cons_succ, List.getElem_cons_zero, List.setIfInBounds_toArray, List.set_cons_zero, List.set_cons_succ]
                refine wpAnyH_take (i := 20) (v := ?cv21) rfl (by kernel_rfl) (by kernel_rfl) (by kernel_rfl) (fun _ _ _ h => h) (Or.inl ⟨by rfl, ?chy21⟩) (by assumption) ?crest21
                case chy21 => (intro w hSw; (try dsimp only at hSw); go_simp; try with_reducible rfl)
                try simp only [Act.put, List.getElem_toArray, List.getElem_cons_succ, List.getElem_cons_zero, List.setIfInBounds_toArray, List.set_cons_zero, List.set_cons_succ]
                refine wpAnyH_take (i := 21) (v := ?cv22) rfl (by kernel_rfl) (by kernel_rfl) (by kernel_rfl) (fun _ _ _ h => h) (Or.inl ⟨by rfl, ?chy22⟩) (by assumption) ?crest22
                case chy22 => (intro w hSw; (try dsimp only at hSw); go_simp; try with_reducible rfl)
                try simp only [Act.put, List.getElem_toArray, List.getElem_cons_succ, List.getElem_cons_zero, List.setIfInBounds_toArray, List.set_cons_zero, List.set_cons_succ]
                refine wpAnyH_take (i := 22) (v := ?cv23) rfl (by kernel_rfl) (by kernel_rfl) (by kernel_rfl) (fun _ _ _ h => h) (Or.inl ⟨by rfl, ?chy23⟩) (by assumption) ?crest23
                case chy23 => (intro w hSw; (try dsimp only at hSw); go_simp; try with_reducible rfl)
                try simp only [Act.put, List.getElem_toArray, List.getElem_cons_succ, List.getElem_cons_zero, List.setIfInBounds_toArray, List.set_cons_zero, List.set_cons_succ]
                refine wpAnyH_take (i := 23) (v := ?cv24) rfl (by kernel_rfl) (by kernel_rfl) (by kernel_rfl) (fun _ _ _ h => h) (Or.inl ⟨by rfl, ?chy24⟩) (by assumption) ?crest24
                case chy24 => (intro w hSw; (try dsimp only at hSw); go_simp; try with_reducible rfl)
                try simp only [Act.put, List.getElem_toArray, List.getElem_cons_succ, List.getElem_cons_zero, List.setIfInBounds_toArray, List.set_cons_zero, List.set_cons_succ]
                refine wpAnyH_take (i := 24) (v := ?cv25) rfl (by kernel_rfl) (by kernel_rfl) (by kernel_rfl) (fun _ _ _ h => h) (Or.inl ⟨by rfl, ?chy25⟩) (by assumption) ?crest25
                case chy25 => (intro w hSw; (try dsimp only at hSw); go_simp; try with_reducible rfl)
                try simp only [Act.put, List.getElem_toArray, List.getElem_cons_succ, List.getElem_cons_zero, List.setIfInBounds_toArray, List.set_cons_zero, List.set_cons_succ]
                refine wpAnyH_take (i := 25) (v := ?cv26) rfl (by kernel_rfl) (by kernel_rfl) (by kernel_rfl) (fun _ _ _ h => h) (Or.inl ⟨by rfl, ?chy26⟩) (by assumption) ?crest26
                case chy26 => (intro w hSw; (try dsimp only at hSw); go_simp; try with_reducible rfl)
                try simp only [Act.put, List.getElem_toArray, List.getElem_cons_succ, List.getElem_cons_zero, List.setIfInBounds_toArray, List.set_cons_zero, List.set_cons_succ]
                refine wpAnyH_take (i := 26) (v := ?cv27) rfl (by kernel_rfl) (by kernel_rfl) (by kernel_rfl) (fun _ _ _ h => h) (Or.inl ⟨by rfl, ?chy27⟩) (by assumption) ?crest27
                case chy27 => (intro w hSw; (try dsimp only at hSw); go_simp; try with_reducible rfl)
                try simp only [Act.put, List.getElem_toArray, List.getElem_cons_succ, List.getElem_cons_zero, List.setIfInBounds_toArray, List.set_cons_zero, List.set_cons_succ]
                refine wpAnyH_take (i := 27) (v := ?cv28) rfl (by kernel_rfl) (by kernel_rfl) (by kernel_rfl) (fun _ _ _ h => h) (Or.inl ⟨by rfl, ?chy28⟩) (by assumption) ?crest28
                case chy28 => (intro w hSw; (try dsimp only at hSw); go_simp; try with_reducible rfl)
                try simp only [Act.put, List.getElem_toArray, List.getElem_cons_succ, List.getElem_cons_zero, List.setIfInBounds_toArray, List.set_cons_zero, List.set_cons_succ]
                refine wpAnyH_take (i := 28) (v := ?cv29) rfl (by kernel_rfl) (by kernel_rfl) (by kernel_rfl) (fun _ _ _ h => h) (Or.inl ⟨by rfl, ?chy29⟩) (by assumption) ?crest29
                case chy29 => (intro w hSw; (try dsimp only at hSw); go_simp; try with_reducible rfl)
                try simp only [Act.put, List.getElem_toArray, List.getElem_cons_succ, List.getElem_cons_zero, List.setIfInBounds_toArray, List.set_cons_zero, List.set_cons_succ]
                refine wpAnyH_ready (rs := [29]) (by kernel_rfl) (by simp) ?_
                refine AllReadyH.cons rfl (fun K hK => ?_) AllReadyH.nil
                · go_simp
                  refine hK.out _ _ ?_ (fun hHeld => ?_)
                  · first | exact hS | exact hS1 | exact hS2
                  clear hK K
                  try simp only [Act.put, List.getElem_toArray, List.getElem_cons_succ, List.getElem_cons_zero, List.setIfInBounds_toArray, List.set_cons_zero, List.set_cons_succ]
                  refine wpAnyH_ready (rs := [30]) (by kernel_rfl) (by simp) ?_
                  refine AllReadyH.cons rfl (fun K hK => ?_) AllReadyH.nil
                  · have hsr : Src (w5.alloc (.cells #[.bool bq] 4)).drew (some ⟨w5.heap.size, 0, none⟩) [.bool bq] := fun _ => ⟨_, rfl, fun j u hj => cell_one_new w5 _ _ j u hj⟩
                    refine step_append_src rfl (.tmp 44) (.tmp 73) 68 rfl (w.heap.size + 2) 4 j0 (.bool false) 1 1 Try.underlying68 hj hy0 hy1 hy2 rfl (by decide) (.slice A7 k c7) k (((newP la lb).take k).map Value.bool) (by rfl) (own_later1 hown5 hbn) (some ⟨w5.heap.size, 0, none⟩) 1 1 [.bool bq] (by rfl) rfl hsr (fun h => by cases h) (fun u hu => by simp at hu; subst hu; rfl) HK1.out HK2.out (Nat.le_trans hs5 hbn.size) ?_
                    intro v7 w7 ho7 hg7
                    have hS2 := HeldK.grown hS1 hg7 HNE.out
                    refine hK.out _ _ ?_ (fun hHeld => ?_)
                    · first | exact hS | exact hS1 | exact hS2
                    clear hK K
                    try simp only [Act.put, List.getElem_toArray, List.getElem_cons_succ, List.getElem_cons_zero, List.setIfInBounds_toArray, List.set_cons_zero, List.set_cons_succ]
                    refine wpAnyH_take (i := 31) (v := ?cv30) rfl (by kernel_rfl) (by kernel_rfl) (by kernel_rfl) (fun _ _ _ h => h) (Or.inl ⟨by rfl, ?chy30⟩) (by assumption) ?crest30
                    case chy30 => (intro w hSw; (try dsimp only at hSw); go_simp; try with_reducible rfl)
                    try simp only [Act.put, List.getElem_toArray, List.getElem_cons_succ, List.getElem_cons_zero, List.setIfInBounds_toArray, List.set_cons_zero, List.set_cons_succ]
                    refine wpAnyH_done (by kernel_rfl) ?_ _
                    have ha7 := (ha5.below hbn ha5.lt).grown hg7 (fun e => by have := HNE.out.2.2 _ e.symm; omega)
                    have hb7 := (hb5'.below hbn hb5'.lt).grown hg7 (fun e => by have := HNE.out.2.2 _ e.symm; omega)
                    have hbw7 : Below w.heap.size w w7 := (hbw5.trans (hbn.mono hbw5.size)).grown hg7 (Nat.le_trans hbw5.size hbn.size) (fun q hq => Nat.le_trans (Nat.le_add_right _ 2) (HNE.out.2.2 q hq))
                    have hN7 : NwR w w7 wn hn na ca cb aa ab := ⟨ha7, hb7, hbw7, Nat.le_trans hs5 (Nat.le_trans hbn.size hg7.size)⟩
                    rw [← HTK.out] at ho7
                    clear hS0 hS hS1 hS2 hsr hg7 ha7 hb7 hbw7
                    go_wp2_with fail
                    go_roundw
                    case rel => exact ⟨k + 1, hlt, by go_num, ho7, hN7⟩
                    case measure => simp [intOf]; omega
            · have d1 : decide ((k : Int) < (na : Int)) = false := decide_eq_false (by omega)
              have d2 : decide (k < na) = false := decide_eq_false hlt
              obtain rfl : k = na := by omega
              rw [List.take_of_length_le (by rw [newP_len, hnbE]; exact Nat.le_refl _)] at hown
              go_wp2_with fail
              go_ret
              exact ⟨_, rfl, (fun h => by rw [HF.out] at h; cases h), fun _ => hown, hMr.below⟩
        · have HF := Lib.hid (show alikeP xa ya xb yb la lb = false by rw [HP.out, hga, hgb]; simp [h2])
          subst h1
          have e2 : (ya == yb) = false := by rw [beq_eq_false_iff_ne]; exact h2
          clear hga hgb HP h2
          go_wp2_with fail
          go_ret
          exact ⟨_, rfl, fun _ => rfl, (fun h => by rw [HF.out] at h; cases h), hb4⟩
      · have HF := Lib.hid (show alikeP xa ya xb yb la lb = false by rw [HP.out, hga, hgb]; simp [h1])
        have e1 : (xa == xb) = false := by rw [beq_eq_false_iff_ne]; exact h1
        clear hga hgb HP h1
        go_wp2_with fail
        go_ret
        exact ⟨_, rfl, fun _ => rfl, (fun h => by rw [HF.out] at h; cases h), hb4⟩
end Go.Proofs.Ytpjafocgabhieaa
