/- copy of cells of four places into a row of the call's own: its law (for DiffTells). -/
import Derived.Test.YtpjafocgabhieaaMgO
import Derived.Laws.CopyRow
import Derived.Laws.CopyOwn
import Derived.Lib.SlBuf
namespace Go.Proofs.Ytpjafocgabhieaa
open Go.RowKit Go.Sort
theorem run_copy4g {dT sT ty : TypeId} (w : World) (g off dLen dCap : Nat) (a : Addr) (sLen sCap : Nat) (cur : Array Value) (l : List Cl) (hu : Try.prog.underlying dT = some (.slice 55)) (hg : Blk w g 55 cur) (hl : l.length = Nat.min sLen dLen) (hC : Cels w a l) (hfit : off + l.length * 4 ≤ cur.size) :
    (Builtin.copy_ #[dT, sT] ty #[.slice (some ⟨g, off, none⟩) dLen dCap, .slice (some a) sLen sCap]).run Try.prog w = .ok (goInt l.length) (w.setRow g (cur.toList.take off ++ rowV l ++ cur.toList.drop (off + l.length * 4)).toArray) := by
  obtain ⟨i1, ki, kz0, kz1, kz2⟩ := info_parts Try.info55
  have hld := run_loadCells_list (P := Try.prog) w a (rowV l) hC.src
  have hst := run_storeCells_at Try.prog g off 55 (rowV l) 0 cur w hg (by rw [rowV_len]; omega) (rowV_one l)
  rw [rowV_len] at hld hst
  simp [Builtin.copy_, run_underlying hu, Builtin.lenOf, Builtin.firstCells, sizeOf, typeInfo, ki, kz1, ← hl, hld, hst]
theorem run_copy4 {dT sT ty : TypeId} (w : World) (g dCap n : Nat) (a : Addr) (sCap : Nat) (cur : Array Value) (l : List Cl) (hu : Try.prog.underlying dT = some (.slice 55)) (hg : Blk w g 55 cur) (hl : l.length = n) (hC : Cels w a l) (hfit : n * 4 ≤ cur.size) :
    (Builtin.copy_ #[dT, sT] ty #[.slice (some ⟨g, 0, none⟩) n dCap, .slice (some a) n sCap]).run Try.prog w = .ok (goInt n) (w.setRow g (rowV l ++ cur.toList.drop (n * 4)).toArray) := by
  have h := run_copy4g (dT := dT) (sT := sT) (ty := ty) w g 0 n dCap a n sCap cur l hu hg (by rw [hl]; exact (Nat.min_self n).symm) hC (by rw [hl]; omega)
  rw [hl] at h
  simpa using h
/-- A row that was laid anew. -/
theorem RowW.laid {w : World} {g n c : Nat} {cur : Array Value} {l : List Cl} (hg : Blk w g 55 cur) (hl : l.length = n) (hc : n ≤ c) (hm : c ≤ maxLen) (ok : OkL l) (rest : List Value) : RowW (w.setRow g (rowV l ++ rest).toArray) g n c l := by
  have hb : Blk (w.setRow g (rowV l ++ rest).toArray) g 55 (rowV l ++ rest).toArray := setRow_heap w g cur _ _ _ hg
  refine ⟨hl, hc, hm, ⟨_, hb⟩, Cels.of_src ok fun j u hj => ?_⟩
  rw [at_add, hb.cell]
  have hj' := (List.getElem?_eq_some_iff.1 hj).1
  simp only [List.getElem?_toArray]
  rw [List.getElem?_append_left hj']
  exact hj
theorem only_setRow (w : World) (g : Nat) (cs : Array Value) : Only g w (w.setRow g cs) := ⟨rfl, rfl, rfl, by simp [World.setRow], fun k _ hne => setRow_other w g k cs (fun e => hne (by rw [e]))⟩
end Go.Proofs.Ytpjafocgabhieaa

/- grid.span inside a size; what Put does to a row (its closure); cell.Mend of a row of plain cells (for DiffTells). -/
namespace Go.Proofs.Ytpjafocgabhieaa
open Go.RowKit Go.Sort
set_option maxRecDepth 100000 in
set_option maxHeartbeats 4000000 in
theorem span_in (k n e size : Nat) (w : World) (he : e = k + n) (hn : 1 ≤ n) (hs : e ≤ size) (hz : size ≤ 1000) :
    Calls Try.prog 27 #[.int .i64 (k : Nat), .int .i64 (n : Nat), .int .i64 (size : Nat)] w fun r w' => r = .returned (.tuple #[.int .i64 (k : Nat), .int .i64 (e : Nat)]) ∧ w = w' := by
  have d1 : decide ((n : Int) ≤ 0) = false := decide_eq_false (by omega)
  have d2 : decide ((size : Int) ≤ (k : Int)) = false := decide_eq_false (by omega)
  have d3 : decide (size ≤ k) = false := decide_eq_false (by omega)
  have d4 : decide ((k : Int) < 0) = false := decide_eq_false (by omega)
  have d5 : (n : Int) ≤ (size : Int) - (k : Int) := by omega
  have d6 : ¬ (size : Int) - (k : Int) < (n : Int) := by omega
  have d7 : ¬ n = 0 := by omega
  have d8 : decide (n = 0) = false := decide_eq_false d7
  have e1 : (k : Int) + (n : Int) = (e : Int) := by omega
  clear he
  go_enter Try.func27, Try.ntmps27
  go_wp2_with fail
  have hm : min (n : Int) ((size : Int) - (k : Int)) = (n : Int) := by omega
  rw [hm, e1]
  refine bodyPost_ret (v := .tuple #[.int .i64 (k : Nat), .int .i64 (e : Nat)]) ?_ rfl ⟨rfl, rfl⟩
  simp [results, Try.results27, go_sem]
/-- What the closure's boxes hold. -/
structure PBox (w : World) (L R C X : Nat) (lt rt px : Nat) (B : Option Addr) (m cb : Nat) : Prop where
  l : Blk w L 3 #[.int .i64 (lt : Nat)]
  r : Blk w R 3 #[.int .i64 (rt : Nat)]
  c : Blk w C 30 #[.slice B m cb]
  x : Blk w X 3 #[.int .i64 (px : Nat)]
/-- Cells laid over a row. -/
def overP (l lb : List Cl) (px : Nat) : Nat → List Cl
  | 0 => l
  | k + 1 => (overP l lb px k).set (px + k) (lb.getD k blankC)
theorem overP_len (l lb : List Cl) (px : Nat) : ∀ k, (overP l lb px k).length = l.length
  | 0 => rfl
  | k + 1 => by rw [overP, List.length_set, overP_len l lb px k]
set_option maxRecDepth 100000 in
set_option maxHeartbeats 8000000 in
theorem putDo_gen (y : Int) (g n c : Nat) (l : List Cl) (L R C X px rt m cb : Nat) (adB : Addr) (lb : List Cl) (w : World) (hW : RowW w g n c l) (hB : RowS w (some adB) m cb lb) (hP : PBox w L R C X px rt px (some adB) m cb) (hrt : rt = px + m) (hn : rt ≤ n) (hn2 : n ≤ 1000)
    (h2 : R ≠ g) (h3 : C ≠ g) (h4 : X ≠ g) (h5 : adB.block ≠ g) :
    Calls Try.prog 29 #[.int .i64 y, .slice (some ⟨g, 0, none⟩) n c, .pointer (some ⟨L, 0, none⟩), .pointer (some ⟨R, 0, none⟩), .pointer (some ⟨C, 0, none⟩), .pointer (some ⟨X, 0, none⟩)] w fun e w' => e = .returned (.tuple #[]) ∧ RowW w' g n c (overP l lb px m) ∧ Only g w w' := by
  have k0 : w.cell? ⟨L, 0, none⟩ = some (.int .i64 (px : Nat)) := hP.l.cell 0
  have HB := Lib.hid hB
  have HP := Lib.hid hP
  clear hB hP
  go_enter Try.func29, Try.ntmps29
  go_wp2_with fail
  go_loopw [8] (fun s8 wr => ∃ k q : Nat, k ≤ m ∧ q = px + k ∧ s8 = .int .i64 (q : Nat) ∧ RowW wr g n c (overP l lb px k) ∧ Only g w wr) (fun s8 _ => rt - (intOf s8).toNat)
  case atStart => exact ⟨0, px, by omega, rfl, rfl, hW, only_refl g w⟩
  case round =>
    clear hW k0
    obtain ⟨k, q, hk, hq, rfl, hWr, hor⟩ := hrel
    have k1 : wr.cell? ⟨R, 0, none⟩ = some (.int .i64 (rt : Nat)) := (HP.out.r.grown hor (fun e => h2 (by injection e))).cell 0
    have k2 : wr.cell? ⟨C, 0, none⟩ = some (.slice (some adB) m cb) := (HP.out.c.grown hor (fun e => h3 (by injection e))).cell 0
    have k3 : wr.cell? ⟨X, 0, none⟩ = some (.int .i64 (px : Nat)) := (HP.out.x.grown hor (fun e => h4 (by injection e))).cell 0
    by_cases hlt : k < m
    · have d1 : decide ((q : Int) < (rt : Int)) = true := decide_eq_true (by omega)
      have d2 : decide (q < rt) = true := decide_eq_true (by omega)
      have e1 : (q : Int) - (px : Int) = (k : Int) := by omega
      have e2 : (0 : Int) ≤ (k : Int) := by omega
      have e3 : (k : Int) < (m : Int) := by omega
      have e4 : (0 : Int) ≤ (q : Int) := by omega
      have e5 : (q : Int) < (n : Int) := by omega
      have e6 : q < n := by omega
      obtain ⟨_, ea, hCB⟩ := HB.out.some_ad' (show 1 ≤ m by omega)
      injection ea with ea
      subst ea
      have hlm := HB.out.len
      obtain ⟨d, hd⟩ : ∃ d, lb[k]? = some d := ⟨_, List.getElem?_eq_getElem (by omega)⟩
      obtain ⟨⟨c0, c1, c2, c3⟩, okd⟩ := hCB k d hd
      have hbk : (adB.add (k * 4)).block = adB.block := block_add _ _
      have hlB : (adB.add (k * 4)).block < w.heap.size := World.block_lt_of_cell? w _ c0
      have hne : (adB.add (k * 4)).block ≠ g := by rw [hbk]; exact h5
      have x0 := (hor.cell' (p := adB.add (k * 4)) hlB hne).trans c0
      have x1 := (hor.cell' (p := ⟨(adB.add (k * 4)).block, (adB.add (k * 4)).off + 1, none⟩) hlB hne).trans c1
      have x2 := (hor.cell' (p := ⟨(adB.add (k * 4)).block, (adB.add (k * 4)).off + 2, none⟩) hlB hne).trans c2
      have x3 := (hor.cell' (p := ⟨(adB.add (k * 4)).block, (adB.add (k * 4)).off + 3, none⟩) hlB hne).trans c3
      obtain ⟨e, he⟩ : ∃ e, (overP l lb px k)[q]? = some e := ⟨_, List.getElem?_eq_getElem (by rw [hWr.len]; exact e6)⟩
      obtain ⟨t0, t1, t2, t3, _⟩ := hWr.cell he
      have q0 := hWr.free (q * 4)
      have q1 := hWr.free (q * 4 + 1)
      have q2 := hWr.free (q * 4 + 2)
      have q3 := hWr.free (q * 4 + 3)
      have hW2 := hWr.put e6 okd
      have HOV := Lib.hid (show (overP l lb px k).set q d = overP l lb px (k + 1) by
        rw [overP, ← hq]
        simp [List.getD, hd])
      rw [HOV.out] at hW2
      have ho2 := only_trans hor (only_putC wr g q d)
      have HQ := Lib.hid hq
      clear hq c0 c1 c2 c3 hd hCB hlB hne hbk he hWr hor
      have hqr : q < rt := by rw [HQ.out]; omega
      go_wp2_with fail
      go_roundw
      case rel => exact ⟨k + 1, q + 1, hlt, by rw [HQ.out]; omega, by go_num, hW2, ho2⟩
      case measure =>
        show rt - ((q : Int) + 1).toNat < rt - (q : Int).toNat
        omega
    · obtain rfl : k = m := by omega
      have d1 : decide ((q : Int) < (rt : Int)) = false := decide_eq_false (by omega)
      have d2 : decide (q < rt) = false := decide_eq_false (by omega)
      go_wp2_with fail
      go_end0
      exact ⟨rfl, hWr, hor⟩
end Go.Proofs.Ytpjafocgabhieaa

/- cell.Mend of a row of plain cells (for DiffTells). -/
namespace Go.Proofs.Ytpjafocgabhieaa
open Go.RowKit Go.Sort
theorem pair_one {l : List Cl} (h : ∀ c ∈ l, oneC c = true) (i : Nat) : refPair l i = false := by
  unfold refPair
  split
  · rename_i c d h1 h2
    have h3 := h c (List.mem_of_getElem? h1)
    unfold oneC at h3
    simp only [Bool.and_eq_true, Bool.not_eq_true'] at h3
    unfold pairC
    simp [h3]
  · rfl
set_option maxRecDepth 100000 in
set_option maxHeartbeats 8000000 in
theorem mendG_one (ad : Addr) (n cp : Nat) (l : List Cl) (w : World) (h1 : 1 ≤ n) (hm : n ≤ 1000) (hS : RowS w (some ad) n cp l) (hone : ∀ c ∈ l, oneC c = true) :
    Calls Try.prog 51 #[.slice (some ad) n cp] w fun e w' => ∃ g, e = .returned (.slice (some ⟨g, 0, none⟩) n n) ∧ w.heap.size ≤ g ∧ RowW w' g n n l ∧ Below w.heap.size w w' := by
  obtain ⟨i1, ki, kz0, kz1, kz2⟩ := info_parts Try.info55
  have hln := hS.len
  obtain ⟨_, ea, hC⟩ := hS.some_ad' h1
  injection ea with ea
  subst ea
  have H1 := Lib.hid (show i1.bytes * n ≤ 281474976710656 by rw [kz2]; omega)
  have H2 := Lib.hid (show n ≤ maxLen by unfold maxLen; omega)
  go_enter Try.func51, Try.ntmps51
  go_upto_region 2 with (at_make; refine wpList_make_full _ rfl (.tmp 6) (.tmp 6) 30 rfl w.heap.size 55 i1 _ 4 Try.underlying30 ki kz0 kz1 .i64 .i64 n n n (by rfl) (by rfl) rfl rfl H1.out H2.out (Nat.le_refl _) ?_; intro w1 hO1 hg1)
  have hb1 : Below w.heap.size w w1 := (Below.refl _ _).grown hg1 (Nat.le_refl _) (fun q e => by cases e)
  obtain ⟨cur, hB1, hcs⟩ : ∃ cur, Blk w1 w.heap.size 55 cur ∧ cur.size = n * 4 := by
    rcases hO1.2 with ⟨e, _⟩ | ⟨g, cap, cur, e, _, hb, _, _, hs, _⟩
    · cases e
    · injection e with e1 _ e3
      injection e1 with e1
      injection e1 with e1
      subst e1 e3
      exact ⟨cur, hb, hs⟩
  have hcp := run_copy4 (dT := 30) (sT := 30) (ty := 3) w1 w.heap.size n n ad cp cur l Try.underlying30 hB1 hln (hC.below hb1) (by omega)
  have hW2 := RowW.laid hB1 hln (Nat.le_refl n) H2.out hS.ok (cur.toList.drop (n * 4))
  have hb2 := hb1.trans (only_below (only_setRow w1 w.heap.size (rowV l ++ cur.toList.drop (n * 4)).toArray) (Nat.le_refl _) hb1.size)
  clear hO1 hg1
  go_upto_region 3 with (at_builtin; refine Lib.wpList_copy_run _ rfl (.tmp 8) (.tmp 9) 30 30 rfl _ _ rfl rfl hcp ?_)
  clear hcp hB1 hb1 hcs
  generalize w1.setRow w.heap.size (rowV l ++ cur.toList.drop (n * 4)).toArray = w2 at *
  go_wp2_with fail
  go_loopw [4] (fun s4 wr => ∃ k : Nat, k ≤ n ∧ s4 = .int .i64 (k : Nat) ∧ RowW wr w.heap.size n n l ∧ Below w.heap.size w wr) (fun s4 _ => n - (intOf s4).toNat)
  case atStart => exact ⟨0, by omega, rfl, hW2, hb2⟩
  case round =>
    clear hW2 hb2
    obtain ⟨k, hk, rfl, hW, hb⟩ := hrel
    by_cases hlt : k < n
    · have d1 : decide ((k : Int) < (n : Int)) = true := decide_eq_true (by omega)
      have d2 : decide (k < n) = true := decide_eq_true hlt
      have d3 : (k : Int) < (n : Int) := by omega
      obtain ⟨c, hc⟩ : ∃ c, l[k]? = some c := ⟨_, List.getElem?_eq_getElem (by omega)⟩
      have hpr := paired_gen ad n cp k l wr hln (by omega) (hC.below hb) c hc
      rw [pair_one hone] at hpr
      obtain ⟨⟨c0, c1, c2, c3⟩, okc⟩ := hC k c hc
      have hsg := fun W => single_gen c okc W
      rw [hone c (List.mem_of_getElem? hc)] at hsg
      clear hc
      go_wp2_with (first
        | (go_at_call 59; refine hpr.mono ?_; rintro e w3 ⟨rfl, hb3⟩; have hb3' := hb.trans (hb3.mono hb.size); have x0 := keepc hb3' c0; have x1 := keepc hb3' c1; have x2 := keepc hb3' c2; have x3 := keepc hb3' c3)
        | (go_at_call 60; refine (hsg _).mono ?_; rintro e w4 ⟨rfl, hb4⟩; have hb4' := hb3'.trans (hb4.mono hb3'.size); have hW4 := (hW.below hb3).below hb4))
      go_roundw
      case rel => exact ⟨k + 1, hlt, by go_num, hW4, hb4'⟩
      case measure =>
        show n - ((k : Int) + 1).toNat < n - (k : Int).toNat
        omega
    · have d1 : decide ((k : Int) < (n : Int)) = false := decide_eq_false (by omega)
      have d2 : decide (k < n) = false := decide_eq_false hlt
      go_wp2_with fail
      go_ret
      exact ⟨_, rfl, Nat.le_refl _, hW, hb⟩
end Go.Proofs.Ytpjafocgabhieaa
