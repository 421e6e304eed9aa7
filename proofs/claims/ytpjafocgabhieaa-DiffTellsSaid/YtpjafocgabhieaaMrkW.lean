/- diff.marked and its closure: walked (for DiffTells). -/
import Derived.Test.YtpjafocgabhieaaMrkP
import Derived.Test.YtpjafocgabhieaaCelE
import Derived.Deep.OwnRows
namespace Go.Proofs.Ytpjafocgabhieaa
open Go.RowKit Go.Sort
theorem rowIs_grown {w w' : World} {b n : Nat} {t : TypeId} {f : Nat → Value} (h : w.rowIs b t n f) (hb : Below w.heap.size w w') : w'.rowIs b t n f := h.of_block (hb.block b h.lt)
theorem cel_set {w : World} {p q : Addr} {v u : Value} (h : w.cell? p = some v) (hne : p.block ≠ q.block) : (w.setCell q u).cell? p = some v := by
  rw [World.cell?_setCell_other _ _ _ _ (fun e => hne (by rw [e]))]
  exact h
theorem Cels.set {w : World} {ad : Addr} {l : List Cl} (h : Cels w ad l) {q : Addr} (hne : ad.block ≠ q.block) (u : Value) : Cels (w.setCell q u) ad l := fun k c hc => by
  obtain ⟨⟨c0, c1, c2, c3⟩, ok⟩ := h k c hc
  have hb : (ad.add (k * 4)).block ≠ q.block := by
    rw [block_add]
    exact hne
  exact ⟨⟨cel_set c0 hb, cel_set c1 hb, cel_set c2 hb, cel_set c3 hb⟩, ok⟩
set_option maxRecDepth 100000 in
set_option maxHeartbeats 4000000 in
theorem mark_any (F BF BR n cp x : Nat) (ad : Addr) (l : List Cl) (f : Nat → Bool) (w : World) (hl : l.length = n) (hn : n ≤ 200) (hx : x < n)
    (hF : w.rowIs F 4 n (fun i => .bool (f i))) (hBF : Blk w BF 68 #[.slice (some ⟨F, 0, none⟩) n n]) (hBR : Blk w BR 30 #[.slice (some ad) n cp]) (hC : Cels w ad l) (h1 : BF ≠ F) (h2 : BR ≠ F) (h3 : ad.block ≠ F) (hr : rightP l = true) :
    Calls Try.prog 71 #[.int .i64 (x : Nat), .pointer (some ⟨BF, 0, none⟩), .pointer (some ⟨BR, 0, none⟩)] w fun e w' => e = .returned (.tuple #[]) ∧ w'.rowIs F 4 n (fun i => .bool (markF l x f i)) ∧ Only F w w' := by
  obtain ⟨c, hc⟩ : ∃ c, l[x]? = some c := ⟨_, List.getElem?_eq_getElem (by omega)⟩
  obtain ⟨hck, hcw, hct⟩ := right_at hr hc
  obtain ⟨⟨_, _, _, c3⟩, ok⟩ := hC x c hc
  have hw0 : wideAt l x = wideC c := by unfold wideAt; rw [hc]
  have ht0 : tailAt l x = tailC c := by unfold tailAt; rw [hc]
  have b64 := bits64 ok
  have b128 := bits128 ok
  have d1 : decide ((x : Int) < (n : Int)) = true := decide_eq_true (by omega)
  have d2 : decide (x < n) = true := decide_eq_true hx
  have d3 : (x : Int) < (n : Int) := by omega
  have z0 : w.cell? ⟨BF, 0, none⟩ = some (.slice (some ⟨F, 0, none⟩) n n) := hBF.cell 0
  have z1 : w.cell? ⟨F, x, none⟩ = some (.bool (f x)) := hF.cell hx
  have z2 : w.frozen? ⟨F, x, none⟩ = false := hF.frozen x
  obtain ⟨w1, hw1⟩ : ∃ w1, w.setCell ⟨F, x, none⟩ (.bool true) = w1 := ⟨_, rfl⟩
  have hF1 := hF.set x (.bool true)
  have hBF1 := hBF.far (p := ⟨F, x, none⟩) h1 (.bool true)
  have hBR1 := hBR.far (p := ⟨F, x, none⟩) h2 (.bool true)
  have e3 := cel_set (u := .bool true) (q := ⟨F, x, none⟩) c3 (by rw [block_add]; exact h3)
  have ho1 : Only F w (w.setCell ⟨F, x, none⟩ (.bool true)) := only_set (only_refl F w) x _
  rw [hw1] at hF1 hBF1 hBR1 e3 ho1
  have y0 : w1.cell? ⟨BF, 0, none⟩ = some (.slice (some ⟨F, 0, none⟩) n n) := hBF1.cell 0
  have y1 : w1.cell? ⟨BR, 0, none⟩ = some (.slice (some ad) n cp) := hBR1.cell 0
  cases hw : wideC c with
  | true =>
    have hx2 : x + 1 < n := by
      have := (List.getElem?_eq_some_iff.1 (hcw hw)).1
      omega
    have i1 : wrap64 ((x : Int) + 1) = ((x + 1 : Nat) : Int) := by
      unfold wrap64
      omega
    have d4 : decide ((x : Int) + 1 < (n : Int)) = true := decide_eq_true (by omega)
    have d5 : (0 : Int) ≤ (x : Int) + 1 := by omega
    have d6 : (x : Int) + 1 < (n : Int) := by omega
    have i2 : ((x : Int) + 1).toNat = x + 1 := by omega
    have y2 : w1.cell? ⟨F, x + 1, none⟩ = some (.bool (if x + 1 = x then true else f (x + 1))) := by
      have := hF1.cell hx2
      rw [this]
      simp
    have y3 : w1.frozen? ⟨F, x + 1, none⟩ = false := hF1.frozen (x + 1)
    have hF2 := hF1.set (x + 1) (.bool true)
    have ho2 := only_set ho1 (x + 1) (.bool true)
    rw [hw] at b64 hw0
    simp only [if_true] at b64
    clear c3 hBF hBR hBF1 hBR1 hC hcw hct hck hc hr
    go_enter Try.func71, Try.ntmps71
    go_wp2_with fail
    go_end0
    refine ⟨rfl, hF2.congr (fun i _ => ?_), ho2⟩
    unfold markF
    rw [hw0]
    by_cases e1 : i = x + 1
    · simp [e1]
    · by_cases e2 : i = x
      · simp [e2]
      · simp [e1, e2]
  | false =>
    rw [hw] at b64 hw0
    simp only [Bool.false_eq_true, if_false] at b64
    cases ht : tailC c with
    | true =>
      have hx2 : 1 ≤ x := by
        obtain ⟨j, _, h, _⟩ := hct ht
        omega
      have i1 : wrap64 ((x : Int) - 1) = ((x - 1 : Nat) : Int) := by
        unfold wrap64
        omega
      have i3 : (x : Int) - 1 = ((x - 1 : Nat) : Int) := by omega
      have d4 : decide ((x : Int) - 1 < (n : Int)) = true := decide_eq_true (by omega)
      have d5 : (0 : Int) ≤ (x : Int) - 1 := by omega
      have d6 : (x : Int) - 1 < (n : Int) := by omega
      have d7 : ((x - 1 : Nat) : Int) < (n : Int) := by omega
      have d8 : x - 1 < n := by omega
      have d9 : decide (((x - 1 : Nat) : Int) < (n : Int)) = true := decide_eq_true d7
      have i2 : ((x : Int) - 1).toNat = x - 1 := by omega
      have y2 : w1.cell? ⟨F, x - 1, none⟩ = some (.bool (f (x - 1))) := by
        have := hF1.cell d8
        rw [this, if_neg (by omega)]
      have y3 : w1.frozen? ⟨F, x - 1, none⟩ = false := hF1.frozen (x - 1)
      have hF2 := hF1.set (x - 1) (.bool true)
      have ho2 := only_set ho1 (x - 1) (.bool true)
      rw [ht] at b128 ht0
      simp only [if_true] at b128
      clear c3 hBF hBR hBF1 hBR1 hC hcw hct hck hc hr
      go_enter Try.func71, Try.ntmps71
      go_wp2_with fail
      go_end0
      refine ⟨rfl, hF2.congr (fun i _ => ?_), ho2⟩
      unfold markF
      rw [hw0, ht0]
      by_cases e1 : i = x - 1
      · have e4 : x - 1 + 1 = x := by omega
        simp [e1, e4]
      · have e3 : ¬ i + 1 = x := by omega
        by_cases e2 : i = x
        · simp [e2]
        · simp [e1, e2, e3]
    | false =>
      rw [ht] at b128 ht0
      simp only [Bool.false_eq_true, if_false] at b128
      clear c3 hBF hBR hBF1 hBR1 hC hcw hct hck hc hr
      go_enter Try.func71, Try.ntmps71
      go_wp2_with fail
      go_end0
      refine ⟨rfl, hF1.congr (fun i _ => ?_), ho1⟩
      unfold markF
      rw [hw0, ht0]
      by_cases e2 : i = x
      · simp [e2]
      · simp [e2]
/-- The relation of marked's loop. -/
structure MrkR (w wr : World) (F BF BR n cp : Nat) (ar : Addr) (o l : List Cl) (k : Nat) : Prop where
  f : wr.rowIs F 4 n (fun i => .bool (freshK o l k i))
  bf : Blk wr BF 68 #[.slice (some ⟨F, 0, none⟩) n n]
  br : Blk wr BR 30 #[.slice (some ar) n cp]
  below : Below w.heap.size w wr
set_option maxRecDepth 100000 in
set_option maxHeartbeats 4000000 in
theorem marked_gen (ao ar : Addr) (n co cp : Nat) (o l : List Cl) (w : World) (hn0 : 1 ≤ n) (hn : n ≤ 200) (ho : RowS w (some ao) n co o) (hl : RowS w (some ar) n cp l) (hr : rightP l = true) :
    Calls Try.prog 56 #[.slice (some ao) n co, .slice (some ar) n cp] w fun e w' => ∃ F, e = .returned (.slice (some ⟨F, 0, none⟩) n n) ∧ w.heap.size ≤ F ∧ w'.rowIs F 4 n (fun i => .bool (freshG o l i)) ∧ Below w.heap.size w w' := by
  obtain ⟨j0, hj, hy0, hy1, hy2⟩ := info_parts (show (Try.prog.info? 4).map (fun i => (i.zero, i.size, i.bytes)) = some (some (.bool false), 1, 1) from by kernel_rfl)
  have HB : RowKit.Hid (j0.bytes * n ≤ 281474976710656) := Lib.hid (by rw [hy2]; omega)
  have H63 : RowKit.Hid (n ≤ 9223372036854775807) := Lib.hid (by omega)
  have hBR := Blk.new w 30 #[.slice (some ar) n cp]
  have hb0 := (Below.refl w.heap.size w).alloc (Nat.le_refl _) (.cells #[.slice (some ar) n cp] 30)
  have k0 : (w.alloc (.cells #[.slice (some ar) n cp] 30)).cell? ⟨w.heap.size, 0, none⟩ = some (.slice (some ar) n cp) := hBR.cell 0
  obtain ⟨W1, hW1⟩ : ∃ W1, w.alloc (.cells #[.slice (some ar) n cp] 30) = W1 := ⟨_, rfl⟩
  have hs1 : W1.heap.size = w.heap.size + 1 := by rw [← hW1]; simp
  rw [hW1] at hBR hb0 k0
  have hR2 := World.rowIs_made W1 (.bool false) n 4
  have hbm := (Below.refl W1.heap.size W1).alloc (Nat.le_refl _) (.cells (madeCells #[.bool false] n) 4)
  obtain ⟨W2, hW2⟩ : ∃ W2, W1.alloc (.cells (madeCells #[.bool false] n) 4) = W2 := ⟨_, rfl⟩
  have hs2 : W2.heap.size = w.heap.size + 2 := by rw [← hW2]; simp [hs1]
  rw [hW2] at hR2 hbm
  have hBR2 := hBR.below hbm hBR.lt
  have hBF := Blk.new W2 68 #[.slice (some ⟨w.heap.size + 1, 0, none⟩) n n]
  have hbF := (Below.refl W2.heap.size W2).alloc (Nat.le_refl _) (.cells #[.slice (some ⟨w.heap.size + 1, 0, none⟩) n n] 68)
  rw [hs1] at hR2
  rw [hs2] at hBF
  have HO := Lib.hid ho
  have HL := Lib.hid hl
  have HR := Lib.hid hr
  clear ho hl hr
  go_enter Try.func56, Try.ntmps56
  go_upto_region 2 with (at_make; refine wpList_make_row _ rfl (.tmp 9) (.tmp 9) 68 rfl 4 j0 (.bool false) Try.underlying68 hj hy0 hy1 rfl .i64 .i64 n ?h1 ?h2 HB.out H63.out ?_; (case h1 => go_simp); (case h2 => go_simp); try rw [hW2])
  have hF3 := hR2.alloc (.cells #[.slice (some ⟨w.heap.size + 1, 0, none⟩) n n] 68)
  have hBR3 := hBR2.below hbF hBR2.lt
  have hb3 : Below w.heap.size w (W2.alloc (.cells #[.slice (some ⟨w.heap.size + 1, 0, none⟩) n n] 68)) := (hb0.trans (hbm.mono hb0.size)).trans (hbF.mono (by rw [hs2]; omega))
  generalize W2.alloc (.cells #[.slice (some ⟨w.heap.size + 1, 0, none⟩) n n] 68) = W3 at hBF hF3 hBR3 hb3 ⊢
  have hM : MrkR w W3 (w.heap.size + 1) (w.heap.size + 2) w.heap.size n cp ar o l 0 := ⟨hF3.congr (fun i _ => by rw [freshK_0]), hBF, hBR3, hb3⟩
  have q0 : W3.cell? ⟨w.heap.size, 0, none⟩ = some (.slice (some ar) n cp) := hBR3.cell 0
  have har : ar.block < w.heap.size := by
    obtain ⟨ad', he, hC⟩ := HL.out.row (by rw [HL.out.len]; omega)
    injection he with he
    subst he
    obtain ⟨c, hc⟩ : ∃ c, l[0]? = some c := ⟨_, List.getElem?_eq_getElem (by rw [HL.out.len]; omega)⟩
    have := World.block_lt_of_cell? w _ (hC 0 c hc).1.c0
    rw [block_add] at this
    exact this
  have hCl : Cels w ar l := by
    obtain ⟨ad', he, hC⟩ := HL.out.row (by rw [HL.out.len]; omega)
    injection he with he
    subst he
    exact hC
  have hCo : Cels w ao o := by
    obtain ⟨ad', he, hC⟩ := HO.out.row (by rw [HO.out.len]; omega)
    injection he with he
    subst he
    exact hC
  clear hF3 hBR3 hb3 hBF hbF hBR2 hbm hR2 hW2 hW1 k0 hb0 hBR HB H63 hj hy0 hy1 hy2 hs1 hs2
  go_wp2_with fail
  go_loopw [14] (fun s14 wr => ∃ k : Nat, k ≤ n ∧ s14 = .int .i64 (k : Nat) ∧ MrkR w wr (w.heap.size + 1) (w.heap.size + 2) w.heap.size n cp ar o l k) (fun s14 _ => n - (intOf s14).toNat)
  case atStart => exact ⟨0, by omega, rfl, hM⟩
  case round =>
    clear hM q0
    obtain ⟨k, hk, rfl, hMr⟩ := hrel
    have hBRr := hMr.br
    have hBFr := hMr.bf
    by_cases hlt : k < n
    · have d1 : decide ((k : Int) < (n : Int)) = true := decide_eq_true (by omega)
      have d2 : decide (k < n) = true := decide_eq_true hlt
      have d3 : (k : Int) < (n : Int) := by omega
      obtain ⟨c, hc⟩ : ∃ c, o[k]? = some c := ⟨_, List.getElem?_eq_getElem (by rw [HO.out.len]; exact hlt)⟩
      obtain ⟨d, hd⟩ : ∃ d, l[k]? = some d := ⟨_, List.getElem?_eq_getElem (by rw [HL.out.len]; exact hlt)⟩
      have hClr : Cels wr ar l := hCl.below hMr.below
      obtain ⟨⟨c0, c1, c2, c3⟩, _⟩ := hCo.below hMr.below k c hc
      obtain ⟨⟨e0, e1, e2, e3⟩, _⟩ := hClr k d hd
      have x0 := cell_regrown c0
      have x1 := cell_regrown c1
      have x2 := cell_regrown c2
      have x3 := cell_regrown c3
      have y0 := cell_regrown e0
      have y1 := cell_regrown e1
      have y2 := cell_regrown e2
      have y3 := cell_regrown e3
      have z0 : ∀ d os, (grow (redrawn wr d) os).cell? ⟨w.heap.size, 0, none⟩ = some (.slice (some ar) n cp) := cell_regrown (hBRr.cell 0)
      have hqe := fun W => neq_cell d c W
      have HE := Lib.hid (neq_eq hc hd)
      clear c0 c1 c2 c3 e0 e1 e2 e3
      cases hq : neqAt o l k with
      | false =>
        rw [← HE.out, hq] at hqe
        have HS := Lib.hid (fun i => freshK_same o l k i hq)
        clear hq
        go_upto_region 6 with fail
        refine wp_region_quiet_below (by kernel_rfl) (by kernel_rfl) ?_
        repeat (first | go_big_quiet_step (fail) | quiet_step (fail))
        refine wpQuiet_nil ?_
        intro _ hw'
        obtain ⟨⟨dq, osq⟩, hw''⟩ := hw'
        subst hw''
        have hbq := below_regrown wr dq osq
        have hMq : MrkR w (grow (redrawn wr dq) osq) (w.heap.size + 1) (w.heap.size + 2) w.heap.size n cp ar o l (k + 1) := ⟨(rowIs_grown hMr.f hbq).congr (fun i _ => by rw [HS.out i]), hMr.bf.below hbq hMr.bf.lt, hMr.br.below hbq hMr.br.lt, hMr.below.trans (hbq.mono hMr.below.size)⟩
        clear x0 x1 x2 x3 y0 y1 y2 y3 z0 hqe
        go_wp2_with fail
        go_roundw
        case rel => exact ⟨k + 1, hlt, by go_num, hMq⟩
        case measure => simp [intOf]; omega
      | true =>
        rw [← HE.out, hq] at hqe
        have HS := Lib.hid (fun i => freshK_mark o l k i hq)
        clear hq
        go_upto_region 6 with fail
        refine wp_region_quiet_below (by kernel_rfl) (by kernel_rfl) ?_
        repeat (first | go_big_quiet_step (fail) | quiet_step (fail))
        refine wpQuiet_nil ?_
        intro _ hw'
        obtain ⟨⟨dq, osq⟩, hw''⟩ := hw'
        subst hw''
        have hbq := below_regrown wr dq osq
        have hFq := rowIs_grown hMr.f hbq
        have hBFq := hMr.bf.below hbq hMr.bf.lt
        have hBRq := hMr.br.below hbq hMr.br.lt
        have hClq := hClr.below hbq
        have hbw := hMr.below.trans (hbq.mono hMr.below.size)
        clear x0 x1 x2 x3 y0 y1 y2 y3 z0 hqe hClr hbq
        generalize grow (redrawn wr dq) osq = wq at hFq hBFq hBRq hClq hbw ⊢
        have hmark := mark_any (w.heap.size + 1) (w.heap.size + 2) w.heap.size n cp k ar l (freshK o l k) wq HL.out.len hn hlt hFq hBFq hBRq hClq (by omega) (by omega) (by omega) HR.out
        go_wp2_with fail
        refine hmark.mono ?_
        rintro e w5 ⟨rfl, hF5, ho5⟩
        have hMq : MrkR w w5 (w.heap.size + 1) (w.heap.size + 2) w.heap.size n cp ar o l (k + 1) := ⟨hF5.congr (fun i _ => by rw [HS.out i]), hBFq.grown ho5 (fun e => by injection e; omega), hBRq.grown ho5 (fun e => by injection e; omega), hbw.grown ho5 hbw.size (fun q hq => by injection hq; omega)⟩
        go_wp2_with fail
        go_roundw
        case rel => exact ⟨k + 1, hlt, by go_num, hMq⟩
        case measure => simp [intOf]; omega
    · have d1 : decide ((k : Int) < (n : Int)) = false := decide_eq_false (by omega)
      have d2 : decide (k < n) = false := decide_eq_false hlt
      obtain rfl : k = n := by omega
      have z0 : wr.cell? ⟨w.heap.size + 2, 0, none⟩ = some (.slice (some ⟨w.heap.size + 1, 0, none⟩) k k) := hBFr.cell 0
      go_wp2_with fail
      go_ret
      refine ⟨w.heap.size + 1, rfl, by omega, hMr.f.congr (fun i hi => ?_), hMr.below⟩
      have h := freshK_all o l i (by rw [HL.out.len]; exact hi)
      rw [HL.out.len] at h
      rw [h]
end Go.Proofs.Ytpjafocgabhieaa
