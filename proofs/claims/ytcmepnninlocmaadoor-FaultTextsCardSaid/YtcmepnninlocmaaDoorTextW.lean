/- fault.Text, walked: a fault's text is the plain tree's. -/
import Derived.Test.YtcmepnninlocmaaDoorFtL
import Derived.Test.YtcmepnninlocmaaDoorBldW
import Derived.Test.YtcmepnninlocmaaDoorShelf
import Derived.Lib.LaidTab
import Derived.WalkMore
import Derived.Lib.AppendIntMem
namespace Go.Proofs.YtcmepnninlocmaaDoor
open Go.RowKit
theorem isBuilder_below {T e : TypeId} {B b : Nat} {bs : List Value} {w w' : World} (h : Lib.IsBuilder T e B b bs w) (hb : Below w.heap.size w w') : Lib.IsBuilder T e B b bs w' := by
  have one : ∀ p, Lib.BuilderAt T e B b p bs w → Lib.BuilderAt T e B b p bs w' := fun p h => by
    obtain ⟨hB, v, hbk, hown, hne⟩ := h
    have hlt : b < w.heap.size := (Array.getElem?_eq_some_iff.1 hbk).1
    exact ⟨hB, v, (hb.block b hlt).trans hbk, hown.kept (⟨hb.os, hb.tape, hb.output, hb.size, fun k hk _ => hb.block k hk⟩ : w.grownBy w' (some w.heap.size)) (.inr fun e => by have := (hown.lt _ e).2; omega), hne⟩
  rcases h with h | h
  · exact .inl (one _ h)
  · exact .inr (one _ h)
/-- The table of the numbers' texts. -/
def Tab10 (w : World) : Prop := Lib.TabIs Tryd.prog w "internal/strconv.uint64pow10" .u64 Lib.pow10Tab
theorem tab10_below {w w' : World} (h : Tab10 w) (hb : Below w.heap.size w w') : Tab10 w' := by
  unfold Tab10 Lib.TabIs World.var? at h ⊢
  rw [show Tryd.prog.globalNamed "internal/strconv.uint64pow10" = some 1 from by kernel_rfl] at h ⊢
  simp only [Option.bind_some] at h ⊢
  have hlt : 1 < w.heap.size := by
    rcases Nat.lt_or_ge 1 w.heap.size with h' | h'
    · exact h'
    · rw [Array.getElem?_eq_none h'] at h; cases h
  rw [hb.block 1 hlt]
  exact h
theorem strCells_of (s : ByteArray) : Lib.strCells s = Lib.byteCells s.data.toList := rfl
theorem itoa_any (n : Int) (h0 : -9223372036854775808 ≤ n) (h1 : n ≤ 9223372036854775807) (w : World) (hT : Tab10 w) :
    Calls Tryd.prog 21 #[.int .i64 n] w fun e w' => e = .returned (.string ⟨(Lib.itoa n).toArray⟩) ∧ Below w.heap.size w w' :=
  (Tryd.strconv_Itoa n h0 h1 w hT).mono fun e w' ⟨he, k, os, hw⟩ => ⟨he, by subst hw; exact Lib.below_grow w.heap.size w (Nat.le_refl _) k os⟩
theorem len_txts (w : World) : ∀ (es : List Ft) (us : List Value), FtsAt w es us → es.length ≤ (txts 0 es).length ∧ ∀ k, es.length ≤ (txts (k + 1) es).length
  | [], us, h => by simp
  | e :: es, us, h => by
    unfold FtsAt at h
    obtain ⟨u, us', rfl, h2, h3⟩ := h
    have h4 := Ft.pos e w u h2
    have h5 := (len_txts w es us' h3).2
    refine ⟨?_, fun k => ?_⟩
    · have := h5 0
      unfold txts
      rw [List.length_append, List.length_append, List.length_cons]
      simp only [Nat.zero_add] at this ⊢
      omega
    · have := h5 (k + 1)
      unfold txts
      rw [List.length_append, List.length_append, List.length_cons]
      omega
theorem txts_take_len : ∀ (es : List Ft) (k i : Nat), (txts k (es.take i)).length ≤ (txts k es).length
  | [], k, i => by simp
  | e :: es, k, 0 => by simp [txts]
  | e :: es, k, i + 1 => by
    have := txts_take_len es (k + 1) i
    simp only [List.take_succ_cons, txts, List.length_append]
    omega
theorem bsize (l : List UInt8) : (⟨l.toArray⟩ : ByteArray).size = l.length := by
  show l.toArray.size = _
  simp
theorem bcl (l : List UInt8) : (Lib.byteCells l).length = l.length := List.length_map _
theorem cells_add (acc l : List UInt8) : Lib.byteCells acc ++ Lib.strCells ⟨l.toArray⟩ = Lib.byteCells (acc ++ l) := by
  rw [strCells_of]
  simp [Lib.byteCells]
theorem asPP (v : Value) (w : World) : (Instr.typeAssert (.iface 57 v) 29 57 true).run Tryd.prog w = .ok (.tuple #[v, .bool true]) w := by kernel_rfl
theorem asWW (v : Value) (w : World) : (Instr.typeAssert (.iface 63 v) 29 63 true).run Tryd.prog w = .ok (.tuple #[v, .bool true]) w := by kernel_rfl
theorem asRR (v : Value) (w : World) : (Instr.typeAssert (.iface 50 v) 29 50 true).run Tryd.prog w = .ok (.tuple #[v, .bool true]) w := by kernel_rfl
theorem asEP (v : Value) (w : World) : (Instr.typeAssert (.iface 34 v) 29 57 true).run Tryd.prog w = .ok (.tuple #[.pointer none, .bool false]) w := by kernel_rfl
theorem asEW (v : Value) (w : World) : (Instr.typeAssert (.iface 34 v) 29 63 true).run Tryd.prog w = .ok (.tuple #[.pointer none, .bool false]) w := by kernel_rfl
theorem asER (v : Value) (w : World) : (Instr.typeAssert (.iface 34 v) 29 50 true).run Tryd.prog w = .ok (.tuple #[.pointer none, .bool false]) w := by kernel_rfl
theorem asWP (v : Value) (w : World) : (Instr.typeAssert (.iface 63 v) 29 57 true).run Tryd.prog w = .ok (.tuple #[.pointer none, .bool false]) w := by kernel_rfl
theorem asRP (v : Value) (w : World) : (Instr.typeAssert (.iface 50 v) 29 57 true).run Tryd.prog w = .ok (.tuple #[.pointer none, .bool false]) w := by kernel_rfl
theorem asRW (v : Value) (w : World) : (Instr.typeAssert (.iface 50 v) 29 63 true).run Tryd.prog w = .ok (.tuple #[.pointer none, .bool false]) w := by kernel_rfl
theorem mErr (c : Int) (w : World) : (Go.method 252 34 (.int .i64 c) "Error").run Tryd.prog w = .ok (70, .int .i64 c) w := by kernel_rfl
set_option maxRecDepth 100000 in
set_option maxHeartbeats 1000000 in
theorem text_nil (w : World) : Calls Tryd.prog 8 #[.nilIface] w fun e w' => e = .returned (.string ⟨#[]⟩) ∧ Below w.heap.size w w' := by
  have hI := Lib.fresh_isBuilder 56 5 w
  have hb0 : Below w.heap.size w (w.alloc (.cells #[.pointer none, .slice none 0 0] 56)) := (Below.refl _ _).alloc (Nat.le_refl _) _
  go_enter Tryd.func8, Tryd.ntmps8
  go_wp2_with fail
  go_step3
  go_wp2_with fail
  go_step3
  go_wp2_with fail
  refine wp_loop_rounds 1 ?_
  rw [rounds_succ]
  go_wp2_with fail
  refine (Tryd.Builder_String_empty w.heap.size w.heap.size _ hI (by simp)).mono ?_
  rintro e w2 ⟨rfl, hb2⟩
  go_wp2_with fail
  rw [Exit.noGoto_ret]
  go_ret
  exact ⟨rfl, hb0.trans hb2⟩
set_option maxRecDepth 100000 in
set_option maxHeartbeats 4000000 in
theorem text_any : ∀ (n : Nat) (F : Ft) (v : Value) (w : World), F.size ≤ n → FtAt w F v → Tab10 w → F.txt.length ≤ 1000000000 →
    Calls Tryd.prog 8 #[v] w fun e w' => e = .returned (.string ⟨F.txt.toArray⟩) ∧ Below w.heap.size w w' := by
  intro n
  induction n with
  | zero => intro F v w hn; cases F <;> simp [Ft.size] at hn
  | succ n ih =>
    intro F v w hn hF hT hl
    have hI := Lib.fresh_isBuilder 56 5 w
    have hb0 : Below w.heap.size w (w.alloc (.cells #[.pointer none, .slice none 0 0] 56)) := (Below.refl _ _).alloc (Nat.le_refl _) _
    have HI := Lib.hid hI
    clear hI
    go_enter Tryd.func8, Tryd.ntmps8
    go_wp2_with fail
    go_step3
    go_wp2_with fail
    go_step3
    go_wp2_with fail
    go_loopw [0, 4, 5, 6, 7, 8, 9] (fun s0 _ _ _ _ _ _ wr => ∃ (F' : Ft) (acc : List UInt8), FtAt w F' s0 ∧ acc ++ F'.txt = F.txt ∧ F'.size ≤ F.size ∧ Lib.IsBuilder 56 5 w.heap.size w.heap.size (Lib.byteCells acc) wr ∧ Below w.heap.size w wr) (fun s0 _ _ _ _ _ _ _ => meaF w s0)
    case atStart => exact ⟨F, [], hF, rfl, Nat.le_refl _, HI.out, hb0⟩
    case round =>
      obtain ⟨F', acc, hF', hacc, hsz, hIr, hbr⟩ := hrel
      have hsb : Lib.byteCells acc = acc.map fun b => Value.int .u8 b.toNat := rfl
      have hal : acc.length + F'.txt.length = F.txt.length := by rw [← hacc, List.length_append]
      have HA := Lib.hid hacc
      clear hacc hsb
      cases F' with
      | code c =>
        unfold FtAt at hF'
        obtain ⟨rfl, hc0, hc1⟩ := hF'
        have mE := mErr c
        have a1 := asEP
        have a2 := asEW
        have a3 := asER
        have hle := errL_len c ⟨hc0, hc1⟩
        have hel : (Ft.code c).txt = errL c := by simp [Ft.txt]
        rw [hel] at hal HA
        clear hel
        go_wp2_with fail
        refine (errno_any c _ hc0 hc1).mono ?_
        rintro e w2 ⟨rfl, hb2⟩
        have hI2 := isBuilder_below hIr hb2
        have hb3 := hbr.trans (hb2.mono hbr.size)
        go_wp2_with fail
        refine (writeString_any w.heap.size w.heap.size (Lib.byteCells acc) ⟨(errL c).toArray⟩ _ hI2 (by rw [bsize, bcl]; omega) hb3.size).mono ?_
        rintro e w4 ⟨rfl, hI4, hb4⟩
        have hI5 : Lib.IsBuilder 56 5 w.heap.size w.heap.size (Lib.byteCells F.txt) w4 := .inr (by rw [← HA.out, ← cells_add]; exact hI4)
        go_wp2_with fail
        refine (Tryd.Builder_String_any w.heap.size w.heap.size F.txt _ hI5 (by have := hb3.size; have := hb4.size; omega)).mono ?_
        rintro e w6 ⟨rfl, hb6⟩
        go_wp2_with fail
        rw [Exit.noGoto_ret]
        go_ret
        exact ⟨rfl, (hb3.trans hb4).trans hb6⟩
      | placed e n =>
        unfold FtAt at hF'
        obtain ⟨g, u, rfl, hBg, ⟨hn0, hn1⟩, hFu⟩ := hF'
        have a1 := asPP
        have hBr := hBg.below hbr hBg.lt
        have c1 : wr.cell? ⟨g, 1, none⟩ = some (.int .i64 n) := hBr.cell 1
        have hTr := tab10_below hT hbr
        have hil := Lib.itoa_length_le n hn0 hn1
        have hel : (Ft.placed e n).txt = ([97, 116, 32] ++ Lib.itoa n ++ [58, 32]) ++ e.txt := by simp [Ft.txt]
        have hsz' : e.size + 1 ≤ F.size := by simpa [Ft.size] using hsz
        have hm1 := meaF_eq hFu
        have hm2 := meaF_eq (w := w) (F := Ft.placed e n) (v := .iface 57 (.pointer (some ⟨g, 0, none⟩))) (by unfold FtAt; exact ⟨g, u, rfl, hBg, ⟨hn0, hn1⟩, hFu⟩)
        rw [hel] at hal HA
        have HM1 := Lib.hid hm1
        have HM2 := Lib.hid hm2
        obtain ⟨L, hL⟩ : ∃ L, L = [97, 116, 32] ++ Lib.itoa n ++ [58, 32] := ⟨_, rfl⟩
        rw [← hL] at hal HA
        have hLl : L.length ≤ 30 := by rw [hL]; simp; omega
        have HL := Lib.hid hL
        clear hel hm1 hm2 hL
        go_wp2_with fail
        refine (itoa_any n hn0 hn1 _ hTr).mono ?_
        rintro e1 w2 ⟨rfl, hb2⟩
        have hI2 := isBuilder_below hIr hb2
        have hb3 := hbr.trans (hb2.mono hbr.size)
        have c0 : w2.cell? ⟨g, 0, none⟩ = some u := (hBr.below hb2 hBr.lt).cell 0
        clear c1
        go_wp2_with fail
        have hS : ((⟨#[97, 116, 32]⟩ : ByteArray) ++ ⟨(Lib.itoa n).toArray⟩ ++ ⟨#[58, 32]⟩) = ⟨L.toArray⟩ := by
          rw [HL.out, ← ba_append, ← ba_append]
        rw [hS]
        clear hS
        refine (writeString_any w.heap.size w.heap.size (Lib.byteCells acc) ⟨L.toArray⟩ _ hI2 (by rw [bsize, bcl]; rw [List.length_append] at hal; omega) hb3.size).mono ?_
        rintro e1 w4 ⟨rfl, hI4, hb4⟩
        have hI5 : Lib.IsBuilder 56 5 w.heap.size w.heap.size (Lib.byteCells (acc ++ L)) w4 := .inr (by rw [← cells_add]; exact hI4)
        have hb5 := hb3.trans hb4
        have d0 : w4.cell? ⟨g, 0, none⟩ = some u := (hBg.below hb5 hBg.lt).cell 0
        clear c0
        go_wp2_with fail
        go_roundw
        case rel => exact ⟨e, acc ++ L, hFu, by rw [List.append_assoc]; exact HA.out, by omega, hI5, hb5⟩
        case measure =>
          have m1 := HM1.out
          have m2 := HM2.out
          simp [Ft.size] at m1 m2 ⊢
          omega
      | worded e s =>
        unfold FtAt at hF'
        obtain ⟨g, u, rfl, hBg, hFu⟩ := hF'
        have a1 := asWP
        have a2 := asWW
        have hBr := hBg.below hbr hBg.lt
        have c1 : wr.cell? ⟨g, 1, none⟩ = some (.string s) := hBr.cell 1
        have hel : (Ft.worded e s).txt = (s.data.toList ++ [58, 32]) ++ e.txt := by simp [Ft.txt]
        have hsz' : e.size + 1 ≤ F.size := by simpa [Ft.size] using hsz
        have hm1 := meaF_eq hFu
        have hm2 := meaF_eq (w := w) (F := Ft.worded e s) (v := .iface 63 (.pointer (some ⟨g, 0, none⟩))) (by unfold FtAt; exact ⟨g, u, rfl, hBg, hFu⟩)
        rw [hel] at hal HA
        have HM1 := Lib.hid hm1
        have HM2 := Lib.hid hm2
        obtain ⟨L, hL⟩ : ∃ L, L = s.data.toList ++ [58, 32] := ⟨_, rfl⟩
        rw [← hL] at hal HA
        have hss : s.size + 2 = L.length := by rw [hL, List.length_append]; rfl
        have HL := Lib.hid hL
        clear hel hm1 hm2 hL
        have hS : s ++ ⟨#[58, 32]⟩ = ⟨L.toArray⟩ := by
          rw [HL.out, ← ba_append, ba_of]
        have hs9 : s.size ≤ 1000000000 := by rw [List.length_append] at hal; omega
        go_wp2_with fail
        clear hS
        refine (writeString_any w.heap.size w.heap.size (Lib.byteCells acc) ⟨L.toArray⟩ _ hIr (by rw [bsize, bcl]; rw [List.length_append] at hal; omega) hbr.size).mono ?_
        rintro e1 w4 ⟨rfl, hI4, hb4⟩
        have hI5 : Lib.IsBuilder 56 5 w.heap.size w.heap.size (Lib.byteCells (acc ++ L)) w4 := .inr (by rw [← cells_add]; exact hI4)
        have hb5 := hbr.trans hb4
        have d0 : w4.cell? ⟨g, 0, none⟩ = some u := (hBg.below hb5 hBg.lt).cell 0
        clear c1
        go_wp2_with fail
        go_roundw
        case rel => exact ⟨e, acc ++ L, hFu, by rw [List.append_assoc]; exact HA.out, by omega, hI5, hb5⟩
        case measure =>
          have m1 := HM1.out
          have m2 := HM2.out
          simp [Ft.size] at m1 m2 ⊢
          omega
      | row es =>
        unfold FtAt at hF'
        obtain ⟨g, A, c, us, rfl, hBg, hne, hul, hA, hFs⟩ := hF'
        have a1 := asRP
        have a2 := asRW
        have a3 := asRR
        have hBr := hBg.below hbr hBg.lt
        have c0 : wr.cell? ⟨g, 0, none⟩ = some (.slice A es.length c) := hBr.cell 0
        have hel : (Ft.row es).txt = txts 0 es := by simp [Ft.txt]
        have hsz' : sizes es + 1 ≤ F.size := by simpa [Ft.size] using hsz
        rw [hel] at hal HA
        have hln : es.length ≤ 1000000000 := by
          have := (len_txts w es us hFs).1
          omega
        clear hel
        go_wp2_with fail
        go_loopw [7, 8, 52] (fun _ _ i wq => ∃ (k : Nat), k ≤ es.length ∧ i = .int .i64 (k : Nat) ∧ Lib.IsBuilder 56 5 w.heap.size w.heap.size (Lib.byteCells (acc ++ txts 0 (es.take k))) wq ∧ Below w.heap.size w wq) (fun _ _ i _ => es.length - (intOf i).toNat)
        case atStart => exact ⟨0, by omega, rfl, by simpa [txts] using hIr, hbr⟩
        case round =>
          obtain ⟨k, hk, rfl, hIq, hbq⟩ := hrel
          by_cases hlt : k < es.length
          · obtain ⟨e, he⟩ : ∃ e, es[k]? = some e := ⟨_, List.getElem?_eq_getElem hlt⟩
            obtain ⟨u, hu, hFe⟩ := ftsAt_at es us hFs k e he
            obtain ⟨ad, rfl, hcs⟩ := hA (by omega)
            have hcu := hcs k u hu
            have hcq : wr.cell? (ad.add k) = some u := (hbq.cell (World.block_lt_of_cell? w _ hcu)).trans hcu
            have hes := size_at es k e he
            have hlt2 := txts_len_at es 0 k e he
            have hsn : txts 0 (es.take (k + 1)) = txts 0 (es.take k) ++ ((if 0 < k then [59, 32] else []) ++ e.txt) := by
              rw [List.take_succ_eq_append_getElem hlt, txts_snoc, List.length_take, show es[k] = e from (List.getElem?_eq_some_iff.1 he).2, show 0 + min k es.length = k from by omega]
            have htl : (txts 0 (es.take k)).length ≤ (txts 0 es).length := txts_take_len es 0 k
            by_cases hk0 : 0 < k
            · rw [if_pos hk0] at hsn
              have HSN := Lib.hid hsn
              have dk : decide ((0 : Int) < (k : Int)) = true := decide_eq_true (by omega)
              clear hsn
              go_wp2_with fail
              refine (writeString_any w.heap.size w.heap.size (Lib.byteCells (acc ++ txts 0 (es.take k))) ⟨[59, 32].toArray⟩ _ hIq (by rw [bsize, bcl, List.length_append]; simp; omega) hbq.size).mono ?_
              rintro e1 w4 ⟨rfl, hI4, hb4⟩
              have hb5 := hbq.trans hb4
              have hI5 : Lib.IsBuilder 56 5 w.heap.size w.heap.size (Lib.byteCells (acc ++ txts 0 (es.take k) ++ [59, 32])) w4 := .inr (by rw [← cells_add]; exact hI4)
              go_wp2_with fail
              refine (ih e u w4 (by omega) (FtAt.below hb5 e u hFe) (tab10_below hT hb5) (by omega)).mono ?_
              rintro e1 w6 ⟨rfl, hb6⟩
              have hI6 := isBuilder_below hI5 hb6
              have hb7 := hb5.trans (hb6.mono hb5.size)
              go_wp2_with fail
              refine (writeString_any w.heap.size w.heap.size (Lib.byteCells (acc ++ txts 0 (es.take k) ++ [59, 32])) ⟨e.txt.toArray⟩ _ hI6 (by rw [bsize, bcl, List.length_append, List.length_append]; simp; omega) hb7.size).mono ?_
              rintro e1 w8 ⟨rfl, hI8, hb8⟩
              have hb9 := hb7.trans hb8
              have hI9 : Lib.IsBuilder 56 5 w.heap.size w.heap.size (Lib.byteCells (acc ++ txts 0 (es.take (k + 1)))) w8 := .inr (by rw [HSN.out]; rw [cells_add] at hI8; simpa using hI8)
              go_wp2_with fail
              go_roundw
              case rel => exact ⟨k + 1, by omega, by go_num, hI9, hb9⟩
              case measure => simp [intOf]; omega
            · obtain rfl : k = 0 := by omega
              have hcq0 : wr.cell? ad = some u := by simpa [Addr.add] using hcq
              rw [if_neg hk0] at hsn
              have HSN := Lib.hid hsn
              clear hsn
              go_wp2_with fail
              refine (ih e u wr (by omega) (FtAt.below hbq e u hFe) (tab10_below hT hbq) (by omega)).mono ?_
              rintro e1 w6 ⟨rfl, hb6⟩
              have hI6 := isBuilder_below hIq hb6
              have hb7 := hbq.trans (hb6.mono hbq.size)
              go_wp2_with fail
              refine (writeString_any w.heap.size w.heap.size (Lib.byteCells (acc ++ txts 0 (es.take 0))) ⟨e.txt.toArray⟩ _ hI6 (by rw [bsize, bcl, List.length_append]; omega) hb7.size).mono ?_
              rintro e1 w8 ⟨rfl, hI8, hb8⟩
              have hb9 := hb7.trans hb8
              have hI9 : Lib.IsBuilder 56 5 w.heap.size w.heap.size (Lib.byteCells (acc ++ txts 0 (es.take (0 + 1)))) w8 := .inr (by rw [HSN.out]; rw [cells_add] at hI8; simpa using hI8)
              go_wp2_with fail
              go_roundw
              case rel => exact ⟨1, by omega, by go_num, hI9, hb9⟩
              case measure => simp [intOf]; omega
          · obtain rfl : k = es.length := by omega
            rw [List.take_length, HA.out] at hIq
            go_wp2_with fail
            refine (Tryd.Builder_String_any w.heap.size w.heap.size F.txt _ hIq hbq.size).mono ?_
            rintro e1 w6 ⟨rfl, hb6⟩
            go_wp2_with fail
            rw [Exit.noGoto_ret]
            go_ret
            exact ⟨rfl, hbq.trans hb6⟩
end Go.Proofs.YtcmepnninlocmaaDoor
