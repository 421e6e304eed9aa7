/- cell.Bytes of any row: walked (for DiffTells). -/
import Derived.Test.YtpjafocgabhieaaRunG
import Derived.Test.YtpjafocgabhieaaBldG
namespace Go.Proofs.Ytpjafocgabhieaa
open Go.RowKit Go.Shelf Nums
attribute [local go_sem] Oper.semAt_some
theorem strCells_of (L : List UInt8) : Lib.strCells ⟨L.toArray⟩ = Lib.byteCells L := by
  simp [Lib.strCells, Lib.byteCells]
theorem byteCells_app (a b : List UInt8) : Lib.byteCells (a ++ b) = Lib.byteCells a ++ Lib.byteCells b := by
  simp [Lib.byteCells]
theorem builder_kept' {T e : TypeId} {B b : Nat} {p : Value} {bs : List Value} {w w' : World} {row : Option Nat} (h : Lib.BuilderAt T e B b p bs w) (hg : w.grownBy w' row) (hr : ∀ r, row = some r → ∃ o : Obj, w.heap[r]? = some o ∧ o.isCells = false) : Lib.BuilderAt T e B b p bs w' := by
  have hk : ∀ p, Lib.BuilderAt T e B b p bs w → Lib.BuilderAt T e B b p bs w' := fun p ⟨h1, v, h2, h3, h4⟩ => by
    have hlt : b < w.heap.size := (Array.getElem?_eq_some_iff.1 h2).1
    refine ⟨h1, v, (hg.block b hlt (fun e => ?_)).trans h2, h3.kept hg ?_, h4⟩
    · obtain ⟨o, ho, hc⟩ := hr b e.symm
      rw [h2] at ho
      cases ho
      cases hc
    · cases row with
      | none =>
        cases v.ownBlock with
        | none => exact .inl rfl
        | some g => exact .inr (by simp)
      | some r =>
        refine .inr (fun e => ?_)
        obtain ⟨o, ho, hc⟩ := hr r rfl
        rcases h3.2 with ⟨h5, _⟩ | ⟨g, cap, cur, h5, _, h6, _⟩
        · rw [h5] at e
          cases e
        · rw [h5] at e
          injection e with e
          have e' : g = r := e
          subst e'
          rw [h6] at ho
          cases ho
          cases hc
  exact hk _ h
theorem builder_own {β : Type} (B b : Nat) (f : β → List Value) : OwnFrom B (fun (s : β) W => Lib.IsBuilder 77 5 b b (f s) W) := fun _ _ _ _ hs hg hr =>
  hs.elim (fun h => .inl (builder_kept' h hg (fun r e => (hr r e).2))) (fun h => .inr (builder_kept' h hg (fun r e => (hr r e).2)))
theorem IsBuilder_blk {b : Nat} {bs : List Value} {w : World} (h : Lib.IsBuilder 77 5 b b bs w) : ∃ cs, Blk w b 77 cs := by
  rcases h with ⟨_, v, h, _⟩ | ⟨_, v, h, _⟩
  · exact ⟨_, h⟩
  · exact ⟨_, h⟩
theorem builder_below {b : Nat} {bs : List Value} {w w' : World} (h : Lib.IsBuilder 77 5 b b bs w) (hb : Below w.heap.size w w') : Lib.IsBuilder 77 5 b b bs w' :=
  builder_own (β := Unit) 0 b (fun _ => bs) () w w' none h (grown_none' hb) (fun r e => by cases e)
set_option maxRecDepth 100000 in
set_option maxHeartbeats 4000000 in
theorem bytesG_gen (A : Option Addr) (n cp : Nat) (l : List Cl) (w : World) (hn0 : 1 ≤ n) (hn : n ≤ 12000) (hS : RowS w A n cp l) :
    Calls Try.prog 18 #[.slice A n cp] w fun e w' => e = .returned (.string ⟨(bytesP l).toArray⟩) ∧ Below w.heap.size w w' := by
  obtain ⟨ad, rfl, hC⟩ := hS.row (by rw [hS.len]; omega)
  have hright := right_gen (some ad) n cp l w hS.len (by omega) (fun _ => ⟨_, rfl, hC⟩)
  have HS := Lib.hid hS
  have HT := Lib.hid (enc_len hS.ok (by rw [hS.len]; exact hn) 0)
  clear hS
  refine (callsIn_wide (n := 4)).1 ?_
  cases hq : rightP l with
  | false =>
    have HP := Lib.hid (show bytesP l = [] by unfold bytesP; rw [hq]; rfl)
    rw [hq] at hright
    clear hq
    refine callsIn_of_wp_marks Try.func18 rfl trivial ?_ rfl
    simp only [Try.ntmps18, List.size_toArray, List.length_cons, List.length_nil, Nat.reduceAdd, Nat.reduceSub, Array.replicate_succ, Array.replicate_zero, List.push_toArray, List.append_toArray, List.nil_append, List.cons_append]
    gi_wp2
    refine ⟨trivial, (callsIn_wide.2 hright).mono ?_⟩
    rintro e w1 ⟨rfl, hb1⟩
    gi_wp2
    exact ⟨_, results_tmp rfl _ _ _, by rw [HP.out]; rfl, hb1⟩
  | true =>
    have HP := Lib.hid (show bytesP l = putR (encB l 0) by unfold bytesP; rw [hq]; rfl)
    rw [hq] at hright
    clear hq
    refine callsIn_of_wp_marks Try.func18 rfl trivial ?_ rfl
    simp only [Try.ntmps18, List.size_toArray, List.length_cons, List.length_nil, Nat.reduceAdd, Nat.reduceSub, Array.replicate_succ, Array.replicate_zero, List.push_toArray, List.append_toArray, List.nil_append, List.cons_append]
    gi_wp2
    refine ⟨trivial, (callsIn_wide.2 hright).mono ?_⟩
    rintro e w1 ⟨rfl, hb1⟩
    have hC1 := hC.below hb1
    have had : ad.block < w1.heap.size := by
      obtain ⟨c, hc⟩ : ∃ c, l[0]? = some c := ⟨_, List.getElem?_eq_getElem (by rw [HS.out.len]; omega)⟩
      have := World.block_lt_of_cell? w1 _ (hC1 0 c hc).1.c0
      rw [block_add] at this
      exact this
    gi_wp2
    refine ⟨trivial, (callsIn_wide.2 (runs_any _ _ _ _)).mono ?_⟩
    rintro e w2 ⟨rfl, rfl⟩
    have hI := Blk.new w1 77 #[.pointer none, .slice none 0 0]
    have hb2 := (hb1.alloc hb1.size (.cells #[.pointer none, .slice none 0 0] 77)).alloc (Nat.le_trans hb1.size (by simp)) (.cells #[.slice (some ad) n cp] 30)
    have hI2 := hI.alloc (.cells #[.slice (some ad) n cp] 30)
    have hX2 := Blk.new (w1.alloc (.cells #[.pointer none, .slice none 0 0] 77)) 30 #[.slice (some ad) n cp]
    rw [World.size_alloc] at hX2
    have hsz : ((w1.alloc (.cells #[.pointer none, .slice none 0 0] 77)).alloc (.cells #[.slice (some ad) n cp] 30)).heap.size = w1.heap.size + 2 := by simp
    have hC2 : Cels ((w1.alloc (.cells #[.pointer none, .slice none 0 0] 77)).alloc (.cells #[.slice (some ad) n cp] 30)) ad l := hC1.below (((Below.refl _ _).alloc (Nat.le_refl _) _).alloc (by simp) _)
    gi_wp2
    generalize (w1.alloc (.cells #[.pointer none, .slice none 0 0] 77)).alloc (.cells #[.slice (some ad) n cp] 30) = w2 at hb2 hI2 hX2 hsz hC2 ⊢
    clear hI
    have hww := hb1.size
    obtain ⟨b, hbe⟩ : ∃ b, b = w1.heap.size := ⟨_, rfl⟩
    rw [← hbe] at hI2 hX2 hsz hww had ⊢
    clear hbe hC1 hb1
    have hB0 : Lib.IsBuilder 77 5 b b [] w2 := .inl ⟨Nat.le_refl _, _, hI2, World.ownsRow_nil _ _ _ _, by simp [Value.ownBlock]⟩
    refine wpIn_rangeFunc_ownH (F := Fence.wide) rfl (by omega) (gf := 61) (lb := #[.pointer (some ⟨b + 1, 0, none⟩)]) rfl trivial (enters_of Try.func61 (by kernel_rfl) rfl)
      (runs_stops 3 (by omega) (fun k => k < b ∨ k = b + 1) (b + 1) n cp ad l w2 hn HS.out.len (.inr rfl) (.inl had) hX2 hC2) KpS.trans (KpS.putObj (by omega)) (Below.refl _ _) (fun _ => rfl)
      (fun pre W => Lib.IsBuilder 77 5 b b (Lib.byteCells (putR (vals pre))) W ∧ Blk W (b + 1) 30 #[.slice (some ad) n cp] ∧ Below w.heap.size w W ∧ b + 2 ≤ W.heap.size)
      (fun _ _ _ => False)
      (OwnFrom.and (builder_own _ _ _) (OwnFrom.and (blk_own _ _ _ (fun _ => #[.slice (some ad) n cp])) (OwnFrom.and (ownFrom_below (Nat.le_refl _) (by omega)) (size_own _ _))))
      (fun _ => ownFrom_pure _ (fun _ => False))
      ⟨hB0, hX2, hb2, by omega⟩
      (fun x a' W => ∃ Bx, b + 1 < Bx ∧ Blk W Bx 55 x.1.2.a ∧ a' = { tmps := #[.slice (some ad) n cp, undef, .string ⟨#[]⟩, .pointer (some ⟨b, 0, none⟩), .int .i64 (x.1.1 : Nat), .pointer (some ⟨Bx, 0, none⟩), .slice (some ad) n cp, .bool true, .bool false, .slice (some ad) n cp, .func (.func 61) #[] #[.pointer (some ⟨b + 1, 0, none⟩)], .int .i64 (x.1.1 : Nat), .agg x.1.2.a, undef, undef, undef, undef, undef, undef, undef, undef, undef, undef, undef, undef, undef, undef, undef, undef, undef, undef], defers := [] })
      (fun x a' _ X Y row hs hg hr => by
        obtain ⟨Bx, h1, h2, h3⟩ := hs
        exact ⟨Bx, h1, blk_own (β := Unit) _ _ _ (fun _ => x.1.2.a) () X Y row h2 hg hr, h3⟩)
      ?assign ?body ?done ?stop
    case assign =>
      rintro l1 pre x W K ⟨hI1, hX1, hB1, hW1⟩ hK
      gi_wp2
      have hgr := (Below.refl W.heap.size W).alloc (Nat.le_refl _) (.cells x.1.2.a 55)
      exact hK _ _ ((KeepsOthers.alloc _ _).from _) (KpS.of_below hgr (fun k hk => by omega))
        ⟨builder_below hI1 hgr, hX1.below hgr hX1.lt, hB1.alloc hB1.size _, Nat.le_trans hW1 hgr.size⟩ ⟨W.heap.size, by omega, Blk.new W _ _, rfl⟩
    case body =>
      rintro l1 pre x a' W hl ⟨r, hr⟩ ⟨hI1, hX1, hB1, hW1⟩ ⟨Bx, hBx, hbx, rfl⟩ hlt
      obtain ⟨⟨N, c⟩, hmem⟩ := x
      obtain ⟨hm1, hm2, hm3⟩ := encB_mem l 0 _ hmem
      have ok : OkC c := HS.out.ok _ hm1
      rw [HS.out.len] at hm3
      simp only at hm2 hm3 hbx
      have c0 : W.cell? ⟨Bx, 0, none⟩ = some (.int .i32 c.r) := hbx.cell 0
      have c1 : W.cell? ⟨Bx, 1, none⟩ = some (.int .u8 (c.f : Int)) := hbx.cell 1
      have c2 : W.cell? ⟨Bx, 2, none⟩ = some (.int .u8 (c.b : Int)) := hbx.cell 2
      have c3 : W.cell? ⟨Bx, 3, none⟩ = some (.int .u8 (c.x : Int)) := hbx.cell 3
      have i1 : wrap64 ((N : Int) - 1) = (N : Int) - 1 := by
        unfold wrap64
        omega
      have hput : Calls Try.prog 17 #[.slice (some ⟨W.heap.size, 0, none⟩) 5 5] (W.alloc (.cells #[.int .i64 ((N : Int) - 1), .int .i64 c.r, .int .i64 (c.f : Int), .int .i64 (c.b : Int), .int .i64 (c.x : Int)] 3)) fun e w' => e = .returned (.string ⟨(putL (runN (N, c))).toArray⟩) ∧ Below (W.alloc (.cells #[.int .i64 ((N : Int) - 1), .int .i64 c.r, .int .i64 (c.f : Int), .int .i64 (c.b : Int), .int .i64 (c.x : Int)] 3)).heap.size (W.alloc (.cells #[.int .i64 ((N : Int) - 1), .int .i64 c.r, .int .i64 (c.f : Int), .int .i64 (c.b : Int), .int .i64 (c.x : Int)] 3)) w' :=
        put_any _ 5 5 (runN (N, c)) _ rfl (Ints.new W (runN (N, c)) 3) (runN_fit ok (by simp only; omega)) (by omega)
      have hpl : (putL (runN (N, c))).length ≤ 50 := putL_len (runN (N, c)) (runN_fit ok (by simp only; omega))
      have hpre : (putR (vals pre)).length ≤ 600000 := by
        have h1 := putR_len (vals pre) (fun q hq => by
          simp only [vals, List.mem_map] at hq
          obtain ⟨⟨z, hz⟩, _, rfl⟩ := hq
          have := encB_mem l 0 z hz
          have h3 := HS.out.len
          exact ⟨HS.out.ok _ this.1, by simp only; omega⟩)
        have h2 := encB_len l 0
        have h3 := HS.out.len
        have h4 : (vals pre).length = pre.length := by simp [vals]
        omega
      have HE := Lib.hid (show Lib.byteCells (putR (vals pre)) ++ Lib.byteCells (putL (runN (N, c))) = Lib.byteCells (putR (vals (pre ++ [⟨(N, c), hmem⟩]))) by
        rw [← byteCells_app]
        congr 1
        simp only [vals, List.map_append, List.map_cons, List.map_nil, putR_append, putR_cons]
        simp [putR])
      obtain ⟨v0, v1, v2, v3⟩ := ok_wrap ok
      generalize putL (runN (N, c)) = pl at hput hpl HE
      have hA1 := (Below.refl W.heap.size W).alloc (Nat.le_refl _) (.cells #[.int .i64 ((N : Int) - 1), .int .i64 c.r, .int .i64 (c.f : Int), .int .i64 (c.b : Int), .int .i64 (c.x : Int)] 3)
      gi_wp2
      refine ⟨trivial, (CallsIn.inRound l1 (callsIn_wide.2 hput)).mono ?_⟩
      clear hput
      rintro e W1 ⟨rfl, hb1⟩
      have hA2 := hA1.trans (hb1.mono hA1.size)
      have hI2 := builder_below hI1 hA2
      have hX2' := hX1.below hA2 hX1.lt
      obtain ⟨csb, hBb⟩ := IsBuilder_blk hI2
      have hBl := hBb.lt
      have hszl : (Lib.byteCells (putR (vals pre))).length + (⟨pl.toArray⟩ : ByteArray).size ≤ 1000000000000 := by
        rw [Lib.byteCells_length]
        have : (⟨pl.toArray⟩ : ByteArray).size = pl.length := by simp [ByteArray.size]
        omega
      clear hb1 hA1 c0 c1 c2 c3 v0 v1 v2 v3
      gi_wp2
      refine ⟨trivial, (CallsIn.inRound l1 (callsIn_wide.2 (writeString_any b b _ ⟨pl.toArray⟩ W1 hI2 hszl (by omega)))).mono ?_⟩
      rintro e W2 ⟨rfl, hI3, hb3, ht3⟩
      rw [strCells_of, HE.out] at hI3
      gi_wp2
      have hK1 : KeepsOthers W W1 := KeepsOthers.of_grownBy (grown_none' hA2) (fun j o e _ => by cases e)
      have hK2 : KeepsOthers W1 W2 := ht3.others hBb hb3.size
      have hX3 := ht3.blk hX2' (by omega) (by decide)
      have hkp : KpS (fun k => k < b ∨ k = b + 1) W1 W2 := ⟨hb3.size, fun k hk o ho => by
        rcases hk with hk | rfl
        · exact (hb3.block k hk).trans ho
        · unfold Blk at hX2' hX3
          rw [hX2'] at ho
          rw [hX3, ho]⟩
      have hsz2 := hA2.size
      have hsz3 := hb3.size
      refine ⟨(hK1.trans hK2).from _, (KpS.of_below hA2 (fun k hk => by omega)).trans hkp, .inr hI3, hX3, (hB1.trans (hA2.mono hB1.size)).trans (hb3.mono hww), by omega⟩
    case done =>
      rintro D ys W hD rfl ⟨hI1, hX1, hB1, hW1⟩ hK
      rw [vals_all] at hI1
      have hne : putR (encB l 0) ≠ [] := by
        obtain ⟨c, hc⟩ : ∃ c, l[0]? = some c := ⟨_, List.getElem?_eq_getElem (by rw [HS.out.len]; omega)⟩
        rw [encB_go hc, putR_cons]
        intro h
        have h1 := congrArg List.length h
        have h2 : 0 < (putL (runN (runCnt l c 0, c))).length := by
          simp only [runN]
          rw [putL_cons, List.length_append]
          have := vb_pos (zz ((runCnt l c 0 : Int) - 1))
          omega
        simp only [List.length_append, List.length_nil] at h1
        omega
      have hstr : Calls Try.prog 43 #[.pointer (some ⟨b, 0, none⟩)] W fun e w' => e = .returned (.string ⟨(putR (encB l 0)).toArray⟩) ∧ KeepsOthers W w' ∧ Below b W w' := by
        rcases hI1 with h | h
        · exact string_keeps b b _ _ W h hne
        · exact string_keeps b b _ _ W h hne
      rw [← HP.out] at hstr
      clear hI1 hne
      gi_wp2
      refine ⟨trivial, (callsIn_wide.2 hstr).mono ?_⟩
      rintro e W1 ⟨rfl, hk1, hb1⟩
      have hK1 := hk1.same D _ hK rfl
      gi_wp2
      refine ⟨by simp, .inl ⟨_, _, rfl, run_takeDeferred hK1, ?_⟩⟩
      exact ⟨_, results_tmp rfl _ _ _, rfl, (hB1.trans (hb1.mono hww)).trans (belowK_b (w := w) (Nat.le_refl _) W1 D _ _ (by omega) hK1 rfl rfl)⟩
    case stop =>
      rintro D c pre W _ _ h _
      exact h.elim
end Go.Proofs.Ytpjafocgabhieaa
