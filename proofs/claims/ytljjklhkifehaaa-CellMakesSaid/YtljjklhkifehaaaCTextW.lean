/- A row of characters' cells as a text. -/
import Derived.Test.YtljjklhkifehaaaEncW
import Derived.Test.YtljjklhkifehaaaRightW
namespace Go.Proofs.Ytljjklhkifehaaa
open Go.RowKit
theorem len_le_wid : ∀ m : List Int, (∀ r ∈ m, wid r ≠ 0) → m.length ≤ (m.map wid).sum
  | [], _ => by simp
  | r :: m, h => by
    have ih := len_le_wid m (fun r hr => h r (List.mem_cons_of_mem _ hr))
    have h0 := h r List.mem_cons_self
    simp only [List.length_cons, List.map_cons, List.sum_cons]
    omega
theorem grown_none {w w' : World} (hb : Below w.heap.size w w') : w.grownBy w' none := ⟨hb.os, hb.tape, hb.output, hb.size, fun k hk _ => hb.block k hk⟩
theorem news_one (w : World) (v : Value) (t : TypeId) : Src (w.alloc (.cells #[v] t)) (some ⟨w.heap.size, 0, none⟩) [v] := fun _ => ⟨_, rfl, fun j u hj => by
  have h0 : j = 0 := by
    have := (List.getElem?_eq_some_iff.1 hj).1
    simp at this
    exact this
  subst h0
  simp at hj
  subst hj
  simp [Addr.add]⟩
/-- What has been told: k characters, or one more, if its tail is next. -/
def TextRel (m : List Int) (k ph : Nat) (q : List Int) : Prop := q = m.take (k + ph) ∧ (ph = 1 → ∃ r, m[k]? = some r ∧ wid r = 2)
set_option maxRecDepth 100000 in
set_option maxHeartbeats 4000000 in
theorem text_row (g n c : Nat) (f b u : Int) (l : List Int) (last : Int) (w : World) (hu : Way u) (hs : Seen (l ++ [last])) (hlast : last ≠ 32) (hn : n = ((l ++ [last]).map wid).sum) (hn2 : n ≤ 500) (hR : RowAt w g f b u (l ++ [last])) :
    Calls Try.prog 15 #[.slice (some ⟨g, 0, none⟩) n c] w fun e w' => e = .returned (.string ⟨(encL (l ++ [last])).toArray⟩) ∧ Below w.heap.size w w' := by
  obtain ⟨i0, hi, hz0, hz1, hz2⟩ := info_parts (show (Try.prog.info? 21).map (fun i => (i.zero, i.size, i.bytes)) = some (some (.int .i32 0), 1, 4) from by kernel_rfl)
  obtain ⟨m, hm⟩ : ∃ m, m = l ++ [last] := ⟨_, rfl⟩
  rw [← hm] at hs hn hR ⊢
  have HM := Lib.hid hm
  have HN := Lib.hid hn
  clear hm hn
  have hml : m.length ≤ n := by
    rw [HN.out]
    exact len_le_wid m (fun r hr => (hs r hr).1)
  go_enter Try.func15, Try.ntmps15
  go_wp2_with fail
  go_loopw [3, 8] (fun v i wr => ∃ (k ph : Nat) (q : List Int), k ≤ m.length ∧ (ph = 0 ∨ ph = 1 ∧ k < m.length) ∧ i = .int .i64 (pos m k + ph : Nat) ∧ TextRel m k ph q ∧ wr.ownsRow w.heap.size 21 1 v q.length (q.map rv) ∧ Below w.heap.size w wr) (fun _ i _ => n - (intOf i).toNat)
  case atStart => exact ⟨0, 0, [], Nat.zero_le _, .inl rfl, rfl, ⟨rfl, fun h => by cases h⟩, World.ownsRow_nil _ _ _ _, Below.refl _ _⟩
  case round =>
    obtain ⟨k, ph, q, hk, hph, rfl, hrel, hown, hbr⟩ := hrel
    obtain ⟨hq, hph1⟩ := hrel
    have HQ := Lib.hid hq
    have hql : q.length ≤ 500 := by
      rw [hq, List.length_take]
      omega
    clear hq
    have hRr := hR.below (by exact hbr.mono (Nat.le_refl _) : Below w.heap.size w wr)
    obtain ⟨Av, cap, rfl⟩ := own_form hown
    rcases hph with rfl | ⟨rfl, hlt⟩
    · clear hph1
      by_cases hlt : k < m.length
      · obtain ⟨r, hr⟩ : ∃ r, m[k]? = some r := ⟨_, List.getElem?_eq_getElem hlt⟩
        obtain ⟨hw0, hr0, hr1⟩ := hs r (List.mem_of_getElem? hr)
        have hps := pos_succ m hr
        have hpl := pos_le m (k + 1)
        rw [← HN.out] at hpl
        have hat := fun j v hj => hRr _ v (rowc_at f b u m hr (j := j) hj)
        obtain ⟨x, hx, hx128, hck, hnx⟩ : ∃ x, (∀ j v, [Value.int .i32 r, .int .u8 f, .int .u8 b, .int .u8 x][j]? = some v → wr.cell? ⟨g, pos m k * 4 + j, none⟩ = some v) ∧ bits .and .u8 x 128 = 0 ∧
            (∀ w', Calls Try.prog 29 #[cv r f b x] w' fun e w'' => e = .returned (.bool true) ∧ Below w'.heap.size w' w'') ∧ (wid r = 1 ∨ wid r = 2) := by
          rcases wid_cases r with hw | hw | hw
          · exact absurd hw hw0
          · rw [mkc_1 f b u hw] at hat
            exact ⟨u, hat, hu.a128, fun w' => check_one r f b u w' hu.a64 hu.a128 hw hr0 hr1, .inl hw⟩
          · rw [mkc_2 f b u hw] at hat
            exact ⟨u + 64, fun j v hj => hat j v (by
              have hj4 : j < 4 := by simpa using (List.getElem?_eq_some_iff.1 hj).1
              rcases (show j = 0 ∨ j = 1 ∨ j = 2 ∨ j = 3 by omega) with rfl | rfl | rfl | rfl <;> exact hj), hu.b128, fun w' => check_two r f b (u + 64) w' hu.b64 hu.b128 hw hr0 hr1, .inr hw⟩
        have c0 : wr.cell? ⟨g, pos m k * 4, none⟩ = some (.int .i32 r) := hx 0 _ rfl
        have c1 : wr.cell? ⟨g, pos m k * 4 + 1, none⟩ = some (.int .u8 f) := hx 1 _ rfl
        have c2 : wr.cell? ⟨g, pos m k * 4 + 2, none⟩ = some (.int .u8 b) := hx 2 _ rfl
        have c3 : wr.cell? ⟨g, pos m k * 4 + 3, none⟩ = some (.int .u8 x) := hx 3 _ rfl
        have hxn : pos m k < n := by omega
        have HT := Lib.hid (show q ++ [r] = m.take (k + 1) from by rw [HQ.out, Nat.add_zero, take_r hr])
        have HR := Lib.hid hr
        have HP := Lib.hid hps
        clear hat hx hps hr hRr
        rw [Nat.add_zero]
        generalize hpk : pos m k = pk at *
        have HK := Lib.hid hpk
        clear hpk
        have hb0 := hbr.alloc hbr.size (.cells #[.int .i32 r, .int .u8 f, .int .u8 b, .int .u8 x] 23)
        have hB := Blk.new wr 23 #[.int .i32 r, .int .u8 f, .int .u8 b, .int .u8 x]
        have hown0 := hown.alloc (.cells #[.int .i32 r, .int .u8 f, .int .u8 b, .int .u8 x] 23)
        go_wp2_with fail
        refine (hck _).mono ?_
        clear hck
        rintro e w2 ⟨rfl, hb2⟩
        have hB2 := hB.below hb2 hB.lt
        have hown2 := hown0.kept (grown_none hb2) (by
          cases hv : (Value.slice Av q.length cap).ownBlock with
          | none => exact .inl rfl
          | some g => exact .inr (by simp))
        have hb2' := hb0.trans (hb2.mono hb0.size)
        have e0 : w2.cell? ⟨wr.heap.size, 0, none⟩ = some (.int .i32 r) := hB2.cell 0
        have e3 : w2.cell? ⟨wr.heap.size, 3, none⟩ = some (.int .u8 x) := hB2.cell 3
        clear c0 c1 c2 c3 hB hown hown0 hb0 hb2 hB2
        go_wp2_with (at_builtin; refine wpList_append_src rfl (.tmp 24) (.tmp 27) 36 rfl w.heap.size 21 i0 (.int .i32 0) 1 4 Try.underlying36 hi hz0 hz1 hz2 rfl (by decide) _ _ _ rfl (hown2.alloc _) (some ⟨w2.heap.size, 0, none⟩) 1 1 [.int .i32 r] rfl rfl (news_one w2 (.int .i32 r) 21) (fun h => by cases h) (fun u hu => by obtain rfl := List.mem_singleton.1 hu; rfl) (by unfold maxLen; omega) (by omega) (Nat.le_trans hb2'.size (by simp)) ?_)
        intro v3 w3 hown3 hg3
        have hb3 : Below w.heap.size w w3 := (hb2'.alloc hb2'.size _).grown hg3 (Nat.le_trans hb2'.size (by simp)) (fun g hg => (hown2.lt g hg).1)
        have hown3' : w3.ownsRow w.heap.size 21 1 v3 (q ++ [r]).length ((q ++ [r]).map rv) := by simpa using hown3
        clear hown2 hown3 hg3 e0 e3
        go_wp2_with fail
        go_roundw
        case rel =>
          rcases hnx with hw | hw
          · exact ⟨k + 1, 0, q ++ [r], by omega, .inl rfl, congrArg (Value.int .i64) (by have := HP.out; have := HK.out; omega), ⟨HT.out, fun h => by cases h⟩, hown3', hb3⟩
          · exact ⟨k, 1, q ++ [r], by omega, .inr ⟨rfl, hlt⟩, congrArg (Value.int .i64) (by have := HK.out; omega), ⟨HT.out, fun _ => ⟨r, HR.out, hw⟩⟩, hown3', hb3⟩
        case measure => simp [intOf]; omega
      · have hp : pos m k = n := by
          rw [HN.out]
          unfold pos
          rw [List.take_of_length_le (by omega)]
        have hqm : q = m := by rw [HQ.out, Nat.add_zero, List.take_of_length_le (by omega)]
        rw [Nat.add_zero, hp]
        clear hp HQ
        subst hqm
        have hlen : q.length = l.length + 1 := by rw [HM.out]; simp
        have hsrc := Src.of_own hown
        have hvr : ∀ r ∈ q, Vr r := fun r hr => vr_of_wid (hs r hr).1
        obtain ⟨ga, rfl⟩ : ∃ ga, Av = some ⟨ga, 0, none⟩ := by
          rcases hown.2 with ⟨_, h1⟩ | ⟨g', cap', cur, h1, _⟩
          · omega
          · injection h1 with h1
            exact ⟨g', h1⟩
        have cl : wr.cell? ⟨ga, l.length, none⟩ = some (.int .i32 last) := by
          have h := hown.cells (g := ga) rfl l.length (.int .i32 last) (by rw [HM.out]; simp)
          rw [show ((⟨ga, 0, none⟩ : Addr).add l.length) = ⟨ga, l.length, none⟩ from by unfold Addr.add; split <;> simp_all] at h
          exact h
        have hll : l.length ≤ 500 := by omega
        rw [hlen] at hown ⊢
        have HLn := Lib.hid hlen
        clear hlen
        have hl32 : (last == 32) = false := by simpa using hlast
        have hl1 : IntKind.i64.wrap (((l.length + 1 : Nat) : Int) - 1) = (l.length : Nat) := by rw [IntKind.wrap_i64]; omega
        have hcap : l.length + 1 ≤ cap := by
          rcases hown.2 with ⟨_, h1⟩ | ⟨g', cap', cur, h1, _, _, h4, _⟩
          · omega
          · injection h1 with _ _ h1
            omega
        clear hown hRr hs
        go_wp2_with fail
        go_loopw [3] (fun v wr' => v = .slice (some ⟨ga, 0, none⟩) (l.length + 1) cap ∧ wr' = wr) (fun _ _ => 0)
        case atStart => exact ⟨rfl, rfl⟩
        case round =>
          obtain ⟨rfl, rfl⟩ := hrel
          go_wp2_with fail
          refine (encode_any (some ⟨ga, 0, none⟩) (l.length + 1) cap q _ HLn.out (by omega) hsrc hvr).mono ?_
          rintro e w2 ⟨rfl, hb2⟩
          go_wp2_with fail
          go_ret
          exact ⟨rfl, hbr.trans (hb2.mono hbr.size)⟩
    · obtain ⟨r, hr, hw⟩ := hph1 rfl
      have hps := pos_succ m hr
      have hpl := pos_le m (k + 1)
      rw [← HN.out] at hpl
      have hat := fun j v hj => hRr _ v (rowc_at f b u m hr (j := j) hj)
      rw [mkc_2 f b u hw] at hat
      have c0 : wr.cell? ⟨g, (pos m k + 1) * 4, none⟩ = some (.int .i32 0) := by rw [show (pos m k + 1) * 4 = pos m k * 4 + 4 by omega]; exact hat 4 _ rfl
      have c1 : wr.cell? ⟨g, (pos m k + 1) * 4 + 1, none⟩ = some (.int .u8 f) := by rw [show (pos m k + 1) * 4 + 1 = pos m k * 4 + 5 by omega]; exact hat 5 _ rfl
      have c2 : wr.cell? ⟨g, (pos m k + 1) * 4 + 2, none⟩ = some (.int .u8 b) := by rw [show (pos m k + 1) * 4 + 2 = pos m k * 4 + 6 by omega]; exact hat 6 _ rfl
      have c3 : wr.cell? ⟨g, (pos m k + 1) * 4 + 3, none⟩ = some (.int .u8 (u + 128)) := by rw [show (pos m k + 1) * 4 + 3 = pos m k * 4 + 7 by omega]; exact hat 7 _ rfl
      have hxn : pos m k + 1 < n := by omega
      have HP := Lib.hid hps
      have hc128 := hu.c128
      clear hat hps hRr hr hph1
      generalize hpk : pos m k + 1 = pk at *
      have HK := Lib.hid hpk
      clear hpk
      have hb0 := hbr.alloc hbr.size (.cells #[.int .i32 0, .int .u8 f, .int .u8 b, .int .u8 (u + 128)] 23)
      have hB := Blk.new wr 23 #[.int .i32 0, .int .u8 f, .int .u8 b, .int .u8 (u + 128)]
      have hown0 := hown.alloc (.cells #[.int .i32 0, .int .u8 f, .int .u8 b, .int .u8 (u + 128)] 23)
      go_wp2_with fail
      refine (check_tail f b (u + 128) _ hu.c64 hu.c128).mono ?_
      rintro e w2 ⟨rfl, hb2⟩
      have hB2 := hB.below hb2 hB.lt
      have hown2 := hown0.kept (grown_none hb2) (by
        cases hv : (Value.slice Av q.length cap).ownBlock with
        | none => exact .inl rfl
        | some g => exact .inr (by simp))
      have hb2' := hb0.trans (hb2.mono hb0.size)
      have e3 : w2.cell? ⟨wr.heap.size, 3, none⟩ = some (.int .u8 (u + 128)) := hB2.cell 3
      clear c0 c1 c2 c3 hB hown hown0 hb0 hb2 hB2
      go_wp2_with fail
      go_roundw
      case rel => exact ⟨k + 1, 0, q, by omega, .inl rfl, congrArg (Value.int .i64) (by have := HP.out; have := HK.out; omega), ⟨HQ.out, fun h => by cases h⟩, hown2, hb2'⟩
      case measure => simp [intOf]; omega
end Go.Proofs.Ytljjklhkifehaaa
