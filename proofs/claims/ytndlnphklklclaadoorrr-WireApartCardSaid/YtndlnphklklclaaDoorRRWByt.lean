/- wire.Bytes of a message that may be: walked. -/
import Derived.Test.YtndlnphklklclaaDoorRRWChk
import Derived.Test.YtndlnphklklclaaDoorRRPutW
namespace Go.Proofs.YtndlnphklklclaaDoorRR
open Go.RowKit Nums Crc
theorem unit_ret : True := trivial
set_option maxRecDepth 100000 in
set_option maxHeartbeats 1000000 in
theorem put_clo (B : Nat) (s0 : ByteArray) (A : Option Addr) (n c : Nat) (xs : List Int) (w : World) (hB : Blk w B 9 #[.string s0]) (hn : xs.length = n) (hA : Ints w A xs) (hx : Fit xs) (hlen : n ≤ 3) (hs : s0.size ≤ 1000) :
    Calls Tryd.prog 14 #[.slice A n c, .pointer (some ⟨B, 0, none⟩)] w fun e w' => e = .returned (.tuple #[]) ∧ Blk w' B 9 #[.string (s0 ++ ⟨(putL xs).toArray⟩)] ∧ Only B w w' := by
  have q0 : w.cell? ⟨B, 0, none⟩ = some (.string s0) := hB.cell 0
  have hl := putL_len xs hx
  have hsz : (⟨(putL xs).toArray⟩ : ByteArray).size ≤ 100 := by
    show (putL xs).toArray.size ≤ 100
    simp
    omega
  have hput : ∀ W : World, Ints W A xs → Calls Tryd.prog 13 #[.slice A n c] W fun e w' => e = .returned (.string ⟨(putL xs).toArray⟩) ∧ Below W.heap.size W w' := fun W h => put_any A n c xs W hn h hx (by omega)
  clear hl hn hx hlen
  generalize (⟨(putL xs).toArray⟩ : ByteArray) = t at hsz hput ⊢
  go_enter Tryd.func14, Tryd.ntmps14
  go_wp2_with fail
  have hsum : s0.size + t.size ≤ 9223372036854775807 := by omega
  have hBd : Blk w.drew B 9 #[.string s0] := hB.drew
  have hAd : Ints w.drew A xs := hA.drew
  go_region_with (go_at_call 13; (refine (hput _ hAd).mono ?_; rintro e w1 ⟨rfl, hb1⟩; have hB1 := hBd.below hb1 hBd.lt; have q1 := hB1.cell 0; have f1 := hB1.free 0))
  all_goals
    go_end0
    have hB2 := (hBd.below hb1 hBd.lt).set 0 (.string (s0 ++ t))
    exact ⟨rfl, hB2, only_set (only_trans (only_drew (only_refl B w)) ⟨hb1.os, hb1.tape, hb1.output, hb1.size, fun k hk _ => hb1.block k hk⟩) 0 _⟩
set_option maxRecDepth 100000 in
set_option maxHeartbeats 1000000 in
theorem text_clo (B : Nat) (s0 p : ByteArray) (w : World) (hB : Blk w B 9 #[.string s0]) (hp : p.size ≤ 100) (hs : s0.size ≤ 1000) :
    Calls Tryd.prog 15 #[.string p, .pointer (some ⟨B, 0, none⟩)] w fun e w' => e = .returned (.tuple #[]) ∧ Blk w' B 9 #[.string (s0 ++ ⟨(txt p).toArray⟩)] ∧ Only B w w' := by
  have q0 : w.cell? ⟨B, 0, none⟩ = some (.string s0) := hB.cell 0
  have hsz : (⟨(txt p).toArray⟩ : ByteArray).size ≤ 200 := by
    show (txt p).toArray.size ≤ 200
    have h1 := vb_len 2 (2 * p.size) (by omega)
    have h2 : p.data.toList.length = p.size := rfl
    simp only [List.size_toArray, txt, List.length_append]
    omega
  have hput : ∀ W : World, Calls Tryd.prog 16 #[.string p] W fun e w' => e = .returned (.string ⟨(txt p).toArray⟩) ∧ Below W.heap.size W w' := fun W => putText_any p W (by omega)
  generalize (⟨(txt p).toArray⟩ : ByteArray) = t at hsz hput ⊢
  go_enter Tryd.func15, Tryd.ntmps15
  go_wp2_with fail
  have hsum : s0.size + t.size ≤ 9223372036854775807 := by omega
  have hBd : Blk w.drew B 9 #[.string s0] := hB.drew
  go_region_with (go_at_call 16; (refine (hput _).mono ?_; rintro e w1 ⟨rfl, hb1⟩; have hB1 := hBd.below hb1 hBd.lt; have q1 := hB1.cell 0; have f1 := hB1.free 0))
  all_goals
    go_end0
    have hB2 := (hBd.below hb1 hBd.lt).set 0 (.string (s0 ++ t))
    exact ⟨rfl, hB2, only_set (only_trans (only_drew (only_refl B w)) ⟨hb1.os, hb1.tape, hb1.output, hb1.size, fun k hk _ => hb1.block k hk⟩) 0 _⟩
theorem ba2 (a b : List UInt8) : (⟨a.toArray⟩ : ByteArray) ++ ⟨b.toArray⟩ = ⟨(a ++ b).toArray⟩ := by
  apply ByteArray.ext
  simp
theorem fit_in {l : List Int} (h : ∀ n ∈ l, -2000000000 ≤ n ∧ n ≤ 2000000000) : Fit l := fun n hn => by
  have := h n hn
  omega
theorem put_size (l : List Int) (h : Fit l) : (⟨(putL l).toArray⟩ : ByteArray).size ≤ 10 * l.length := by
  have := putL_len l h
  show (putL l).toArray.size ≤ _
  simpa using this
/-- What stands in memory behind the first number. -/
structure Mid (w0 : World) (M B : Nat) (m : Mg) (s : ByteArray) (w : World) : Prop where
  box : Blk w M 25 m.v
  text : Blk w B 9 #[.string s]
  below : Below M w0 w
  apart : M < B
theorem Mid.put {w0 w w' : World} {M B : Nat} {m : Mg} {s t : ByteArray} (h : Mid w0 M B m s w) (h1 : Blk w' B 9 #[.string t]) (h2 : Only B w w') : Mid w0 M B m t w' :=
  ⟨h.box.grown h2 (fun e => by have := Option.some.inj e; have := h.apart; omega), h1, h.below.trans (only_below h2 (Nat.le_of_lt h.apart) (Nat.le_of_lt (Nat.lt_trans h.apart h.text.lt))), h.apart⟩
theorem Mid.alloc {w0 w : World} {M B : Nat} {m : Mg} {s : ByteArray} (h : Mid w0 M B m s w) (o : Obj) : Mid w0 M B m s (w.alloc o) :=
  ⟨h.box.alloc o, h.text.alloc o, h.below.alloc (Nat.le_of_lt h.box.lt) o, h.apart⟩
set_option maxRecDepth 100000 in
set_option maxHeartbeats 4000000 in
theorem bytes_any (m : Mg) (hm : MgOk m) (w : World) : Calls Tryd.prog 7 #[.agg m.v] w fun e w' => e = .returned (.tuple #[.string (packB m), .nilIface]) ∧ Below w.heap.size w w' := by
  have hbs := body_size hm
  have hchk := check_any m hm
  have hM := Blk.new w 25 m.v
  have hb0 := (Below.refl w.heap.size w).alloc (Nat.le_refl _) (.cells m.v 25)
  go_enter Tryd.func7, Tryd.ntmps7
  go_upto_region 1 with fail
  generalize w.alloc (.cells m.v 25) = w1 at hM hb0 ⊢
  have m0 := hM.cell 0
  have m1 := hM.cell 1
  have m2 := hM.cell 2
  have m3 := hM.cell 3
  have m4 := hM.cell 4
  have m5 := hM.cell 5
  have m6 := hM.cell 6
  have m7 := hM.cell 7
  go_upto_region 3 with (go_at_call 11; refine (hchk _).mono ?_; rintro e w2 ⟨rfl, hb2⟩)
  have hM2 := hM.below hb2 hM.lt
  have hk : -2000000000 ≤ m.kind ∧ m.kind ≤ 2000000000 := by cases hm <;> simp only <;> omega
  have hp := put_one m.kind w2 (by omega) (by omega)
  have c0 : w2.cell? ⟨w.heap.size, 0, none⟩ = some (.int .i64 m.kind) := hM2.cell 0
  have hb12 := hb0.trans (hb2.mono hb0.size)
  clear m0 m1 m2 m3 m4 m5 m6 m7 hchk hb0 hb2 hM
  go_upto_region 6 with (go_at_call 13; refine hp.mono ?_; rintro e w3 ⟨rfl, hb3⟩)
  have hlt2 := hM2.lt
  have hmid : Mid w w.heap.size w3.heap.size m ⟨(putL [m.kind]).toArray⟩ (w3.alloc (.cells #[.string ⟨(putL [m.kind]).toArray⟩] 9)) :=
    ⟨(hM2.below hb3 hM2.lt).alloc _, Blk.new w3 9 #[.string ⟨(putL [m.kind]).toArray⟩], (hb12.trans (hb3.mono (Nat.le_of_lt hlt2))).alloc (Nat.le_of_lt (Nat.lt_of_lt_of_le hlt2 hb3.size)) _, Nat.lt_of_lt_of_le hlt2 hb3.size⟩
  generalize w3.alloc (.cells #[.string ⟨(putL [m.kind]).toArray⟩] 9) = w4 at hmid ⊢
  clear hp c0 hb12 hb3 hM2 hlt2
  generalize w3.heap.size = B at hmid ⊢
  have hs0 : (⟨(putL [m.kind]).toArray⟩ : ByteArray).size ≤ 10 := put_size [m.kind] (fun n hn => by simp at hn; omega)
  clear hk
  generalize hM : w.heap.size = M at hmid ⊢
  have m0 := hmid.box.cell 0
  have m1 := hmid.box.cell 1
  have m2 := hmid.box.cell 2
  have m3 := hmid.box.cell 3
  have m4 := hmid.box.cell 4
  have m5 := hmid.box.cell 5
  have m6 := hmid.box.cell 6
  have m7 := hmid.box.cell 7
  have Hs := Lib.hid hs0
  have Hm := Lib.hid hmid
  have Hb := Lib.hid hbs
  have HM := Lib.hid hM
  clear hs0 hmid hbs hM
  cases hm with
  | none k hk =>
    have HE : (⟨(putL [k]).toArray⟩ : ByteArray) = bodyB ⟨k, 0, 0, false, ⟨#[]⟩, ⟨#[]⟩, 0, 0⟩ := by
      rcases hk with rfl | rfl <;> simp [bodyB, bodyP, restP]
    have q0 : w4.cell? ⟨B, 0, none⟩ = some (.string (bodyB ⟨k, 0, 0, false, ⟨#[]⟩, ⟨#[]⟩, 0, 0⟩)) := by
      rw [← HE]
      exact Hm.out.text.cell 0
    have hw := wrap_any (bodyB ⟨k, 0, 0, false, ⟨#[]⟩, ⟨#[]⟩, 0, 0⟩) w4 (Nat.le_trans Hb.out (by decide))
    clear HE
    rcases hk with rfl | rfl
    · go_wp2_with (go_at_call 17; refine hw.mono ?_; rintro e w5 ⟨rfl, hb5⟩)
      go_ret2
      exact ⟨rfl, by rw [HM.out]; exact Hm.out.below.trans (hb5.mono (Nat.le_of_lt Hm.out.box.lt))⟩
    · go_wp2_with (go_at_call 17; refine hw.mono ?_; rintro e w5 ⟨rfl, hb5⟩)
      go_ret2
      exact ⟨rfl, by rw [HM.out]; exact Hm.out.below.trans (hb5.mono (Nat.le_of_lt Hm.out.box.lt))⟩
  | hand k p n c hk hp hn hc =>
    have HE : ((⟨(putL [k]).toArray⟩ : ByteArray) ++ ⟨(putL [(n : Int), (c : Int)]).toArray⟩) ++ ⟨(txt p).toArray⟩ = bodyB ⟨k, 0, 0, false, ⟨#[]⟩, p, n, c⟩ := by
      rw [ba2, ba2]
      rcases hk with rfl | rfl <;> simp [bodyB, bodyP, restP]
    have HE := Lib.hid HE
    have hF : Fit [(n : Int), (c : Int)] := fit_in (fun x hx => by
      simp at hx
      rcases hx with rfl | rfl <;> omega)
    have hz := put_size [(n : Int), (c : Int)] hF
    have hz2 : (((⟨(putL [k]).toArray⟩ : ByteArray) ++ ⟨(putL [(n : Int), (c : Int)]).toArray⟩)).size ≤ 1000 := by
      rw [ByteArray.size_append]
      have := Hs.out
      simp only [List.length_cons, List.length_nil] at hz
      simp only at this
      omega
    have Hz2 := Lib.hid hz2
    clear hz hz2
    have Hpz := Lib.hid (show p.size ≤ 100 by have := hp.1; omega)
    have hput := put_clo B _ (some ⟨w4.heap.size, 0, none⟩) 2 2 [(n : Int), (c : Int)] (w4.alloc (.cells #[.int .i64 (n : Int), .int .i64 (c : Int)] 3)) (Hm.out.alloc _).text rfl (Ints.new w4 [(n : Int), (c : Int)] 3) hF (by decide) (Nat.le_trans Hs.out (by decide))
    rcases hk with rfl | rfl
    · go_upto_region 15 with (go_at_call 14; refine hput.mono ?_; rintro e w5 ⟨rfl, h1, h2⟩)
      have Hm5 := Lib.hid ((Hm.out.alloc _).put h1 h2)
      have m0 := Hm5.out.box.cell 0
      have m4 := Hm5.out.box.cell 4
      have m5 := Hm5.out.box.cell 5
      clear hput h1 h2
      have htxt := text_clo B _ p w5 Hm5.out.text Hpz.out Hz2.out
      go_upto_region 23 with (go_at_call 15; refine htxt.mono ?_; rintro e w6 ⟨rfl, h3, h4⟩)
      have Hm6 := Lib.hid (Hm5.out.put h3 h4)
      clear htxt h3 h4
      have q0 : w6.cell? ⟨B, 0, none⟩ = some (.string (bodyB ⟨8, 0, 0, false, ⟨#[]⟩, p, n, c⟩)) := by
        rw [← HE.out]
        exact Hm6.out.text.cell 0
      have hw := wrap_any (bodyB ⟨8, 0, 0, false, ⟨#[]⟩, p, n, c⟩) w6 (Nat.le_trans Hb.out (by decide))
      go_wp2_with (go_at_call 17; refine hw.mono ?_; rintro e w7 ⟨rfl, hb7⟩)
      go_ret2
      exact ⟨rfl, by rw [HM.out]; exact Hm6.out.below.trans (hb7.mono (Nat.le_of_lt Hm6.out.box.lt))⟩
    · go_upto_region 15 with (go_at_call 14; refine hput.mono ?_; rintro e w5 ⟨rfl, h1, h2⟩)
      have Hm5 := Lib.hid ((Hm.out.alloc _).put h1 h2)
      have m0 := Hm5.out.box.cell 0
      have m4 := Hm5.out.box.cell 4
      have m5 := Hm5.out.box.cell 5
      clear hput h1 h2
      have htxt := text_clo B _ p w5 Hm5.out.text Hpz.out Hz2.out
      go_upto_region 23 with (go_at_call 15; refine htxt.mono ?_; rintro e w6 ⟨rfl, h3, h4⟩)
      have Hm6 := Lib.hid (Hm5.out.put h3 h4)
      clear htxt h3 h4
      have q0 : w6.cell? ⟨B, 0, none⟩ = some (.string (bodyB ⟨9, 0, 0, false, ⟨#[]⟩, p, n, c⟩)) := by
        rw [← HE.out]
        exact Hm6.out.text.cell 0
      have hw := wrap_any (bodyB ⟨9, 0, 0, false, ⟨#[]⟩, p, n, c⟩) w6 (Nat.le_trans Hb.out (by decide))
      go_wp2_with (go_at_call 17; refine hw.mono ?_; rintro e w7 ⟨rfl, hb7⟩)
      go_ret2
      exact ⟨rfl, by rw [HM.out]; exact Hm6.out.below.trans (hb7.mono (Nat.le_of_lt Hm6.out.box.lt))⟩
  | path k p hk hp =>
    have HE : (⟨(putL [k]).toArray⟩ : ByteArray) ++ ⟨(txt p).toArray⟩ = bodyB ⟨k, 0, 0, false, ⟨#[]⟩, p, 0, 0⟩ := by
      rw [ba2]
      rcases hk with rfl | rfl <;> simp [bodyB, bodyP, restP]
    have HE := Lib.hid HE
    have Hpz := Lib.hid (show p.size ≤ 100 by have := hp.1; omega)
    rcases hk with rfl | rfl
    · have htxt := text_clo B _ p w4 Hm.out.text Hpz.out (Nat.le_trans Hs.out (by decide))
      go_upto_region 23 with (go_at_call 15; refine htxt.mono ?_; rintro e w6 ⟨rfl, h3, h4⟩)
      have Hm6 := Lib.hid (Hm.out.put h3 h4)
      clear htxt h3 h4
      have q0 : w6.cell? ⟨B, 0, none⟩ = some (.string (bodyB ⟨2, 0, 0, false, ⟨#[]⟩, p, 0, 0⟩)) := by
        rw [← HE.out]
        exact Hm6.out.text.cell 0
      have hw := wrap_any (bodyB ⟨2, 0, 0, false, ⟨#[]⟩, p, 0, 0⟩) w6 (Nat.le_trans Hb.out (by decide))
      go_wp2_with (go_at_call 17; refine hw.mono ?_; rintro e w7 ⟨rfl, hb7⟩)
      go_ret2
      exact ⟨rfl, by rw [HM.out]; exact Hm6.out.below.trans (hb7.mono (Nat.le_of_lt Hm6.out.box.lt))⟩
    · have htxt := text_clo B _ p w4 Hm.out.text Hpz.out (Nat.le_trans Hs.out (by decide))
      go_upto_region 23 with (go_at_call 15; refine htxt.mono ?_; rintro e w6 ⟨rfl, h3, h4⟩)
      have Hm6 := Lib.hid (Hm.out.put h3 h4)
      clear htxt h3 h4
      have q0 : w6.cell? ⟨B, 0, none⟩ = some (.string (bodyB ⟨4, 0, 0, false, ⟨#[]⟩, p, 0, 0⟩)) := by
        rw [← HE.out]
        exact Hm6.out.text.cell 0
      have hw := wrap_any (bodyB ⟨4, 0, 0, false, ⟨#[]⟩, p, 0, 0⟩) w6 (Nat.le_trans Hb.out (by decide))
      go_wp2_with (go_at_call 17; refine hw.mono ?_; rintro e w7 ⟨rfl, hb7⟩)
      go_ret2
      exact ⟨rfl, by rw [HM.out]; exact Hm6.out.below.trans (hb7.mono (Nat.le_of_lt Hm6.out.box.lt))⟩
  | refuse n hn =>
    have HE : ((⟨(putL [(3 : Int)]).toArray⟩ : ByteArray) ++ ⟨(putL [(n : Int)]).toArray⟩) = bodyB ⟨3, 0, 0, false, ⟨#[]⟩, ⟨#[]⟩, n, 0⟩ := by
      rw [ba2]
      simp [bodyB, bodyP, restP]
    have HE := Lib.hid HE
    have hF : Fit [(n : Int)] := fit_in (fun x hx => by
      simp at hx
      omega)
    have hz := put_size [(n : Int)] hF
    have hz2 : (((⟨(putL [(3 : Int)]).toArray⟩ : ByteArray) ++ ⟨(putL [(n : Int)]).toArray⟩)).size ≤ 1000 := by
      rw [ByteArray.size_append]
      have := Hs.out
      simp only [List.length_cons, List.length_nil] at hz
      simp only at this
      omega
    have Hz2 := Lib.hid hz2
    clear hz hz2
    have hput := put_clo B _ (some ⟨w4.heap.size, 0, none⟩) 1 1 [(n : Int)] (w4.alloc (.cells #[.int .i64 (n : Int)] 3)) (Hm.out.alloc _).text rfl (Ints.new w4 [(n : Int)] 3) hF (by decide) (Nat.le_trans Hs.out (by decide))
    go_upto_region 23 with (go_at_call 14; refine hput.mono ?_; rintro e w5 ⟨rfl, h1, h2⟩)
    have Hm5 := Lib.hid ((Hm.out.alloc _).put h1 h2)
    have m0 := Hm5.out.box.cell 0
    have m4 := Hm5.out.box.cell 4
    have m5 := Hm5.out.box.cell 5
    clear hput h1 h2
    have q0 : w5.cell? ⟨B, 0, none⟩ = some (.string (bodyB ⟨3, 0, 0, false, ⟨#[]⟩, ⟨#[]⟩, n, 0⟩)) := by
      rw [← HE.out]
      exact Hm5.out.text.cell 0
    have hw := wrap_any (bodyB ⟨3, 0, 0, false, ⟨#[]⟩, ⟨#[]⟩, n, 0⟩) w5 (Nat.le_trans Hb.out (by decide))
    go_wp2_with (go_at_call 17; refine hw.mono ?_; rintro e w7 ⟨rfl, hb7⟩)
    go_ret2
    exact ⟨rfl, by rw [HM.out]; exact Hm5.out.below.trans (hb7.mono (Nat.le_of_lt Hm5.out.box.lt))⟩
  | alive g s key hg hs =>
    cases key with
    | false =>
      have HE : ((⟨(putL [(5 : Int)]).toArray⟩ : ByteArray) ++ ⟨(putL [g, s, 0]).toArray⟩) = bodyB ⟨5, g, s, false, ⟨#[]⟩, ⟨#[]⟩, 0, 0⟩ := by
        rw [ba2]
        simp [bodyB, bodyP, restP, keyN]
      have HE := Lib.hid HE
      have hF : Fit [g, s, 0] := fit_in (fun x hx => by
        simp at hx
        rcases hx with rfl | rfl | rfl <;> omega)
      have hz := put_size [g, s, 0] hF
      have hz2 : (((⟨(putL [(5 : Int)]).toArray⟩ : ByteArray) ++ ⟨(putL [g, s, 0]).toArray⟩)).size ≤ 1000 := by
        rw [ByteArray.size_append]
        have := Hs.out
        simp only [List.length_cons, List.length_nil] at hz
        simp only at this
        omega
      have Hz2 := Lib.hid hz2
      clear hz hz2
      have hput := put_clo B _ (some ⟨w4.heap.size, 0, none⟩) 3 3 [g, s, 0] (w4.alloc (.cells #[.int .i64 g, .int .i64 s, .int .i64 0] 3)) (Hm.out.alloc _).text rfl (Ints.new w4 [g, s, 0] 3) hF (by decide) (Nat.le_trans Hs.out (by decide))
      go_upto_region 21 with (go_at_call 14; refine hput.mono ?_; rintro e w5 ⟨rfl, h1, h2⟩)
      have Hm5 := Lib.hid ((Hm.out.alloc _).put h1 h2)
      have m0 := Hm5.out.box.cell 0
      have m4 := Hm5.out.box.cell 4
      have m5 := Hm5.out.box.cell 5
      clear hput h1 h2
      have q0 : w5.cell? ⟨B, 0, none⟩ = some (.string (bodyB ⟨5, g, s, false, ⟨#[]⟩, ⟨#[]⟩, 0, 0⟩)) := by
        rw [← HE.out]
        exact Hm5.out.text.cell 0
      have hw := wrap_any (bodyB ⟨5, g, s, false, ⟨#[]⟩, ⟨#[]⟩, 0, 0⟩) w5 (Nat.le_trans Hb.out (by decide))
      go_wp2_with (go_at_call 17; refine hw.mono ?_; rintro e w7 ⟨rfl, hb7⟩)
      go_ret2
      exact ⟨rfl, by rw [HM.out]; exact Hm5.out.below.trans (hb7.mono (Nat.le_of_lt Hm5.out.box.lt))⟩
    | true =>
      have HE : ((⟨(putL [(5 : Int)]).toArray⟩ : ByteArray) ++ ⟨(putL [g, s, 1]).toArray⟩) = bodyB ⟨5, g, s, true, ⟨#[]⟩, ⟨#[]⟩, 0, 0⟩ := by
        rw [ba2]
        simp [bodyB, bodyP, restP, keyN]
      have HE := Lib.hid HE
      have hF : Fit [g, s, 1] := fit_in (fun x hx => by
        simp at hx
        rcases hx with rfl | rfl | rfl <;> omega)
      have hz := put_size [g, s, 1] hF
      have hz2 : (((⟨(putL [(5 : Int)]).toArray⟩ : ByteArray) ++ ⟨(putL [g, s, 1]).toArray⟩)).size ≤ 1000 := by
        rw [ByteArray.size_append]
        have := Hs.out
        simp only [List.length_cons, List.length_nil] at hz
        simp only at this
        omega
      have Hz2 := Lib.hid hz2
      clear hz hz2
      have hput := put_clo B _ (some ⟨w4.heap.size, 0, none⟩) 3 3 [g, s, 1] (w4.alloc (.cells #[.int .i64 g, .int .i64 s, .int .i64 1] 3)) (Hm.out.alloc _).text rfl (Ints.new w4 [g, s, 1] 3) hF (by decide) (Nat.le_trans Hs.out (by decide))
      go_upto_region 21 with (go_at_call 14; refine hput.mono ?_; rintro e w5 ⟨rfl, h1, h2⟩)
      have Hm5 := Lib.hid ((Hm.out.alloc _).put h1 h2)
      have m0 := Hm5.out.box.cell 0
      have m4 := Hm5.out.box.cell 4
      have m5 := Hm5.out.box.cell 5
      clear hput h1 h2
      have q0 : w5.cell? ⟨B, 0, none⟩ = some (.string (bodyB ⟨5, g, s, true, ⟨#[]⟩, ⟨#[]⟩, 0, 0⟩)) := by
        rw [← HE.out]
        exact Hm5.out.text.cell 0
      have hw := wrap_any (bodyB ⟨5, g, s, true, ⟨#[]⟩, ⟨#[]⟩, 0, 0⟩) w5 (Nat.le_trans Hb.out (by decide))
      go_wp2_with (go_at_call 17; refine hw.mono ?_; rintro e w7 ⟨rfl, hb7⟩)
      go_ret2
      exact ⟨rfl, by rw [HM.out]; exact Hm5.out.below.trans (hb7.mono (Nat.le_of_lt Hm5.out.box.lt))⟩
  | frame g s key b hg hs hb =>
    cases key with
    | false =>
      have HE : ((⟨(putL [(6 : Int)]).toArray⟩ : ByteArray) ++ ⟨(putL [g, s, 0]).toArray⟩) ++ ⟨(txt b).toArray⟩ = bodyB ⟨6, g, s, false, b, ⟨#[]⟩, 0, 0⟩ := by
        rw [ba2, ba2]
        simp [bodyB, bodyP, restP, keyN]
      have HE := Lib.hid HE
      have hF : Fit [g, s, 0] := fit_in (fun x hx => by
        simp at hx
        rcases hx with rfl | rfl | rfl <;> omega)
      have hz := put_size [g, s, 0] hF
      have hz2 : (((⟨(putL [(6 : Int)]).toArray⟩ : ByteArray) ++ ⟨(putL [g, s, 0]).toArray⟩)).size ≤ 1000 := by
        rw [ByteArray.size_append]
        have := Hs.out
        simp only [List.length_cons, List.length_nil] at hz
        simp only at this
        omega
      have Hz2 := Lib.hid hz2
      clear hz hz2
      have Hpz := Lib.hid (show b.size ≤ 100 by omega)
      have hput := put_clo B _ (some ⟨w4.heap.size, 0, none⟩) 3 3 [g, s, 0] (w4.alloc (.cells #[.int .i64 g, .int .i64 s, .int .i64 0] 3)) (Hm.out.alloc _).text rfl (Ints.new w4 [g, s, 0] 3) hF (by decide) (Nat.le_trans Hs.out (by decide))
      go_upto_region 21 with (go_at_call 14; refine hput.mono ?_; rintro e w5 ⟨rfl, h1, h2⟩)
      have Hm5 := Lib.hid ((Hm.out.alloc _).put h1 h2)
      have m0 := Hm5.out.box.cell 0
      have m4 := Hm5.out.box.cell 4
      have m5 := Hm5.out.box.cell 5
      clear hput h1 h2
      have htxt := text_clo B _ b w5 Hm5.out.text Hpz.out Hz2.out
      go_upto_region 23 with (go_at_call 15; refine htxt.mono ?_; rintro e w6 ⟨rfl, h3, h4⟩)
      have Hm6 := Lib.hid (Hm5.out.put h3 h4)
      clear htxt h3 h4
      have q0 : w6.cell? ⟨B, 0, none⟩ = some (.string (bodyB ⟨6, g, s, false, b, ⟨#[]⟩, 0, 0⟩)) := by
        rw [← HE.out]
        exact Hm6.out.text.cell 0
      have hw := wrap_any (bodyB ⟨6, g, s, false, b, ⟨#[]⟩, 0, 0⟩) w6 (Nat.le_trans Hb.out (by decide))
      go_wp2_with (go_at_call 17; refine hw.mono ?_; rintro e w7 ⟨rfl, hb7⟩)
      go_ret2
      exact ⟨rfl, by rw [HM.out]; exact Hm6.out.below.trans (hb7.mono (Nat.le_of_lt Hm6.out.box.lt))⟩
    | true =>
      have HE : ((⟨(putL [(6 : Int)]).toArray⟩ : ByteArray) ++ ⟨(putL [g, s, 1]).toArray⟩) ++ ⟨(txt b).toArray⟩ = bodyB ⟨6, g, s, true, b, ⟨#[]⟩, 0, 0⟩ := by
        rw [ba2, ba2]
        simp [bodyB, bodyP, restP, keyN]
      have HE := Lib.hid HE
      have hF : Fit [g, s, 1] := fit_in (fun x hx => by
        simp at hx
        rcases hx with rfl | rfl | rfl <;> omega)
      have hz := put_size [g, s, 1] hF
      have hz2 : (((⟨(putL [(6 : Int)]).toArray⟩ : ByteArray) ++ ⟨(putL [g, s, 1]).toArray⟩)).size ≤ 1000 := by
        rw [ByteArray.size_append]
        have := Hs.out
        simp only [List.length_cons, List.length_nil] at hz
        simp only at this
        omega
      have Hz2 := Lib.hid hz2
      clear hz hz2
      have Hpz := Lib.hid (show b.size ≤ 100 by omega)
      have hput := put_clo B _ (some ⟨w4.heap.size, 0, none⟩) 3 3 [g, s, 1] (w4.alloc (.cells #[.int .i64 g, .int .i64 s, .int .i64 1] 3)) (Hm.out.alloc _).text rfl (Ints.new w4 [g, s, 1] 3) hF (by decide) (Nat.le_trans Hs.out (by decide))
      go_upto_region 21 with (go_at_call 14; refine hput.mono ?_; rintro e w5 ⟨rfl, h1, h2⟩)
      have Hm5 := Lib.hid ((Hm.out.alloc _).put h1 h2)
      have m0 := Hm5.out.box.cell 0
      have m4 := Hm5.out.box.cell 4
      have m5 := Hm5.out.box.cell 5
      clear hput h1 h2
      have htxt := text_clo B _ b w5 Hm5.out.text Hpz.out Hz2.out
      go_upto_region 23 with (go_at_call 15; refine htxt.mono ?_; rintro e w6 ⟨rfl, h3, h4⟩)
      have Hm6 := Lib.hid (Hm5.out.put h3 h4)
      clear htxt h3 h4
      have q0 : w6.cell? ⟨B, 0, none⟩ = some (.string (bodyB ⟨6, g, s, true, b, ⟨#[]⟩, 0, 0⟩)) := by
        rw [← HE.out]
        exact Hm6.out.text.cell 0
      have hw := wrap_any (bodyB ⟨6, g, s, true, b, ⟨#[]⟩, 0, 0⟩) w6 (Nat.le_trans Hb.out (by decide))
      go_wp2_with (go_at_call 17; refine hw.mono ?_; rintro e w7 ⟨rfl, hb7⟩)
      go_ret2
      exact ⟨rfl, by rw [HM.out]; exact Hm6.out.below.trans (hb7.mono (Nat.le_of_lt Hm6.out.box.lt))⟩
end Go.Proofs.YtndlnphklklclaaDoorRR
