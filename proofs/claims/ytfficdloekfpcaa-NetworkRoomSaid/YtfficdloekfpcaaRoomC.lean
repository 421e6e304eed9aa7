/- NetworkRoom's steps: what each may send or take. (Types and functions by this seat's numbers.) -/
import Derived.Test.YtfficdloekfpcaaOutW
import Derived.Test.YtfficdloekfpcaaTakeW
import Derived.Test.YtfficdloekfpcaaRoomLaw
import Derived.Test.YtfficdloekfpcaaOpenN
import Derived.Deep.RegionHeld3
namespace Go.Proofs.Ytfficdloekfpcaa
open Go.RowKit Go.Maps
theorem NetAt.below {w w' : World} {m nn : Nat} {room lost : Int} {ps : List (Int × Int × ByteArray)} {f : Int → Int → Int} (h : NetAt w m nn room ps lost f) (hb : Below w.heap.size w w') : NetAt w' m nn room ps lost f := by
  obtain ⟨A, c, hB, hM, hO⟩ := h
  exact ⟨A, c, hB.below hb hB.lt, hM.below hb hM.lt, hO.kept (⟨hb.os, hb.tape, hb.output, hb.size, fun k hk _ => hb.block k hk⟩ : w.grownBy w' (some w.heap.size)) (.inr fun e => by have := (hO.lt _ e).2; omega)⟩
set_option maxRecDepth 100000 in
theorem send_self (m nn : Nat) (room : Int) (ps : List (Int × Int × ByteArray)) (lost : Int) (f : Int → Int → Int) (a : Int) (s : ByteArray) (w : World) (h : NetAt w m nn room ps lost f) (ha : 0 ≤ a ∧ a < 16) :
    Calls Try.prog 8 #[.pointer (some ⟨m + 1, 0, none⟩), .agg #[.int .i64 a, .int .i64 a, .string s]] w fun e w' => e = .returned (.bool false) ∧ NetAt w' m nn room ps lost f ∧ Below m w w' := by
  have hA := h.alloc (.cells #[.int .i64 a, .int .i64 a, .string s] 27)
  have hmlt := h.lt
  have e1 : decide (0 ≤ a ∧ a < 16) = true := decide_eq_true ha
  have hb2' := hA.map
  go_enter Try.func8, Try.ntmps8
  go_wp2_with fail
  refine (none_no (m + 1) m _ hb2').mono ?_
  rintro e w1 ⟨rfl, rfl⟩
  go_wp2_with fail
  refine (isNode_any a _).mono ?_
  rintro e w1 ⟨rfl, rfl⟩
  rw [e1]
  go_wp2_with fail
  refine (isNode_any a _).mono ?_
  rintro e w1 ⟨rfl, rfl⟩
  rw [e1]
  go_wp2_with fail
  go_ret
  exact ⟨rfl, hA, (Below.refl m w).alloc (by omega) _⟩
def Net23 (w : World) (m B : Nat) (room : Int) (N : Nat) : Prop := ∃ (nn : Nat) (ps : List (Int × Int × ByteArray)) (f : Int → Int → Int) (lost : Int), NetAt w m nn room ps lost f ∧ InvW ps f room ∧ ps.length = N ∧ nn ≤ 2 * B ∧ 0 ≤ lost ∧ lost ≤ B
theorem Net23.more {w : World} {m B : Nat} {room : Int} {N : Nat} (h : Net23 w m B room N) : Net23 w m (B + 1) room N := by
  obtain ⟨nn, ps, f, lost, h1, h2, h3, h4, h5, h6⟩ := h
  exact ⟨nn, ps, f, lost, h1, h2, h3, by omega, h5, by omega⟩
theorem Net23.below {w w' : World} {m B : Nat} {room : Int} {N : Nat} (h : Net23 w m B room N) (hb : Below w.heap.size w w') : Net23 w' m B room N := by
  obtain ⟨nn, ps, f, lost, h1, h2⟩ := h
  exact ⟨nn, ps, f, lost, h1.below hb, h2⟩
theorem Net23.lt {w : World} {m B : Nat} {room : Int} {N : Nat} (h : Net23 w m B room N) : m + 1 < w.heap.size := by
  obtain ⟨nn, ps, f, lost, h1, h2⟩ := h
  exact h1.lt
/-- What a step that may send tells. -/
def Sent23 (m B : Nat) (room : Int) (N : Nat) (w : World) (e : Ending) (w' : World) : Prop := ∃ ok : Bool, e = .returned (.bool ok) ∧ Net23 w' m (B + 1) room (N + ok.toNat) ∧ Below m w w'
theorem send23 (m B : Nat) (room : Int) (N : Nat) (a c : Nat) (s : ByteArray) (w : World) (h : Net23 w m B room N) (hB : B ≤ 1000) (hN : N ≤ 1000) (ha : a ≤ 3) (hc : c ≤ 3) (hs : s.size ≤ 4100) :
    Calls Try.prog 8 #[.pointer (some ⟨m + 1, 0, none⟩), .agg #[.int .i64 (a : Nat), .int .i64 (c : Nat), .string s]] w (Sent23 m B room N w) := by
  obtain ⟨nn, ps, f, lost, h1, h2, h3, h4, h5, h6⟩ := h
  by_cases hac : a = c
  · subst hac
    exact (send_self m nn room ps lost f (a : Nat) s w h1 (by omega)).mono fun e w' ⟨he, hN', hb⟩ => ⟨false, he, ⟨nn, ps, f, lost, hN', h2, h3, by omega, h5, by omega⟩, hb⟩
  · have hp := h2.pos (a : Nat) (c : Nat)
    have hle := h2.le (a : Nat) (c : Nat)
    by_cases hf : f (a : Nat) (c : Nat) < room
    · exact (send_ok m nn room ps lost f (a : Nat) (c : Nat) s w h1 (by omega) (by omega) (by omega) (by omega) (by omega) hs hf (by omega)).mono fun e w' ⟨he, hN', hb⟩ => ⟨true, he, ⟨nn + 2, _, _, lost, hN', h2.send (by omega) (by omega) (by omega) hs hf, by simp; omega, by omega, h5, by omega⟩, hb⟩
    · exact (send_full m nn room ps lost f (a : Nat) (c : Nat) s w h1 (by omega) (by omega) (by omega) hs (by omega) (by omega)).mono fun e w' ⟨he, hN', hb⟩ => ⟨false, he, ⟨nn, ps, f, lost + 1, hN', h2, h3, by omega, by omega, by omega⟩, hb⟩
set_option maxRecDepth 100000 in
theorem inject23 (m B : Nat) (room : Int) (N : Nat) (a c : Nat) (s : ByteArray) (w : World) (h : Net23 w m B room N) (hB : B ≤ 1000) (hN : N ≤ 1000) (ha : a ≤ 3) (hc : c ≤ 3) (hs : s.size ≤ 4100) :
    Calls Try.prog 15 #[.pointer (some ⟨m + 1, 0, none⟩), .agg #[.int .i64 (a : Nat), .int .i64 (c : Nat), .string s]] w (Sent23 m B room N w) := by
  have hP := Blk.new w 27 #[.int .i64 (a : Nat), .int .i64 (c : Nat), .string s]
  have hb0 : Below w.heap.size w (w.alloc (.cells #[.int .i64 (a : Nat), .int .i64 (c : Nat), .string s] 27)) := (Below.refl _ _).alloc (Nat.le_refl _) _
  have hlt := h.lt
  go_enter Try.func15, Try.ntmps15
  go_wp2_with fail
  refine (open_any s _ (by unfold maxLen; omega)).mono ?_
  rintro e w1 ⟨rfl, hb1⟩
  have hP1 := hP.below hb1 hP.lt
  have hb2 := hb0.trans (hb1.mono hb0.size)
  have hh := h.below hb2
  have p0 := hP1.cell 0
  have p1 := hP1.cell 1
  have p2 := hP1.cell 2
  simp at p0 p1 p2
  generalize openP s = oo
  by_cases hoo : oo.2 = 0
  · have hv : errV oo.2 = .nilIface := by unfold errV; rw [if_pos hoo]
    rw [hv]
    clear hv
    go_wp2_with fail
    go_ret
    exact ⟨false, rfl, hh.more, hb2.mono (by omega)⟩
  · have hv : errV oo.2 = .iface 51 (.int .i64 oo.2) := by unfold errV; rw [if_neg hoo]
    rw [hv]
    clear hv
    go_wp2_with fail
    refine (send23 m B room N a c s w1 hh hB hN ha hc hs).mono ?_
    rintro e w3 ⟨ok, rfl, h3, hb3⟩
    go_wp2_with fail
    go_ret
    exact ⟨ok, rfl, h3, (hb2.mono (by omega)).trans hb3⟩
/-- What a step that may take tells. -/
def Took23 (m B : Nat) (room : Int) (N : Nat) (w : World) (e : Ending) (w' : World) : Prop := ∃ (ok : Bool) (a c : Int) (s : ByteArray), e = .returned (.tuple #[.agg #[.int .i64 a, .int .i64 c, .string s], .bool ok]) ∧ ok.toNat ≤ N ∧ Net23 w' m (B + 1) room (N - ok.toNat) ∧ Below m w w'
theorem take23 (m B : Nat) (room : Int) (N : Nat) (i : Nat) (w : World) (h : Net23 w m B room N) (hB : B ≤ 1000) (hN : N ≤ 1000) :
    Calls Try.prog 9 #[.pointer (some ⟨m + 1, 0, none⟩), .int .i64 (i : Nat)] w (Took23 m B room N w) := by
  have hlt := h.lt
  obtain ⟨nn, ps, f, lost, h1, h2, h3, h4, h5, h6⟩ := h
  by_cases hi : i < ps.length
  · obtain ⟨⟨a, c, s⟩, hp⟩ : ∃ p, ps[i]? = some p := ⟨_, List.getElem?_eq_getElem hi⟩
    have hok := h2.ok _ (List.mem_of_getElem? hp)
    simp only at hok
    have hle := h2.le a c
    have ht := h2.take hp
    have hpos : 0 < f a c := by
      have := ht.pos a c
      unfold setF at this
      simp at this
      omega
    exact (take_any m nn room lost ps f i a c s w h1 hi hp (by omega) (by omega) (by omega) (by omega) (by omega)).mono fun e w' ⟨he, hN', hb⟩ => ⟨true, a, c, s, he, by simp; omega, ⟨nn + 2, _, _, lost, hN', ht, by rw [List.length_eraseIdx, if_pos hi]; simp; omega, by omega, h5, by omega⟩, hb⟩
  · exact (take_out m nn room lost ps f i w h1 (.inr (by omega))).mono fun e w' ⟨he, hN', hb⟩ => ⟨false, 0, 0, _, he, by simp, ⟨nn, ps, f, lost, hN', h2, h3, by omega, h5, by omega⟩, hb.mono (by omega)⟩
def Drop23 (m B : Nat) (room : Int) (N : Nat) (w : World) (e : Ending) (w' : World) : Prop := ∃ (ok : Bool), e = .returned (.bool ok) ∧ ok.toNat ≤ N ∧ Net23 w' m (B + 1) room (N - ok.toNat) ∧ Below m w w'
set_option maxRecDepth 100000 in
theorem drop23 (m B : Nat) (room : Int) (N : Nat) (i : Nat) (w : World) (h : Net23 w m B room N) (hB : B ≤ 1000) (hN : N ≤ 1000) :
    Calls Try.prog 12 #[.pointer (some ⟨m + 1, 0, none⟩), .int .i64 (i : Nat)] w (Drop23 m B room N w) := by
  go_enter Try.func12, Try.ntmps12
  go_wp2_with fail
  refine (take23 m B room N i w h hB hN).mono ?_
  rintro e w1 ⟨ok, a, c, s, rfl, hk, h1, hb1⟩
  have hl1 := h1.lt
  go_wp2_with fail
  go_ret
  exact ⟨ok, rfl, hk, h1.below ((Below.refl _ _).alloc (Nat.le_refl _) _), hb1.alloc (by omega) _⟩
theorem net_row {w : World} {m nn : Nat} {room lost : Int} {ps : List (Int × Int × ByteArray)} {f : Int → Int → Int} (h : NetAt w m nn room ps lost f) {i : Nat} {a c : Int} {s : ByteArray} (hi : i < ps.length) (hp : ps[i]? = some (a, c, s)) :
    ∃ g cap, Blk w (m + 1) 45 (netCells room (some ⟨g, 0, none⟩) ps.length cap m lost) ∧ w.cell? ⟨g, i * 3, none⟩ = some (.int .i64 a) ∧ w.cell? ⟨g, i * 3 + 1, none⟩ = some (.int .i64 c) ∧ w.cell? ⟨g, i * 3 + 2, none⟩ = some (.string s) ∧ g < w.heap.size := by
  obtain ⟨A, cp, hB, hM, hO⟩ := h
  rcases hO.2 with ⟨h, h0⟩ | ⟨g, cap', cur, h1, h2, h3, h4, h4b, h5, h6⟩
  · omega
  · injection h1 with h1 _ h8
    subst h1
    subst h8
    have hcell : ∀ q, q < ps.length * 3 → cur[q]? = (pkCells ps)[q]? := fun q hq => by
      have h := congrArg (fun l => l[q]?) h6
      simp only [List.getElem?_take, if_pos hq, Array.getElem?_toList] at h
      exact h
    have hpk : pkCells ps = pkCells (ps.take i) ++ ([.int .i64 a, .int .i64 c, .string s] ++ pkCells (ps.drop (i + 1))) := by
      have h1 : ps = ps.take i ++ ((a, c, s) :: ps.drop (i + 1)) := by
        have h2 : ps[i] = (a, c, s) := (List.getElem?_eq_some_iff.1 hp).2
        rw [← h2, List.getElem_cons_drop, List.take_append_drop]
      conv => lhs; rw [h1]
      rw [pk_append]
      rfl
    have l1 : (pkCells (ps.take i)).length = i * 3 := by rw [pk_length, List.length_take]; omega
    have hG : Blk w g 27 cur := h3
    have hk : ∀ k, k < 3 → w.cell? ⟨g, i * 3 + k, none⟩ = ([.int .i64 a, .int .i64 c, .string s] : List Value)[k]? := fun k hk => by
      rw [hG.cell, hcell _ (by omega), hpk, List.getElem?_append_right (by omega), l1, show i * 3 + k - i * 3 = k from by omega, List.getElem?_append_left (by simpa using hk)]
    exact ⟨g, cp, hB, hk 0 (by omega), hk 1 (by omega), hk 2 (by omega), hG.lt⟩
set_option maxRecDepth 100000 in
set_option maxHeartbeats 1000000 in
theorem copyFn (m B g i T : Nat) (room : Int) (N : Nat) (a c : Nat) (s : ByteArray) (w : World) (h : Net23 w m B room N) (hB : B ≤ 1000) (hN : N ≤ 1000) (ha : a ≤ 3) (hc : c ≤ 3) (hs : s.size ≤ 4100)
    (g0 : w.cell? ⟨g, i * 3, none⟩ = some (.int .i64 (a : Nat))) (g1 : w.cell? ⟨g, i * 3 + 1, none⟩ = some (.int .i64 (c : Nat))) (g2 : w.cell? ⟨g, i * 3 + 2, none⟩ = some (.string s)) (hT : w.cell? ⟨T, 0, none⟩ = some (.pointer (some ⟨m + 1, 0, none⟩))) :
    Calls Try.prog 24 #[.pointer (some ⟨g, i * 3, none⟩), .pointer (some ⟨T, 0, none⟩)] w (Sent23 m B room N w) := by
  have hd : Net23 w.drew m B room N := h
  go_enter Try.func24, Try.ntmps24
  go_upto_region 1 with fail
  go_region_with (first
    | (go_simp; go_at_call 8; refine (send23 m B room N a c s _ hd hB hN ha hc hs).mono ?_; rintro e w8 ⟨ok, rfl, hq, hb8⟩))
  all_goals
    go_wp2_with fail
    go_ret
    exact ⟨ok, rfl, hq, (Below.refl m w).drew.trans hb8⟩
set_option maxRecDepth 100000 in
theorem copy23 (m B : Nat) (room : Int) (N : Nat) (i : Nat) (w : World) (h : Net23 w m B room N) (hB : B ≤ 1000) (hN : N ≤ 1000) :
    Calls Try.prog 13 #[.pointer (some ⟨m + 1, 0, none⟩), .int .i64 (i : Nat)] w (Sent23 m B room N w) := by
  have hlt := h.lt
  have hA := h.below ((Below.refl _ _).alloc (Nat.le_refl _) (.cells #[.pointer (some ⟨m + 1, 0, none⟩)] 23))
  obtain ⟨nn, ps, f, lost, h1, h2, h3, h4, h5, h6⟩ := h
  by_cases hi : i < ps.length
  · obtain ⟨⟨a, c, s⟩, hp⟩ : ∃ p, ps[i]? = some p := ⟨_, List.getElem?_eq_getElem hi⟩
    have hok := h2.ok _ (List.mem_of_getElem? hp)
    simp only at hok
    obtain ⟨a0, a1, c0, c1, _, hs⟩ := hok
    obtain ⟨a, rfl⟩ := Int.eq_ofNat_of_zero_le a0
    obtain ⟨c, rfl⟩ := Int.eq_ofNat_of_zero_le c0
    obtain ⟨g, cap, hBk, g0, g1, g2, hgl⟩ := net_row (h1.alloc (.cells #[.pointer (some ⟨m + 1, 0, none⟩)] 23)) hi hp
    have hT := (Blk.new w 23 #[.pointer (some ⟨m + 1, 0, none⟩)]).cell 0
    have hcl := copyFn m B g i w.heap.size room N a c s _ hA hB hN (by omega) (by omega) hs g0 g1 g2 hT
    have q2 := hBk.cell 2
    have q1 := hBk.cell 1
    have d0 : decide ((i : Int) < 0) = false := decide_eq_false (by omega)
    have d1 : decide ((i : Int) ≥ (ps.length : Int)) = false := decide_eq_false (by omega)
    have d2 : (0 : Int) ≤ (i : Int) := by omega
    have d3 : (i : Int) < (ps.length : Int) := by omega
    have hch : Calls Try.prog 21 #[.pointer (some ⟨m + 1, 0, none⟩), .int .i64 (i : Nat), .func (Fn.func 24) #[] #[.pointer (some ⟨w.heap.size, 0, none⟩)]] (w.alloc (.cells #[.pointer (some ⟨m + 1, 0, none⟩)] 23)) (Sent23 m B room N (w.alloc (.cells #[.pointer (some ⟨m + 1, 0, none⟩)] 23))) := by
      generalize w.alloc (.cells #[.pointer (some ⟨m + 1, 0, none⟩)] 23) = w2 at hcl q1 q2 ⊢
      have q1' : w2.cell? ⟨m + 1, 1, none⟩ = some (.slice (some ⟨g, 0, none⟩) ps.length cap) := q1
      have q2' : w2.cell? ⟨m + 1, 2, none⟩ = some (.map (some m)) := q2
      clear q1 q2
      go_enter Try.func21, Try.ntmps21
      go_wp2_with fail
      refine (none_no (m + 1) m _ q2').mono ?_
      rintro e w1 ⟨rfl, rfl⟩
      go_wp2_with fail
      refine hcl.mono ?_
      rintro e w3 ⟨ok, rfl, hq⟩
      go_wp2_with fail
      go_ret
      exact ⟨ok, rfl, hq⟩
    clear q1 q2 d0 d1 d2 d3 hcl g0 g1 g2 hBk hT hp
    go_enter Try.func13, Try.ntmps13
    go_wp2_with fail
    refine hch.mono ?_
    rintro e w3 ⟨ok, rfl, hq, hb⟩
    go_wp2_with fail
    go_ret
    exact ⟨ok, rfl, hq, ((Below.refl m w).alloc (by omega) _).trans hb⟩
  · exact (copy_out m nn room lost ps f i w h1 (.inr (by omega))).mono fun e w' ⟨he, hN', hb⟩ => ⟨false, he, ⟨nn, ps, f, lost, hN', h2, h3, by omega, h5, by omega⟩, hb.mono (by omega)⟩
end Go.Proofs.Ytfficdloekfpcaa
