/- fault.Join, walked: what is not nil, as a row. -/
import Derived.Test.YtcmepnninlocmaaDoorTextW
import Derived.Test.YtcmepnninlocmaaDoorSrcL
import Derived.Deep.Cut
namespace Go.Proofs.YtcmepnninlocmaaDoor
open Go.RowKit
def notNil : Value → Bool
  | .nilIface => false
  | _ => true
/-- An error's value. -/
def IsErr (v : Value) : Prop := v = .nilIface ∨ ∃ T x, v = .iface T x
def keptV (vs : List Value) : List Value := vs.filter notNil
theorem src_one (w : World) (v : Value) (t : TypeId) : Src (w.alloc (.cells #[v] t)) (some ⟨w.heap.size, 0, none⟩) [v] := fun _ => ⟨_, rfl, fun j u hj => by
  have h0 : j = 0 := by
    have := (List.getElem?_eq_some_iff.1 hj).1
    simp at this
    exact this
  subst h0
  simp at hj
  subst hj
  simp [Addr.add]⟩
theorem kept_snoc_nil (vs : List Value) (k : Nat) (h : vs[k]? = some .nilIface) : keptV (vs.take (k + 1)) = keptV (vs.take k) := by
  have hk : k < vs.length := (List.getElem?_eq_some_iff.1 h).1
  rw [List.take_succ_eq_append_getElem hk, (List.getElem?_eq_some_iff.1 h).2]
  simp [keptV, notNil]
theorem kept_snoc_some (vs : List Value) (k : Nat) (T : TypeId) (x : Value) (h : vs[k]? = some (.iface T x)) : keptV (vs.take (k + 1)) = keptV (vs.take k) ++ [.iface T x] := by
  have hk : k < vs.length := (List.getElem?_eq_some_iff.1 h).1
  rw [List.take_succ_eq_append_getElem hk, (List.getElem?_eq_some_iff.1 h).2]
  simp [keptV, notNil]
/-- What Join tells of what is not nil. -/
def JoinR (w : World) (us : List Value) (e : Ending) (w' : World) : Prop :=
  (us = [] ∧ e = .returned .nilIface) ∨ (∃ u, us = [u] ∧ e = .returned u) ∨
    (2 ≤ us.length ∧ ∃ g k c, e = .returned (.iface 50 (.pointer (some ⟨g, 0, none⟩))) ∧ Blk w' g 52 #[.slice (some ⟨k, 0, none⟩) us.length c] ∧ w.heap.size ≤ g ∧ w.heap.size ≤ k ∧ k ≠ g ∧ Src w' (some ⟨k, 0, none⟩) us)
set_option maxRecDepth 100000 in
set_option maxHeartbeats 2000000 in
theorem join_any (A : Option Addr) (n c : Nat) (vs : List Value) (w : World) (hn : vs.length = n) (hn1 : n ≤ 100000) (hA : Src w A vs) (hE : ∀ v ∈ vs, IsErr v) :
    Calls Tryd.prog 7 #[.slice A n c] w fun e w' => JoinR w (keptV vs) e w' ∧ Below w.heap.size w w' := by
  subst hn
  obtain ⟨i0, hi, hz0, hz1, hz2⟩ := info_parts (show (Tryd.prog.info? 29).map (fun i => (i.zero, i.size, i.bytes)) = some (some .nilIface, 1, 16) from by kernel_rfl)
  go_enter Tryd.func7, Tryd.ntmps7
  go_wp2
  go_loopw [3, 5, 8] (fun s3 _ i wr => ∃ k : Nat, k ≤ vs.length ∧ i = .int .i64 (k : Nat) ∧ wr.ownsRow w.heap.size 29 1 s3 (keptV (vs.take k)).length (keptV (vs.take k)) ∧ Below w.heap.size w wr) (fun _ _ i _ => vs.length - (intOf i).toNat)
  case atStart => exact ⟨0, by omega, rfl, ⟨by simp [keptV], .inl ⟨rfl, by simp [keptV]⟩⟩, Below.refl _ _⟩
  case round =>
    obtain ⟨k, hk, rfl, hO, hbr⟩ := hrel
    obtain ⟨Ak, ck, hform⟩ := own_form hO
    have hkl : (keptV (vs.take k)).length ≤ k := by
      have h1 := List.length_filter_le notNil (vs.take k)
      have h2 := List.length_take_le k vs
      unfold keptV
      omega
    by_cases hlt : k < vs.length
    · obtain ⟨v, hv⟩ : ∃ v, vs[k]? = some v := ⟨_, List.getElem?_eq_getElem hlt⟩
      obtain ⟨ad, rfl, hcs⟩ := hA (by omega)
      have hcv := hcs k v hv
      have hcr : wr.cell? (ad.add k) = some v := (hbr.cell (World.block_lt_of_cell? w _ hcv)).trans hcv
      have hcr0 : k = 0 → wr.cell? ad = some v := fun h => by subst h; simpa [Addr.add] using hcr
      rcases hE v (List.mem_of_getElem? hv) with rfl | ⟨T, x, rfl⟩
      · have hsn := kept_snoc_nil vs k hv
        rw [← hsn] at hO
        clear hsn hform
        rcases Nat.eq_zero_or_pos k with rfl | hk0
        · have hcq := hcr0 rfl
          clear hcr0
          go_wp2_with fail
          go_roundw
          case rel => exact ⟨1, by omega, by go_num, hO, hbr⟩
          case measure => simp [intOf]; omega
        · clear hcr0
          go_wp2_with fail
          go_roundw
          case rel => exact ⟨k + 1, by omega, by go_num, hO, hbr⟩
          case measure => simp [intOf]; omega
      · have hsn := kept_snoc_some vs k T x hv
        have HSN := Lib.hid hsn
        obtain ⟨L, hL⟩ : ∃ L, L = keptV (vs.take k) := ⟨_, rfl⟩
        rw [← hL] at hO hkl HSN
        clear hsn hL hform
        have hsrc := src_one wr (.iface T x) 29
        have hOa := hO.alloc (.cells #[.iface T x] 29)
        have fin : ∀ (v' : Value) (w3 : World), w3.ownsRow w.heap.size 29 1 v' (L.length + 1) (L ++ [.iface T x]) → (wr.alloc (.cells #[.iface T x] 29)).grownBy w3 u3.ownBlock → w3.ownsRow w.heap.size 29 1 v' (keptV (vs.take (k + 1))).length (keptV (vs.take (k + 1))) ∧ Below w.heap.size w w3 := fun v' w3 h1 h2 => by
          rw [HSN.out]
          refine ⟨by simpa using h1, ?_⟩
          exact (hbr.alloc hbr.size _).grown h2 (by simp; have := hbr.size; omega) (fun q hq => (hO.lt q hq).1)
        have FIN := Lib.hid fin
        clear fin
        rcases Nat.eq_zero_or_pos k with rfl | hk0
        · have hcq := hcr0 rfl
          clear hcr0
          go_wp2_with (at_builtin; refine wpList_append_src rfl (.tmp 14) (.tmp 16) 24 rfl w.heap.size 29 i0 .nilIface 1 16 Tryd.underlying24 hi hz0 hz1 hz2 rfl (by decide) u3 L.length L rfl hOa _ _ _ [.iface T x] rfl rfl hsrc (fun h => by cases h) (fun u hu => by obtain rfl := List.mem_singleton.1 hu; rfl) ?c1 ?c2 ?c3 ?_)
          case c1 => unfold maxLen; omega
          case c2 => omega
          case c3 => have := hbr.size; simp; omega
          intro v' w3 hown' hgrow
          obtain ⟨hO3, hb3⟩ := FIN.out v' w3 hown' hgrow
          go_wp2_with fail
          go_roundw
          case rel => exact ⟨1, by omega, by go_num, hO3, hb3⟩
          case measure => simp [intOf]; omega
        · clear hcr0
          go_wp2_with (at_builtin; refine wpList_append_src rfl (.tmp 14) (.tmp 16) 24 rfl w.heap.size 29 i0 .nilIface 1 16 Tryd.underlying24 hi hz0 hz1 hz2 rfl (by decide) u3 L.length L rfl hOa _ _ _ [.iface T x] rfl rfl hsrc (fun h => by cases h) (fun u hu => by obtain rfl := List.mem_singleton.1 hu; rfl) ?c1 ?c2 ?c3 ?_)
          case c1 => unfold maxLen; omega
          case c2 => omega
          case c3 => have := hbr.size; simp; omega
          intro v' w3 hown' hgrow
          obtain ⟨hO3, hb3⟩ := FIN.out v' w3 hown' hgrow
          go_wp2_with fail
          go_roundw
          case rel => exact ⟨k + 1, by omega, by go_num, hO3, hb3⟩
          case measure => simp [intOf]; omega
    · obtain rfl : k = vs.length := by omega
      rw [List.take_length] at hO hkl
      rw [List.take_length] at hform
      subst hform
      obtain ⟨us, hus⟩ : ∃ us, us = keptV vs := ⟨_, rfl⟩
      rw [← hus] at hO hkl ⊢
      have hsrc := Src.of_own hO
      have hsz := hbr.size
      have HUS := Lib.hid hus.symm
      clear hus hA hE
      rcases us with _ | ⟨u, _ | ⟨u2, us⟩⟩
      · go_wp2_with fail
        go_ret
        exact ⟨by rw [HUS.out]; exact .inl ⟨rfl, rfl⟩, hbr⟩
      · obtain ⟨ad, rfl, hc⟩ := hsrc (by simp)
        have c0 : wr.cell? ad = some u := by simpa [Addr.add] using hc 0 u rfl
        go_wp2_with fail
        go_ret
        exact ⟨by rw [HUS.out]; exact .inr (.inl ⟨u, rfl, rfl⟩), hbr⟩
      · obtain ⟨m, hm⟩ : ∃ m, m = (u :: u2 :: us).length := ⟨_, rfl⟩
        have hm2 : 2 ≤ m := by rw [hm]; simp
        obtain ⟨g, rfl⟩ : ∃ g, Ak = some ⟨g, 0, none⟩ := by
          rcases hO.2 with ⟨_, h0⟩ | ⟨g', cap', cur, h1, _⟩
          · simp at h0
          · injection h1 with h1
            exact ⟨g', h1⟩
        have hg := hO.lt g rfl
        rw [← hm]
        have t0 : ((m : Int) == 0) = false := by simp; omega
        have t1 : ((m : Int) == 1) = false := by simp; omega
        have fin : JoinR w (u :: u2 :: us) (.returned (.iface 50 (.pointer (some ⟨wr.heap.size, 0, none⟩)))) (wr.alloc (.cells #[.slice (some ⟨g, 0, none⟩) m ck] 52)) := by
          refine .inr (.inr ⟨by simp, wr.heap.size, g, ck, rfl, ?_, hsz, hg.1, by omega, hsrc.alloc _⟩)
          rw [← hm]
          exact Blk.new wr _ _
        have FIN := Lib.hid fin
        clear fin hO hsrc hm
        go_wp2_with fail
        go_ret
        exact ⟨by rw [HUS.out]; exact FIN.out, hbr.alloc hsz _⟩
end Go.Proofs.YtcmepnninlocmaaDoor
