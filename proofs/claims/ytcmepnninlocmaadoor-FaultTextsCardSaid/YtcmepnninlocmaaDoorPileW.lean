/- What New, At, In, Join make of faults that lie apart from two rows. -/
import Derived.Test.YtcmepnninlocmaaDoorHideL
import Derived.Test.YtcmepnninlocmaaDoorNoneW
import Derived.Test.YtcmepnninlocmaaDoorJoinW
namespace Go.Proofs.YtcmepnninlocmaaDoor
open Go.RowKit
/-- The two hidden blocks lie in memory. -/
def In2 (w : World) (o p : Option Nat) : Prop := (∀ g, o = some g → g < w.heap.size) ∧ (∀ g, p = some g → g < w.heap.size)
theorem In2.ne1 {w : World} {o p : Option Nat} (h : In2 w o p) {g : Nat} (hg : w.heap.size ≤ g) : o ≠ some g := fun e => by have := h.1 g e; omega
theorem In2.ne2 {w : World} {o p : Option Nat} (h : In2 w o p) {g : Nat} (hg : w.heap.size ≤ g) : p ≠ some g := fun e => by have := h.2 g e; omega
def atO : Option Ft → Int → Option Ft
  | none, _ => none
  | some F, n => some (.placed F n)
def inO : Option Ft → ByteArray → Option Ft
  | none, _ => none
  | some F, s => some (.worded F s)
def joinO (fs : List (Option Ft)) : Option Ft :=
  match fs.filterMap id with
  | [] => none
  | [F] => some F
  | es => some (.row es)
theorem FtAt.isErr {w : World} {F : Ft} {v : Value} (h : FtAt w F v) : ∃ T x, v = .iface T x := by
  cases F <;> unfold FtAt at h
  · exact ⟨_, _, h.1⟩
  · obtain ⟨g, u, h1, _⟩ := h; exact ⟨_, _, h1⟩
  · obtain ⟨g, u, h1, _⟩ := h; exact ⟨_, _, h1⟩
  · obtain ⟨g, A, c, us, h1, _⟩ := h; exact ⟨_, _, h1⟩
theorem FtO.isErr {w : World} {F : Option Ft} {v : Value} (h : FtO w F v) : IsErr v := by
  cases F with
  | none => exact .inl h
  | some F => exact .inr (FtAt.isErr h)
/-- A call tells a fault. -/
def TellF (o p : Option Nat) (F : Option Ft) (e : Ending) (w' : World) : Prop := ∃ v, e = .returned v ∧ FtO (hide2 w' o p) F v
theorem at_o {o p : Option Nat} {F : Option Ft} {v : Value} (n : Int) (w : World) (hn : Fit64 n) (h2 : In2 w o p) (hF : FtO (hide2 w o p) F v) :
    Calls Tryd.prog 10 #[v, .int .i64 n] w fun e w' => TellF o p (atO F n) e w' ∧ Below w.heap.size w w' := by
  cases F with
  | none =>
    obtain rfl : v = .nilIface := hF
    exact (at_nil n w).mono fun e w' ⟨he, hw⟩ => ⟨⟨.nilIface, he, rfl⟩, by subst hw; exact Below.refl _ _⟩
  | some F =>
    have hF' : FtAt (hide2 w o p) F v := hF
    obtain ⟨T, x, rfl⟩ := FtAt.isErr hF'
    refine (at_some T x n w).mono fun e w' ⟨he, hB, hb⟩ => ⟨⟨_, he, ?_⟩, hb⟩
    show FtAt (hide2 w' o p) (.placed F n) _
    unfold FtAt
    exact ⟨_, _, rfl, blk_hide2 hB (h2.ne1 (Nat.le_refl _)) (h2.ne2 (Nat.le_refl _)), hn, FtAt.kp (Kp.belowH o p hb) F _ hF'⟩
theorem in_o {o p : Option Nat} {F : Option Ft} {v : Value} (s : ByteArray) (w : World) (h2 : In2 w o p) (hF : FtO (hide2 w o p) F v) :
    Calls Tryd.prog 9 #[v, .string s] w fun e w' => TellF o p (inO F s) e w' ∧ Below w.heap.size w w' := by
  cases F with
  | none =>
    obtain rfl : v = .nilIface := hF
    exact (in_nil s w).mono fun e w' ⟨he, hw⟩ => ⟨⟨.nilIface, he, rfl⟩, by subst hw; exact Below.refl _ _⟩
  | some F =>
    have hF' : FtAt (hide2 w o p) F v := hF
    obtain ⟨T, x, rfl⟩ := FtAt.isErr hF'
    refine (in_some T x s w).mono fun e w' ⟨he, hB, hb⟩ => ⟨⟨_, he, ?_⟩, hb⟩
    show FtAt (hide2 w' o p) (.worded F s) _
    unfold FtAt
    exact ⟨_, _, rfl, blk_hide2 hB (h2.ne1 (Nat.le_refl _)) (h2.ne2 (Nat.le_refl _)), FtAt.kp (Kp.belowH o p hb) F _ hF'⟩
def newO (c : Int) : Option Ft := if c = 0 then none else some (.code c)
theorem new_o (o p : Option Nat) (c : Int) (w : World) (hc : Fit64 c) :
    Calls Tryd.prog 11 #[.int .i64 c] w fun e w' => TellF o p (newO c) e w' ∧ w = w' := by
  unfold newO
  by_cases h0 : c = 0
  · subst h0
    exact (new_ok w).mono fun e w' ⟨he, hw⟩ => ⟨⟨.nilIface, he, rfl⟩, hw⟩
  · rw [if_neg h0]
    refine (faultNew_any c w h0).mono fun e w' ⟨he, hw⟩ => ⟨⟨_, he, ?_⟩, hw⟩
    show FtAt (hide2 w' o p) (.code c) _
    unfold FtAt
    exact ⟨rfl, hc⟩
/-- The values that are kept are the faults that are kept. -/
theorem kept_fts {w : World} : ∀ (fs : List (Option Ft)) (vs : List Value), fs.length = vs.length → (∀ (i : Nat) (F : Option Ft) (v : Value), fs[i]? = some F → vs[i]? = some v → FtO w F v) → FtsAt w (fs.filterMap id) (keptV vs)
  | [], vs, hl, h => by
    obtain rfl := List.eq_nil_of_length_eq_zero hl.symm
    simp [keptV]
    unfold FtsAt
    rfl
  | F :: fs, vs, hl, h => by
    match vs, hl with
    | v :: vs, hl =>
      have h0 := h 0 F v rfl rfl
      have ih := kept_fts fs vs (by simpa using hl) (fun i F v h1 h2 => h (i + 1) F v (by simpa using h1) (by simpa using h2))
      cases F with
      | none =>
        obtain rfl : v = .nilIface := h0
        simpa [keptV, notNil] using ih
      | some F =>
        have h0' : FtAt w F v := h0
        obtain ⟨T, x, rfl⟩ := FtAt.isErr h0'
        have e1 : keptV (Value.iface T x :: vs) = Value.iface T x :: keptV vs := List.filter_cons_of_pos rfl
        rw [e1]
        simp only [List.filterMap_cons, id]
        unfold FtsAt
        exact ⟨_, _, rfl, h0', ih⟩
theorem ftsAt_len {w : World} : ∀ (es : List Ft) (us : List Value), FtsAt w es us → us.length = es.length
  | [], us, h => by unfold FtsAt at h; rw [h]; rfl
  | e :: es, us, h => by
    unfold FtsAt at h
    obtain ⟨u, us', rfl, _, h3⟩ := h
    simp [ftsAt_len es us' h3]
theorem join_o {o p : Option Nat} {fs : List (Option Ft)} (A : Option Addr) (n c : Nat) (vs : List Value) (w : World) (hn : vs.length = n) (hn1 : n ≤ 100000) (hA : Src w A vs) (h2 : In2 w o p) (hF : FtOs (hide2 w o p) fs vs) :
    Calls Tryd.prog 7 #[.slice A n c] w fun e w' => TellF o p (joinO fs) e w' ∧ Below w.heap.size w w' := by
  have hE : ∀ v ∈ vs, IsErr v := fun v hv => by
    obtain ⟨i, hi, hiv⟩ := List.mem_iff_getElem.1 hv
    have hfi : i < fs.length := by rw [hF.1]; exact hi
    exact (hF.2 i fs[i] v (List.getElem?_eq_getElem hfi) (by rw [List.getElem?_eq_getElem hi, hiv])).isErr
  refine (join_any A n c vs w hn hn1 hA hE).mono fun e w' ⟨hj, hb⟩ => ⟨?_, hb⟩
  have hk := kept_fts fs vs hF.1 hF.2
  have hk' := FtsAt.kp (Kp.belowH o p hb) _ _ hk
  have hl := ftsAt_len _ _ hk
  unfold joinO
  generalize fs.filterMap id = es at hk hk' hl ⊢
  generalize keptV vs = us at hj hk hk' hl
  rcases hj with ⟨rfl, rfl⟩ | ⟨u, rfl, rfl⟩ | ⟨hu2, g, k, cc, rfl, hB, hg, hkk, hkg, hs⟩
  · obtain rfl := List.eq_nil_of_length_eq_zero hl.symm
    exact ⟨_, rfl, rfl⟩
  · match es, hl with
    | [F], _ =>
      refine ⟨_, rfl, ?_⟩
      unfold FtsAt at hk'
      obtain ⟨u', us', h1, h3, _⟩ := hk'
      injection h1 with h1
      subst h1
      exact h3
  · match es, hl with
    | [], hl => have h0 : us.length = 0 := hl; omega
    | [F], hl => have h0 : us.length = 1 := hl; omega
    | F :: F2 :: es, hl =>
      refine ⟨_, rfl, ?_⟩
      show FtAt (hide2 w' o p) (.row (F :: F2 :: es)) _
      unfold FtAt
      rw [hl] at hB
      exact ⟨g, _, cc, us, rfl, blk_hide2 hB (h2.ne1 hg) (h2.ne2 hg), by simp, hl, src_hide2 hs (h2.ne1 hkk) (h2.ne2 hkk), hk'⟩
end Go.Proofs.YtcmepnninlocmaaDoor
