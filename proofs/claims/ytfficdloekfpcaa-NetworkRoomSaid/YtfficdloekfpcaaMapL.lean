/- A map from two numbers to a number, that the call made: what it holds, by a plain function. -/
import Derived.Test.YtfficdloekfpcaaBytesL
import Derived.Maps.Own
import Derived.Maps.OwnOps
import Derived.Maps.Views
import Derived.WideKeyPair
import Derived.WideKeyArr2
import Derived.DeepKeys4
namespace Go.Proofs.Ytfficdloekfpcaa
open Go.RowKit Go.Maps
open Go.WideMaps (ArrKey)
theorem arrKey : ArrKey Try.prog 46 3 2 := ⟨Try.underlying46, by kernel_rfl, by kernel_rfl, by kernel_rfl⟩
theorem keyed : Keyed Try.prog 46 := Keyed.of_law arrKey.law
/-- The pair as a value. -/
def pairV (a c : Int) : Value := .agg #[.int .i64 a, .int .i64 c]
/-- A number of 64 bits. -/
def Fit1 (a : Int) : Prop := -9223372036854775808 ≤ a ∧ a ≤ 9223372036854775807
theorem fit_wf {x : Int} (h : Fit1 x) : (Lit.int .i64 x).wf = true := by
  have h1 := wrap64_wf x
  have h2 : wrap64 x = x := by
    obtain ⟨h3, h4⟩ := h
    unfold wrap64
    omega
  rwa [h2] at h1
theorem size_pos : ∃ m, Try.prog.types.size = m + 1 := ⟨Try.prog.types.size - 1, by
  have h : 0 < Try.prog.types.size := of_decide_eq_true (by kernel_rfl)
  omega⟩
theorem pair_key (w : World) (a c : Int) (ha : Fit1 a) (hc : Fit1 c) : ∃ kl, keyOf Try.prog 46 (pairV a c) = some kl := by
  have hw := fun x (hx : Fit1 x) => fit_wf hx
  have hd := WideMaps.shut_pair (enc := fun _ : TypeId × Value => ()) (W := w) (base := 0) (sp := fun _ => true) (held := true) arrKey Try.underlying3 (hw a ha) (hw c hc)
  obtain ⟨ls, _, _, hk⟩ := WideMaps.open_arr arrKey Try.underlying3 size_pos rfl hd
  exact ⟨_, hk⟩
/-- The pair's key. -/
noncomputable def klOf (a c : Int) : Lit := (keyOf Try.prog 46 (pairV a c)).getD (.bool false)
theorem klOf_eq (w : World) {a c : Int} (ha : Fit1 a) (hc : Fit1 c) : keyOf Try.prog 46 (pairV a c) = some (klOf a c) := by
  obtain ⟨kl, h⟩ := pair_key w a c ha hc
  unfold klOf
  rw [h]
  rfl
theorem klOf_inj (w : World) {a c a' c' : Int} (ha : Fit1 a) (hc : Fit1 c) (ha' : Fit1 a') (hc' : Fit1 c') (h : klOf a c = klOf a' c') : a = a' ∧ c = c' := by
  have h1 := klOf_eq w ha hc
  have h2 := klOf_eq w ha' hc'
  rw [h] at h1
  have h3 := keyed.inj h1 h2
  unfold pairV at h3
  simpa using h3
/-- Block b holds a map of at most n pairs' numbers: f. -/
def MapAt (w : World) (b n : Nat) (f : Int → Int → Int) : Prop :=
  ∃ D : DataW Unit, IsMap D ∧ w.ownsMap Try.prog 46 (plainElem Try.prog 3) b n D ∧ ∀ a c, Fit1 a → Fit1 c → D.atKey (klOf a c) (.lit (.int .i64 0)) = .lit (.int .i64 (f a c))
section
variable {w w' : World} {b n : Nat} {f : Int → Int → Int}
theorem zero_int (w : World) : (zeroValue 3).run Try.prog w = .ok (.int .i64 0) w := by kernel_rfl
theorem MapAt.made (w : World) : MapAt (w.alloc (.map #[] 0)) w.heap.size 0 fun _ _ => 0 := ⟨_, isMap_empty, World.ownsMap_made w _ _ _, fun _ _ _ _ => rfl⟩
theorem MapAt.lt (h : MapAt w b n f) : b < w.heap.size := by obtain ⟨D, _, h, _⟩ := h; exact h.lt
theorem MapAt.kept (h : MapAt w b n f) {row : Option Nat} (hg : w.grownBy w' row) (hne : some b ≠ row) : MapAt w' b n f := by
  obtain ⟨D, h1, h2, h3⟩ := h
  exact ⟨D, h1, h2.kept hg hne, h3⟩
theorem MapAt.alloc (h : MapAt w b n f) (o : Obj) : MapAt (w.alloc o) b n f := h.kept (World.grownBy_alloc w o none) (by simp)
theorem MapAt.below (h : MapAt w b n f) {B : Nat} (hb : Below B w w') (hB : b < B) : MapAt w' b n f := by
  obtain ⟨D, h1, ⟨es, clock, h2, F, h4, h5⟩, h3⟩ := h
  exact ⟨D, h1, ⟨es, clock, (hb.block b hB).trans h2, F, h4, h5⟩, h3⟩
theorem MapAt.drew (h : MapAt w b n f) : MapAt w.drew b n f := h
theorem MapAt.far (h : MapAt w b n f) {p : Addr} (hp : b ≠ p.block) (u : Value) : MapAt (w.setCell p u) b n f := by
  obtain ⟨D, h1, ⟨es, clock, h2, F, h4, h5⟩, h3⟩ := h
  exact ⟨D, h1, ⟨es, clock, (Below.heap_setCell w p u b hp).trans h2, F, h4, h5⟩, h3⟩
/-- 'm[k]'. -/
theorem MapAt.look (h : MapAt w b n f) {a c : Int} (ha : Fit1 a) (hc : Fit1 c) : (Instr.lookup 42 (.map (some b)) (pairV a c) false).run Try.prog w = .ok (.int .i64 (f a c)) w := by
  obtain ⟨D, _, h2, h3⟩ := h
  obtain ⟨x, hrun, hat, _⟩ := h2.lookup_int keyed Try.underlying42 Try.underlying3 (zero_int w) (klOf_eq w ha hc)
  rw [h3 a c ha hc] at hat
  simp at hat
  rw [hrun, hat]
/-- What a function of pairs becomes when one of them is set. -/
def setF (f : Int → Int → Int) (a c v : Int) : Int → Int → Int := fun a' c' => if a' = a ∧ c' = c then v else f a' c'
/-- 'm[k] = v'. -/
theorem MapAt.put (h : MapAt w b n f) (hn : n < maxLen) {a c v : Int} (ha : Fit1 a) (hc : Fit1 c) (hv : Fit1 v) : ∃ w', (Instr.mapUpdate 42 (.map (some b)) (pairV a c) (.int .i64 v)).run Try.prog w = .ok () w' ∧ MapAt w' b (n + 1) (setF f a c v) ∧ w.grownBy w' (some b) := by
  obtain ⟨D, h1, h2, h3⟩ := h
  have hwv := fit_wf hv
  obtain ⟨w', hrun, hown, hg⟩ := h2.update (R := plainElem Try.prog 3) keyed Try.underlying42 hn (klOf_eq w ha hc) (plainElem_int Try.underlying3 hwv)
  refine ⟨w', hrun, ⟨_, h1.put _ _, hown, fun a' c' ha' hc' => ?_⟩, hg⟩
  unfold setF
  by_cases he : a' = a ∧ c' = c
  · obtain ⟨rfl, rfl⟩ := he
    rw [if_pos ⟨rfl, rfl⟩, atKey_put_same h1 (keyed.key (klOf_eq w ha hc))]
  · rw [if_neg he, atKey_put_other (fun e => he (klOf_inj w ha' hc' ha hc e))]
    exact h3 a' c' ha' hc'
end
end Go.Proofs.Ytfficdloekfpcaa
