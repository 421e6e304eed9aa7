/- Arguments that are structs or arrays of plain cells: what each cell of them is. -/
import Derived.Test.YtndlnphklklclaaDoorRRFrameL
namespace Go.Proofs.YtndlnphklklclaaDoorRR.FrameL
open Go.ChangeShapes Go.WideShapes Go.ChangeAt Go.RowKit
open Go.ChangeMaps (open_string shut_string)

/-- A cell of a plain type. -/
def leafOk (P : Program) (t : TypeId) (v : Value) : Prop :=
  (∃ k n, P.underlying t = some (.int k) ∧ v = .int k n ∧ (Lit.int k n).wf = true) ∨ (∃ b, P.underlying t = some .bool ∧ v = .bool b) ∨ (∃ s, P.underlying t = some .string ∧ v = .string s ∧ s.size ≤ maxLen)

/-- Which plain type lies at cell i of a type. -/
def leafAt (P : Program) : Nat → TypeId → Nat → Option TypeId
  | 0, _, _ => none
  | k + 1, t, i =>
    match P.underlying t with
    | some (.int _) => if i = 0 then some t else none
    | some .bool => if i = 0 then some t else none
    | some .string => if i = 0 then some t else none
    | some (.array n e) => if i / P.cellsOf e < n then leafAt P k e (i % P.cellsOf e) else none
    | some (.struct fs) => fs.toList.findSome? fun f => if f.offset ≤ i ∧ i < f.offset + P.cellsOf f.type then leafAt P k f.type (i - f.offset) else none
    | _ => none

section
variable {H : Type} {enc : TypeId × Value → H} {P : Program} {w : World} {base : Nat} {spare : Nat → Bool} {held : Bool}

theorem leaf_of : ∀ (k : Nat) (t : TypeId) (i fuel : Nat) (cs : List Value) (x : DataW H × List MemPlace) (t' : TypeId), leafAt P k t i = some t' → DataW.trod enc P w base spare held fuel t cs = some x → ∃ v, cs[i]? = some v ∧ leafOk P t' v := by
  intro k
  induction k with
  | zero => intro t i fuel cs x t' h; cases h
  | succ k ih =>
    intro t i fuel cs x t' h hx
    unfold leafAt at h
    split at h
    · rename_i kd hu
      split at h
      · rename_i hi
        injection h with h
        subst h
        obtain ⟨n, rfl, _, hw⟩ := DataW.trod_int hu hx
        exact ⟨_, by rw [hi]; rfl, .inl ⟨kd, n, hu, rfl, hw⟩⟩
      · cases h
    · rename_i hu
      split at h
      · rename_i hi
        injection h with h
        subst h
        obtain ⟨b, rfl, _⟩ := DataW.trod_bool hu hx
        exact ⟨_, by rw [hi]; rfl, .inr (.inl ⟨b, hu, rfl⟩)⟩
      · cases h
    · rename_i hu
      split at h
      · rename_i hi
        injection h with h
        subst h
        obtain ⟨s, rfl, _, hs⟩ := DataW.trod_string hu hx
        exact ⟨_, by rw [hi]; rfl, .inr (.inr ⟨s, hu, rfl, hs⟩)⟩
      · cases h
    · rename_i n e hu
      split at h
      · rename_i hlt
        obtain ⟨xs, m, _, _, _, hn, hf⟩ := DataW.trod_array hu hx
        have h1 := hf _ hlt
        rw [List.getElem?_eq_getElem (by omega)] at h1
        obtain ⟨v, hv, ho⟩ := ih _ _ _ _ _ _ h h1
        refine ⟨v, ?_, ho⟩
        rw [List.getElem?_take] at hv
        split at hv
        · rw [List.getElem?_drop, Nat.div_add_mod'] at hv
          exact hv
        · cases hv
      · cases h
    · rename_i fs hu
      obtain ⟨xs, m, _, _, _, hn, hf⟩ := DataW.trod_struct hu hx
      obtain ⟨f, hmem, h⟩ := List.exists_of_findSome?_eq_some h
      split at h
      · rename_i hr
        obtain ⟨j, hj, hjf⟩ := List.mem_iff_getElem.1 hmem
        have hjs : j < fs.size := by simpa using hj
        have h1 := hf j f (by rw [Array.getElem?_eq_getElem hjs]; congr 1)
        rw [List.getElem?_eq_getElem (by omega)] at h1
        obtain ⟨v, hv, ho⟩ := ih _ _ _ _ _ _ h h1
        refine ⟨v, ?_, ho⟩
        rw [List.getElem?_take] at hv
        split at hv
        · rw [List.getElem?_drop, show f.offset + (i - f.offset) = i from by omega] at hv
          exact hv
        · cases hv
      · cases h
    · cases h
end

theorem leaf_int {P : Program} {t : TypeId} {k : IntKind} {v : Value} (hu : P.underlying t = some (.int k)) (h : leafOk P t v) : ∃ n, v = .int k n ∧ (Lit.int k n).wf = true := by
  rcases h with ⟨k', n, hk, hv, hw⟩ | ⟨b, hk, _⟩ | ⟨s, hk, _⟩
  · rw [hu] at hk
    injection hk with hk
    injection hk with hk
    subst hk
    exact ⟨n, hv, hw⟩
  · rw [hu] at hk; cases hk
  · rw [hu] at hk; cases hk
theorem leaf_bool {P : Program} {t : TypeId} {v : Value} (hu : P.underlying t = some .bool) (h : leafOk P t v) : ∃ b, v = .bool b := by
  rcases h with ⟨k', n, hk, _⟩ | ⟨b, _, hv⟩ | ⟨s, hk, _⟩
  · rw [hu] at hk; cases hk
  · exact ⟨b, hv⟩
  · rw [hu] at hk; cases hk
theorem leaf_string {P : Program} {t : TypeId} {v : Value} (hu : P.underlying t = some .string) (h : leafOk P t v) : ∃ s, v = .string s ∧ s.size ≤ maxLen := by
  rcases h with ⟨k', n, hk, _⟩ | ⟨b, hk, _⟩ | ⟨s, _, hv, hs⟩
  · rw [hu] at hk; cases hk
  · rw [hu] at hk; cases hk
  · exact ⟨s, hv, hs⟩
theorem arr_of (cs : Array Value) (l : List Value) (h : cs.size = l.length) (he : ∀ i, i < l.length → cs[i]? = l[i]?) : cs = l.toArray := by
  apply Array.ext'
  apply List.ext_getElem?
  intro i
  by_cases hi : i < l.length
  · simpa using he i hi
  · rw [List.getElem?_eq_none (by simpa using (by omega : cs.size ≤ i)), List.getElem?_eq_none (by simpa using (by omega : l.length ≤ i))]
section
variable {H : Type} {enc : TypeId × Value → H} {P : Program} {w : World} {base : Nat} {spare : Nat → Bool} {held : Bool} {r : Reach} {b0 : Nat} {t : TypeId} {v : Value} {d : DataW H} {p : List MemPlace}
/-- A struct of plain cells: its cells, each by its leaf. -/
theorem op_leaves {fs : Array Field} (hs : P.underlying t = some (.struct fs)) (k : Nat) (ts : List TypeId) (hc : P.cellsOf t = ts.length) (hl : (List.range ts.length).map (leafAt P k t) = ts.map some) (hv : Value.okWide P w r b0 t v) (h : DataW.Trod enc P w base spare held t v d p) :
    ∃ cs : Array Value, v = .agg cs ∧ cs.size = ts.length ∧ ∀ (i : Nat) (t' : TypeId), ts[i]? = some t' → ∃ u, cs[i]? = some u ∧ leafOk P t' u := by
  obtain ⟨cs, rfl, hsz⟩ := okWide_struct hs hv
  obtain ⟨fuel, hf⟩ := h
  refine ⟨cs, rfl, hsz.trans hc, fun i t' ht => ?_⟩
  have hi : i < ts.length := by
    rcases Nat.lt_or_ge i ts.length with hi | hi
    · exact hi
    · rw [List.getElem?_eq_none hi] at ht; cases ht
  have hli : leafAt P k t i = some t' := by
    have h1 := congrArg (fun l => l[i]?) hl
    simp only [List.getElem?_map, List.getElem?_range hi, Option.map_some, ht] at h1
    injection h1
  obtain ⟨u, hu, ho⟩ := leaf_of k t i fuel _ _ t' hli hf
  exact ⟨u, by simpa [Value.cells] using hu, ho⟩
end
end Go.Proofs.YtndlnphklklclaaDoorRR.FrameL
