/- Arguments that are structs or arrays of plain cells: what each cell of them is. -/
import Derived.Test.YtpjafocgabhieaaFrameL
import Derived.Deep.Slices
import Derived.Deep.Fields
import Derived.ChangeSame
import Derived.Test.YtpjafocgabhieaaMgT
namespace Go.Proofs.Ytpjafocgabhieaa.FrameL
open Go.ChangeShapes Go.WideShapes Go.ChangeAt Go.RowKit
open Go.ChangeMaps (open_string shut_string)

/-- A cell of a plain type. -/
def leafOk (P : Program) (t : TypeId) (v : Value) : Prop :=
  (∃ k n, P.underlying t = some (.int k) ∧ v = .int k n ∧ (Lit.int k n).wf = true) ∨ (∃ b, P.underlying t = some .bool ∧ v = .bool b) ∨ (∃ s, P.underlying t = some .string ∧ v = .string s ∧ s.size ≤ maxLen)

/-- Which plain type lies at cell i of a type. -/
def leafAt (P : Program) : Nat → TypeId → Nat → Option TypeId
  | 0, _, _ => none
  | k + 1, t, i =>
    match P.underlying t with
    | some (.int _) => if i = 0 then some t else none
    | some .bool => if i = 0 then some t else none
    | some .string => if i = 0 then some t else none
    | some (.array n e) => if i / P.cellsOf e < n then leafAt P k e (i % P.cellsOf e) else none
    | some (.struct fs) => fs.toList.findSome? fun f => if f.offset ≤ i ∧ i < f.offset + P.cellsOf f.type then leafAt P k f.type (i - f.offset) else none
    | _ => none

section
variable {H : Type} {enc : TypeId × Value → H} {P : Program} {w : World} {base : Nat} {spare : Nat → Bool} {held : Bool}

theorem leaf_of : ∀ (k : Nat) (t : TypeId) (i fuel : Nat) (cs : List Value) (x : DataW H × List MemPlace) (t' : TypeId), leafAt P k t i = some t' → DataW.trod enc P w base spare held fuel t cs = some x → ∃ v, cs[i]? = some v ∧ leafOk P t' v := by
  intro k
  induction k with
  | zero => intro t i fuel cs x t' h; cases h
  | succ k ih =>
    intro t i fuel cs x t' h hx
    unfold leafAt at h
    split at h
    · rename_i kd hu
      split at h
      · rename_i hi
        injection h with h
        subst h
        obtain ⟨n, rfl, _, hw⟩ := DataW.trod_int hu hx
        exact ⟨_, by rw [hi]; rfl, .inl ⟨kd, n, hu, rfl, hw⟩⟩
      · cases h
    · rename_i hu
      split at h
      · rename_i hi
        injection h with h
        subst h
        obtain ⟨b, rfl, _⟩ := DataW.trod_bool hu hx
        exact ⟨_, by rw [hi]; rfl, .inr (.inl ⟨b, hu, rfl⟩)⟩
      · cases h
    · rename_i hu
      split at h
      · rename_i hi
        injection h with h
        subst h
        obtain ⟨s, rfl, _, hs⟩ := DataW.trod_string hu hx
        exact ⟨_, by rw [hi]; rfl, .inr (.inr ⟨s, hu, rfl, hs⟩)⟩
      · cases h
    · rename_i n e hu
      split at h
      · rename_i hlt
        obtain ⟨xs, m, _, _, _, hn, hf⟩ := DataW.trod_array hu hx
        have h1 := hf _ hlt
        rw [List.getElem?_eq_getElem (by omega)] at h1
        obtain ⟨v, hv, ho⟩ := ih _ _ _ _ _ _ h h1
        refine ⟨v, ?_, ho⟩
        rw [List.getElem?_take] at hv
        split at hv
        · rw [List.getElem?_drop, Nat.div_add_mod'] at hv
          exact hv
        · cases hv
      · cases h
    · rename_i fs hu
      obtain ⟨xs, m, _, _, _, hn, hf⟩ := DataW.trod_struct hu hx
      obtain ⟨f, hmem, h⟩ := List.exists_of_findSome?_eq_some h
      split at h
      · rename_i hr
        obtain ⟨j, hj, hjf⟩ := List.mem_iff_getElem.1 hmem
        have hjs : j < fs.size := by simpa using hj
        have h1 := hf j f (by rw [Array.getElem?_eq_getElem hjs]; congr 1)
        rw [List.getElem?_eq_getElem (by omega)] at h1
        obtain ⟨v, hv, ho⟩ := ih _ _ _ _ _ _ h h1
        refine ⟨v, ?_, ho⟩
        rw [List.getElem?_take] at hv
        split at hv
        · rw [List.getElem?_drop, show f.offset + (i - f.offset) = i from by omega] at hv
          exact hv
        · cases hv
      · cases h
    · cases h
end

theorem leaf_int {P : Program} {t : TypeId} {k : IntKind} {v : Value} (hu : P.underlying t = some (.int k)) (h : leafOk P t v) : ∃ n, v = .int k n ∧ (Lit.int k n).wf = true := by
  rcases h with ⟨k', n, hk, hv, hw⟩ | ⟨b, hk, _⟩ | ⟨s, hk, _⟩
  · rw [hu] at hk
    injection hk with hk
    injection hk with hk
    subst hk
    exact ⟨n, hv, hw⟩
  · rw [hu] at hk; cases hk
  · rw [hu] at hk; cases hk
theorem leaf_bool {P : Program} {t : TypeId} {v : Value} (hu : P.underlying t = some .bool) (h : leafOk P t v) : ∃ b, v = .bool b := by
  rcases h with ⟨k', n, hk, _⟩ | ⟨b, _, hv⟩ | ⟨s, hk, _⟩
  · rw [hu] at hk; cases hk
  · exact ⟨b, hv⟩
  · rw [hu] at hk; cases hk
theorem leaf_string {P : Program} {t : TypeId} {v : Value} (hu : P.underlying t = some .string) (h : leafOk P t v) : ∃ s, v = .string s ∧ s.size ≤ maxLen := by
  rcases h with ⟨k', n, hk, _⟩ | ⟨b, hk, _⟩ | ⟨s, _, hv, hs⟩
  · rw [hu] at hk; cases hk
  · rw [hu] at hk; cases hk
  · exact ⟨s, hv, hs⟩
theorem arr_of (cs : Array Value) (l : List Value) (h : cs.size = l.length) (he : ∀ i, i < l.length → cs[i]? = l[i]?) : cs = l.toArray := by
  apply Array.ext'
  apply List.ext_getElem?
  intro i
  by_cases hi : i < l.length
  · simpa using he i hi
  · rw [List.getElem?_eq_none (by simpa using (by omega : cs.size ≤ i)), List.getElem?_eq_none (by simpa using (by omega : l.length ≤ i))]
section
variable {H : Type} {enc : TypeId × Value → H} {P : Program} {w : World} {base : Nat} {spare : Nat → Bool} {held : Bool} {r : Reach} {b0 : Nat} {t : TypeId} {v : Value} {d : DataW H} {p : List MemPlace}
/-- A struct of plain cells: its cells, each by its leaf. -/
theorem op_leaves {fs : Array Field} (hs : P.underlying t = some (.struct fs)) (k : Nat) (ts : List TypeId) (hc : P.cellsOf t = ts.length) (hl : (List.range ts.length).map (leafAt P k t) = ts.map some) (hv : Value.okWide P w r b0 t v) (h : DataW.Trod enc P w base spare held t v d p) :
    ∃ cs : Array Value, v = .agg cs ∧ cs.size = ts.length ∧ ∀ (i : Nat) (t' : TypeId), ts[i]? = some t' → ∃ u, cs[i]? = some u ∧ leafOk P t' u := by
  obtain ⟨cs, rfl, hsz⟩ := okWide_struct hs hv
  obtain ⟨fuel, hf⟩ := h
  refine ⟨cs, rfl, hsz.trans hc, fun i t' ht => ?_⟩
  have hi : i < ts.length := by
    rcases Nat.lt_or_ge i ts.length with hi | hi
    · exact hi
    · rw [List.getElem?_eq_none hi] at ht; cases ht
  have hli : leafAt P k t i = some t' := by
    have h1 := congrArg (fun l => l[i]?) hl
    simp only [List.getElem?_map, List.getElem?_range hi, Option.map_some, ht] at h1
    injection h1
  obtain ⟨u, hu, ho⟩ := leaf_of k t i fuel _ _ t' hli hf
  exact ⟨u, by simpa [Value.cells] using hu, ho⟩
end
end Go.Proofs.Ytpjafocgabhieaa.FrameL

/- Arguments that are slices of structs of plain cells: what each cell of each of them is. -/
namespace Go.Proofs.Ytpjafocgabhieaa.FrameL
open Go.ChangeShapes Go.WideShapes Go.ChangeAt Go.RowKit Go.Deep
section
variable {H : Type} {enc : TypeId × Value → H} {P : Program} {w : World} {base : Nat} {held : Bool} {r : Reach} {b0 : Nat} {t e : TypeId} {v : Value} {d : DataW H} {p : List MemPlace}
/-- A slice of structs of plain cells. -/
theorem op_sliceLeaves (ht : P.underlying t = some (.slice e)) (k : Nat) (ts : List TypeId) (hc : P.cellsOf e = ts.length) (hl : (List.range ts.length).map (leafAt P k e) = ts.map some) (hv : Value.okWide P w r b0 t v) (h : DataW.Trod enc P w base (fun _ => true) held t v d p) :
    ∃ (A : Option Addr) (n c : Nat), v = .slice A n c ∧ n ≤ c ∧ c ≤ maxLen ∧ (A = none → n = 0 ∧ c = 0) ∧
      ∀ i, i < n → ∃ ad, A = some ad ∧ ∀ (j : Nat) (t' : TypeId), ts[j]? = some t' → ∃ u, w.cell? (ad.add (i * ts.length + j)) = some u ∧ leafOk P t' u := by
  obtain ⟨A, n, c, rfl⟩ := okWide_slice ht hv
  obtain ⟨fuel, hf⟩ := h
  rcases open_slice ht hf with h0 | ⟨a, len, cap, m, n', D, Pl, hcs, _, hl1, hm, hmm, hx, hi⟩
  · have h1 := h0.1
    simp [Value.cells] at h1
    obtain ⟨rfl, rfl, rfl⟩ := h1
    exact ⟨none, 0, 0, rfl, Nat.le_refl _, Nat.zero_le _, fun _ => ⟨rfl, rfl⟩, fun i hi => by omega⟩
  · simp [Value.cells] at hcs
    obtain ⟨rfl, rfl, rfl⟩ := hcs
    refine ⟨some a, n, c, rfl, hl1, hm, (fun h => by cases h), fun i him => ⟨a, rfl, fun j t' hj => ?_⟩⟩
    have hmc : m = c := by simpa using hmm
    obtain ⟨cs', hcell, ht'⟩ := hi i (by omega)
    have hjl : j < ts.length := by
      rcases Nat.lt_or_ge j ts.length with hj' | hj'
      · exact hj'
      · rw [List.getElem?_eq_none hj'] at hj; cases hj
    have hli : leafAt P k e j = some t' := by
      have h1 := congrArg (fun l => l[j]?) hl
      simp only [List.getElem?_map, List.getElem?_range hjl, Option.map_some, hj] at h1
      injection h1
    obtain ⟨u, hu, ho⟩ := leaf_of k e j _ _ _ t' hli ht'
    obtain ⟨_, hcl, hat⟩ := World.cells?_some hcell
    refine ⟨u, ?_, ho⟩
    have h2 := hat j (by rw [hc]; exact hjl)
    rw [← Go.Deep.add_add, ← hc, h2, hu]
end
end Go.Proofs.Ytpjafocgabhieaa.FrameL

/- Arguments that are structs with slices in them: a grid by numbers, another one, a grid: their openers for a row's frame. -/
namespace Go.Proofs.Ytpjafocgabhieaa.FrameL
open Go.ChangeShapes Go.WideShapes Go.ChangeAt Go.RowKit Go.Deep
/-- Which type of one cell lies at cell i of a type: a plain one, or a slice. -/
def partAt (P : Program) : Nat → TypeId → Nat → Option TypeId
  | 0, _, _ => none
  | k + 1, t, i =>
    match P.underlying t with
    | some (.int _) => if i = 0 then some t else none
    | some .bool => if i = 0 then some t else none
    | some (.slice _) => if i = 0 then some t else none
    | some (.array n e) => if i / P.cellsOf e < n then partAt P k e (i % P.cellsOf e) else none
    | some (.struct fs) => fs.toList.findSome? fun f => if f.offset ≤ i ∧ i < f.offset + P.cellsOf f.type then partAt P k f.type (i - f.offset) else none
    | _ => none
section
variable {H : Type} {enc : TypeId × Value → H} {P : Program} {w : World} {base : Nat} {held : Bool}
/-- A value of one cell, as the frame has it. -/
def PartOk (enc : TypeId × Value → H) (P : Program) (w : World) (base : Nat) (held : Bool) (t : TypeId) (v : Value) : Prop := ∃ m y, DataW.trod enc P w base (fun _ => true) held m t [v] = some y
theorem part_of : ∀ (k : Nat) (t : TypeId) (i fuel : Nat) (cs : List Value) (x : DataW H × List MemPlace) (t' : TypeId), partAt P k t i = some t' → DataW.trod enc P w base (fun _ => true) held fuel t cs = some x → ∃ v, cs[i]? = some v ∧ PartOk enc P w base held t' v := by
  intro k
  induction k with
  | zero => intro t i fuel cs x t' h; cases h
  | succ k ih =>
    intro t i fuel cs x t' h hx
    unfold partAt at h
    split at h
    · rename_i kd hu
      split at h
      · rename_i hi
        injection h with h
        subst h
        obtain ⟨n, rfl, _, hw⟩ := DataW.trod_int hu hx
        exact ⟨_, by rw [hi]; rfl, _, _, hx⟩
      · cases h
    · rename_i hu
      split at h
      · rename_i hi
        injection h with h
        subst h
        obtain ⟨b, rfl, _⟩ := DataW.trod_bool hu hx
        exact ⟨_, by rw [hi]; rfl, _, _, hx⟩
      · cases h
    · rename_i e hu
      split at h
      · rename_i hi
        injection h with h
        subst h
        rcases open_slice hu hx with ⟨rfl, _⟩ | ⟨a, len, cap, m, n', D, Pl, rfl, _⟩
        · exact ⟨_, by rw [hi]; rfl, _, _, hx⟩
        · exact ⟨_, by rw [hi]; rfl, _, _, hx⟩
      · cases h
    · rename_i n e hu
      split at h
      · rename_i hlt
        obtain ⟨xs, m, _, _, _, hn, hf⟩ := DataW.trod_array hu hx
        have h1 := hf _ hlt
        rw [List.getElem?_eq_getElem (by omega)] at h1
        obtain ⟨v, hv, ho⟩ := ih _ _ _ _ _ _ h h1
        refine ⟨v, ?_, ho⟩
        rw [List.getElem?_take] at hv
        split at hv
        · rw [List.getElem?_drop, Nat.div_add_mod'] at hv
          exact hv
        · cases hv
      · cases h
    · rename_i fs hu
      obtain ⟨xs, m, _, _, _, hn, hf⟩ := DataW.trod_struct hu hx
      obtain ⟨f, hmem, h⟩ := List.exists_of_findSome?_eq_some h
      split at h
      · rename_i hr
        obtain ⟨j, hj, hjf⟩ := List.mem_iff_getElem.1 hmem
        have hjs : j < fs.size := by simpa using hj
        have h1 := hf j f (by rw [Array.getElem?_eq_getElem hjs]; congr 1)
        rw [List.getElem?_eq_getElem (by omega)] at h1
        obtain ⟨v, hv, ho⟩ := ih _ _ _ _ _ _ h h1
        refine ⟨v, ?_, ho⟩
        rw [List.getElem?_take] at hv
        split at hv
        · rw [List.getElem?_drop, show f.offset + (i - f.offset) = i from by omega] at hv
          exact hv
        · cases hv
      · cases h
    · cases h
theorem part_int {t : TypeId} {k : IntKind} {v : Value} (hu : P.underlying t = some (.int k)) (h : PartOk enc P w base held t v) : ∃ n, v = .int k n ∧ (Lit.int k n).wf = true := by
  obtain ⟨m, y, hx⟩ := h
  obtain ⟨n, e, _, hw⟩ := DataW.trod_int hu hx
  injection e with e _
  exact ⟨n, e, hw⟩
theorem part_bool {t : TypeId} {v : Value} (hu : P.underlying t = some .bool) (h : PartOk enc P w base held t v) : ∃ b, v = .bool b := by
  obtain ⟨m, y, hx⟩ := h
  obtain ⟨b, e, _⟩ := DataW.trod_bool hu hx
  injection e with e _
  exact ⟨b, e⟩
theorem part_ints {t e : TypeId} {v : Value} (ht : P.underlying t = some (.slice e)) (he : P.underlying e = some (.int .i64)) (hc : P.cellsOf e = 1) (h : PartOk enc P w base held t v) :
    ∃ (A : Option Addr) (n c : Nat) (xs : List Int), v = .slice A n c ∧ (xs.length = n ∧ n ≤ c) ∧ Ints w A xs := by
  obtain ⟨m, y, hx⟩ := h
  rcases open_ints ht he hc hx with ⟨hcs, _⟩ | ⟨x, l, c', zs, hcs, _, hl, hm, hz, _, hcell, hwz⟩
  · injection hcs with hcs _
    exact ⟨none, 0, 0, [], hcs, ⟨rfl, Nat.le_refl _⟩, Elems.zero _ _ _⟩
  · injection hcs with hcs _
    have hz' : zs.length = c' := by simpa using hz
    exact ⟨some x, l, c', zs.take l, hcs, ⟨by rw [List.length_take]; omega, hl⟩, Ints.take (fun _ => ⟨x, rfl, hcell⟩) l⟩
theorem op_parts {r : Reach} {b0 : Nat} {t : TypeId} {v : Value} {d : DataW H} {p : List MemPlace} {fs : Array Field} (hs : P.underlying t = some (.struct fs)) (k : Nat) (ts : List TypeId) (hc : P.cellsOf t = ts.length) (hl : (List.range ts.length).map (partAt P k t) = ts.map some) (hv : Value.okWide P w r b0 t v) (h : DataW.Trod enc P w base (fun _ => true) held t v d p) :
    ∃ cs : Array Value, v = .agg cs ∧ cs.size = ts.length ∧ ∀ (i : Nat) (t' : TypeId), ts[i]? = some t' → ∃ u, cs[i]? = some u ∧ PartOk enc P w base held t' u := by
  obtain ⟨cs, rfl, hsz⟩ := okWide_struct hs hv
  obtain ⟨fuel, hf⟩ := h
  refine ⟨cs, rfl, hsz.trans hc, fun i t' ht => ?_⟩
  have hi : i < ts.length := by
    rcases Nat.lt_or_ge i ts.length with hi | hi
    · exact hi
    · rw [List.getElem?_eq_none hi] at ht; cases ht
  have hli : partAt P k t i = some t' := by
    have h1 := congrArg (fun l => l[i]?) hl
    simp only [List.getElem?_map, List.getElem?_range hi, Option.map_some, ht] at h1
    injection h1
  obtain ⟨u, hu, ho⟩ := part_of k t i fuel _ _ t' hli hf
  exact ⟨u, by simpa [Value.cells] using hu, ho⟩
end
section
variable {H : Type} {enc : TypeId × Value → H} {w : World} {base : Nat} {held : Bool}
set_option maxRecDepth 100000 in
theorem part_cells {v : Value} (h : PartOk enc Try.prog w base held 30 v) : ∃ (A : Option Addr) (n c : Nat) (l : List Cl), v = .slice A n c ∧ RowS w A n c l := by
  obtain ⟨m, y, hx⟩ := h
  rcases open_slice Try.underlying30 hx with ⟨hcs, _⟩ | ⟨a, len, cap, m', n', D, Pl, hcs, _, hl, hm, hmm, _, hi⟩
  · injection hcs with hcs _
    exact ⟨none, 0, 0, [], hcs, RowS.none w⟩
  · injection hcs with hcs _
    have hmc : m' = cap := by simpa using hmm
    have hc4 : Try.prog.cellsOf 55 = 4 := by kernel_rfl
    have hleaf : ∀ i, i < len → ∃ r f b x : Int, w.cell? (a.add (i * 4)) = some (.int .i32 r) ∧ w.cell? (a.add (i * 4 + 1)) = some (.int .u8 f) ∧ w.cell? (a.add (i * 4 + 2)) = some (.int .u8 b) ∧ w.cell? (a.add (i * 4 + 3)) = some (.int .u8 x) ∧ (Lit.int .i32 r).wf = true ∧ (Lit.int .u8 f).wf = true ∧ (Lit.int .u8 b).wf = true ∧ (Lit.int .u8 x).wf = true := fun i hil => by
      obtain ⟨cs', hcell, ht'⟩ := hi i (by omega)
      obtain ⟨_, hcl, hat⟩ := World.cells?_some hcell
      rw [hc4] at hat
      have hq : ∀ j t', leafAt Try.prog 3 55 j = some t' → j < 4 → ∃ u, w.cell? (a.add (i * 4 + j)) = some u ∧ leafOk Try.prog t' u := fun j t' hj h4 => by
        obtain ⟨u, hu, ho⟩ := leaf_of 3 55 j _ _ _ t' hj ht'
        refine ⟨u, ?_, ho⟩
        have h2 := hat j h4
        rw [Go.Deep.add_add] at h2
        rw [h2, hu]
      obtain ⟨u0, e0, o0⟩ := hq 0 21 (by kernel_rfl) (by omega)
      obtain ⟨u1, e1, o1⟩ := hq 1 5 (by kernel_rfl) (by omega)
      obtain ⟨u2, e2, o2⟩ := hq 2 5 (by kernel_rfl) (by omega)
      obtain ⟨u3, e3, o3⟩ := hq 3 5 (by kernel_rfl) (by omega)
      obtain ⟨r, rfl, w0⟩ := leaf_int Try.underlying21 o0
      obtain ⟨f, rfl, w1⟩ := leaf_int Try.underlying5 o1
      obtain ⟨b, rfl, w2⟩ := leaf_int Try.underlying5 o2
      obtain ⟨x, rfl, w3⟩ := leaf_int Try.underlying5 o3
      exact ⟨r, f, b, x, e0, e1, e2, e3, w0, w1, w2, w3⟩
    obtain ⟨rd, hrd⟩ : ∃ rd : Nat → Int, rd = fun j => intOf ((w.cell? (a.add j)).getD undef) := ⟨_, rfl⟩
    refine ⟨some a, len, cap, (List.range len).map fun i => ⟨rd (i * 4), (rd (i * 4 + 1)).toNat, (rd (i * 4 + 2)).toNat, (rd (i * 4 + 3)).toNat⟩, hcs, ⟨by simp, hl, hm, fun _ => ⟨a, rfl, fun k c hk => ?_⟩, fun e => by cases e⟩⟩
    have hkl : k < len := by
      have := (List.getElem?_eq_some_iff.1 hk).1
      simpa using this
    rw [List.getElem?_map, List.getElem?_range hkl] at hk
    obtain rfl := Option.some.inj hk
    obtain ⟨r, f, b, x, e0, e1, e2, e3, w0, w1, w2, w3⟩ := hleaf k hkl
    have r0 : rd (k * 4) = r := by rw [hrd]; simp only [e0]; rfl
    have r1 : rd (k * 4 + 1) = f := by rw [hrd]; simp only [e1]; rfl
    have r2 : rd (k * 4 + 2) = b := by rw [hrd]; simp only [e2]; rfl
    have r3 : rd (k * 4 + 3) = x := by rw [hrd]; simp only [e3]; rfl
    simp only [r0, r1, r2, r3]
    have b0 := bounds_i32 w0
    have b1 := bounds_u8 w1
    have b2 := bounds_u8 w2
    have b3 := bounds_u8 w3
    have q1 : ((f.toNat : Nat) : Int) = f := by omega
    have q2 : ((b.toNat : Nat) : Int) = b := by omega
    have q3 : ((x.toNat : Nat) : Int) = x := by omega
    refine ⟨⟨e0, ?_, ?_, ?_⟩, ⟨by simp only; omega, by simp only; omega, by simp only; omega, by simp only; omega, by simp only; omega⟩⟩
    · rw [← cell_add _ _ _ (by omega), Go.Deep.add_add, e1]
      simp only [q1]
    · rw [← cell_add _ _ _ (by omega), Go.Deep.add_add, e2]
      simp only [q2]
    · rw [← cell_add _ _ _ (by omega), Go.Deep.add_add, e3]
      simp only [q3]
variable {r : Reach} {b0 : Nat} {v : Value} {d : DataW H} {p : List MemPlace}
set_option maxRecDepth 100000 in
theorem op_Num (hv : Value.okWide Try.prog w r b0 24 v) (h : DataW.Trod enc Try.prog w base (fun _ => true) held 24 v d p) : ∃ (W H : Int) (A : Option Addr) (n c : Nat) (xs : List Int), v = numv W H A n c ∧ (xs.length = n ∧ n ≤ c) ∧ Ints w A xs := by
  obtain ⟨cs, rfl, hsz, hl⟩ := op_parts Try.underlying24 4 [3, 3, 22] (by kernel_rfl) (by kernel_rfl) hv h
  obtain ⟨u0, e0, o0⟩ := hl 0 _ rfl
  obtain ⟨u1, e1, o1⟩ := hl 1 _ rfl
  obtain ⟨u2, e2, o2⟩ := hl 2 _ rfl
  obtain ⟨W, rfl, _⟩ := part_int Try.underlying3 o0
  obtain ⟨H, rfl, _⟩ := part_int Try.underlying3 o1
  obtain ⟨A, n, c, xs, rfl, hx, hA⟩ := part_ints Try.underlying22 Try.underlying3 (by kernel_rfl) o2
  refine ⟨W, H, A, n, c, xs, ?_, hx, hA⟩
  rw [arr_of cs [.int .i64 W, .int .i64 H, .slice A n c] hsz (fun i hi => by
    have hi3 : i < 3 := hi
    rcases (show i = 0 ∨ i = 1 ∨ i = 2 by omega) with rfl | rfl | rfl
    · exact e0
    · exact e1
    · exact e2)]
set_option maxRecDepth 100000 in
theorem op_Grid (hv : Value.okWide Try.prog w r b0 32 v) (h : DataW.Trod enc Try.prog w base (fun _ => true) held 32 v d p) : ∃ (W H : Int) (A : Option Addr) (n c : Nat) (l : List Cl), v = grv W H A n c ∧ RowS w A n c l := by
  obtain ⟨cs, rfl, hsz, hl⟩ := op_parts Try.underlying32 4 [3, 3, 30] (by kernel_rfl) (by kernel_rfl) hv h
  obtain ⟨u0, e0, o0⟩ := hl 0 _ rfl
  obtain ⟨u1, e1, o1⟩ := hl 1 _ rfl
  obtain ⟨u2, e2, o2⟩ := hl 2 _ rfl
  obtain ⟨W, rfl, _⟩ := part_int Try.underlying3 o0
  obtain ⟨H, rfl, _⟩ := part_int Try.underlying3 o1
  obtain ⟨A, n, c, l, rfl, hR⟩ := part_cells o2
  refine ⟨W, H, A, n, c, l, ?_, hR⟩
  rw [arr_of cs [.int .i64 W, .int .i64 H, .slice A n c] hsz (fun i hi => by
    have hi3 : i < 3 := hi
    rcases (show i = 0 ∨ i = 1 ∨ i = 2 by omega) with rfl | rfl | rfl
    · exact e0
    · exact e1
    · exact e2)]
set_option maxRecDepth 100000 in
theorem op_Other (hv : Value.okWide Try.prog w r b0 29 v) (h : DataW.Trod enc Try.prog w base (fun _ => true) held 29 v d p) :
    ∃ (W H : Int) (A : Option Addr) (n c : Nat) (xs : List Int) (a0 a1 a2 a3 a4 a5 : Int) (A0 : Option Addr) (n0 c0 : Nat) (x0 : List Int) (A1 : Option Addr) (n1 c1 : Nat) (x1 : List Int) (A2 : Option Addr) (n2 c2 : Nat) (x2 : List Int) (all : Bool),
      v = .agg (othA W H A n c a0 a1 a2 a3 a4 a5 A0 n0 c0 A1 n1 c1 A2 n2 c2 all) ∧ ((xs.length = n ∧ n ≤ c) ∧ Ints w A xs) ∧ ((x0.length = n0 ∧ n0 ≤ c0) ∧ Ints w A0 x0) ∧ ((x1.length = n1 ∧ n1 ≤ c1) ∧ Ints w A1 x1) ∧ ((x2.length = n2 ∧ n2 ≤ c2) ∧ Ints w A2 x2) := by
  obtain ⟨cs, rfl, hsz, hl⟩ := op_parts Try.underlying29 5 [3, 3, 22, 3, 3, 3, 3, 3, 3, 22, 22, 22, 4] (by kernel_rfl) (by kernel_rfl) hv h
  obtain ⟨u0, e0, o0⟩ := hl 0 _ rfl
  obtain ⟨u1, e1, o1⟩ := hl 1 _ rfl
  obtain ⟨u2, e2, o2⟩ := hl 2 _ rfl
  obtain ⟨u3, e3, o3⟩ := hl 3 _ rfl
  obtain ⟨u4, e4, o4⟩ := hl 4 _ rfl
  obtain ⟨u5, e5, o5⟩ := hl 5 _ rfl
  obtain ⟨u6, e6, o6⟩ := hl 6 _ rfl
  obtain ⟨u7, e7, o7⟩ := hl 7 _ rfl
  obtain ⟨u8, e8, o8⟩ := hl 8 _ rfl
  obtain ⟨u9, e9, o9⟩ := hl 9 _ rfl
  obtain ⟨u10, e10, o10⟩ := hl 10 _ rfl
  obtain ⟨u11, e11, o11⟩ := hl 11 _ rfl
  obtain ⟨u12, e12, o12⟩ := hl 12 _ rfl
  obtain ⟨W, rfl, _⟩ := part_int Try.underlying3 o0
  obtain ⟨H, rfl, _⟩ := part_int Try.underlying3 o1
  obtain ⟨A, n, c, xs, rfl, hx, hA⟩ := part_ints Try.underlying22 Try.underlying3 (by kernel_rfl) o2
  obtain ⟨a0, rfl, _⟩ := part_int Try.underlying3 o3
  obtain ⟨a1, rfl, _⟩ := part_int Try.underlying3 o4
  obtain ⟨a2, rfl, _⟩ := part_int Try.underlying3 o5
  obtain ⟨a3, rfl, _⟩ := part_int Try.underlying3 o6
  obtain ⟨a4, rfl, _⟩ := part_int Try.underlying3 o7
  obtain ⟨a5, rfl, _⟩ := part_int Try.underlying3 o8
  obtain ⟨A0, n0, c0, x0, rfl, hx0, hA0⟩ := part_ints Try.underlying22 Try.underlying3 (by kernel_rfl) o9
  obtain ⟨A1, n1, c1, x1, rfl, hx1, hA1⟩ := part_ints Try.underlying22 Try.underlying3 (by kernel_rfl) o10
  obtain ⟨A2, n2, c2, x2, rfl, hx2, hA2⟩ := part_ints Try.underlying22 Try.underlying3 (by kernel_rfl) o11
  obtain ⟨all, rfl⟩ := part_bool Try.underlying4 o12
  refine ⟨W, H, A, n, c, xs, a0, a1, a2, a3, a4, a5, A0, n0, c0, x0, A1, n1, c1, x1, A2, n2, c2, x2, all, ?_, ⟨hx, hA⟩, ⟨hx0, hA0⟩, ⟨hx1, hA1⟩, ⟨hx2, hA2⟩⟩
  rw [arr_of cs [.int .i64 W, .int .i64 H, .slice A n c, .int .i64 a0, .int .i64 a1, .int .i64 a2, .int .i64 a3, .int .i64 a4, .int .i64 a5, .slice A0 n0 c0, .slice A1 n1 c1, .slice A2 n2 c2, .bool all] hsz (fun i hi => by
    have hi13 : i < 13 := hi
    rcases (show i = 0 ∨ i = 1 ∨ i = 2 ∨ i = 3 ∨ i = 4 ∨ i = 5 ∨ i = 6 ∨ i = 7 ∨ i = 8 ∨ i = 9 ∨ i = 10 ∨ i = 11 ∨ i = 12 by omega) with rfl | rfl | rfl | rfl | rfl | rfl | rfl | rfl | rfl | rfl | rfl | rfl | rfl
    · exact e0
    · exact e1
    · exact e2
    · exact e3
    · exact e4
    · exact e5
    · exact e6
    · exact e7
    · exact e8
    · exact e9
    · exact e10
    · exact e11
    · exact e12)]
end
def wit_Num : Value := numv 0 0 none 0 0
def wit_Grid : Value := grv 0 0 none 0 0
def wit_Other : Value := .agg (othA 0 0 none 0 0 0 0 0 0 0 0 none 0 0 none 0 0 none 0 0 false)
end Go.Proofs.Ytpjafocgabhieaa.FrameL
