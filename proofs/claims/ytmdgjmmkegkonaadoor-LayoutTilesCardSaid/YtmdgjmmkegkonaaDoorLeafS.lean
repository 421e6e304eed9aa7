/- Arguments that are slices of structs of plain cells: what each cell of each of them is. -/
import Derived.Test.YtmdgjmmkegkonaaDoorLeafL
import Derived.Deep.Slices
import Derived.Deep.Fields
import Derived.ChangeSame
namespace Go.Proofs.YtmdgjmmkegkonaaDoor.FrameL
open Go.ChangeShapes Go.WideShapes Go.ChangeAt Go.RowKit Go.Deep
section
variable {H : Type} {enc : TypeId × Value → H} {P : Program} {w : World} {base : Nat} {held : Bool} {r : Reach} {b0 : Nat} {t e : TypeId} {v : Value} {d : DataW H} {p : List MemPlace}
/-- A slice of structs of plain cells. -/
theorem op_sliceLeaves (ht : P.underlying t = some (.slice e)) (k : Nat) (ts : List TypeId) (hc : P.cellsOf e = ts.length) (hl : (List.range ts.length).map (leafAt P k e) = ts.map some) (hv : Value.okWide P w r b0 t v) (h : DataW.Trod enc P w base (fun _ => true) held t v d p) :
    ∃ (A : Option Addr) (n c : Nat), v = .slice A n c ∧ n ≤ c ∧ c ≤ maxLen ∧ (A = none → n = 0 ∧ c = 0) ∧
      ∀ i, i < n → ∃ ad, A = some ad ∧ ∀ (j : Nat) (t' : TypeId), ts[j]? = some t' → ∃ u, w.cell? (ad.add (i * ts.length + j)) = some u ∧ leafOk P t' u := by
  obtain ⟨A, n, c, rfl⟩ := okWide_slice ht hv
  obtain ⟨fuel, hf⟩ := h
  rcases open_slice ht hf with h0 | ⟨a, len, cap, m, n', D, Pl, hcs, _, hl1, hm, hmm, hx, hi⟩
  · have h1 := h0.1
    simp [Value.cells] at h1
    obtain ⟨rfl, rfl, rfl⟩ := h1
    exact ⟨none, 0, 0, rfl, Nat.le_refl _, Nat.zero_le _, fun _ => ⟨rfl, rfl⟩, fun i hi => by omega⟩
  · simp [Value.cells] at hcs
    obtain ⟨rfl, rfl, rfl⟩ := hcs
    refine ⟨some a, n, c, rfl, hl1, hm, (fun h => by cases h), fun i him => ⟨a, rfl, fun j t' hj => ?_⟩⟩
    have hmc : m = c := by simpa using hmm
    obtain ⟨cs', hcell, ht'⟩ := hi i (by omega)
    have hjl : j < ts.length := by
      rcases Nat.lt_or_ge j ts.length with hj' | hj'
      · exact hj'
      · rw [List.getElem?_eq_none hj'] at hj; cases hj
    have hli : leafAt P k e j = some t' := by
      have h1 := congrArg (fun l => l[j]?) hl
      simp only [List.getElem?_map, List.getElem?_range hjl, Option.map_some, hj] at h1
      injection h1
    obtain ⟨u, hu, ho⟩ := leaf_of k e j _ _ _ t' hli ht'
    obtain ⟨_, hcl, hat⟩ := World.cells?_some hcell
    refine ⟨u, ?_, ho⟩
    have h2 := hat j (by rw [hc]; exact hjl)
    rw [← Go.Deep.add_add, ← hc, h2, hu]
end
end Go.Proofs.YtmdgjmmkegkonaaDoor.FrameL
