/- A slice of characters: its opener for a row's frame. -/
import Derived.Test.YtljjklhkifehaaaFrameL
namespace Go.Proofs.Ytljjklhkifehaaa.FrameL
open Go.ChangeShapes Go.WideShapes Go.ChangeAt Go.RowKit
section
variable {H : Type} {enc : TypeId × Value → H} {P : Program} {w : World} {base : Nat} {held : Bool} {r : Reach} {b0 : Nat} {t : TypeId} {v : Value} {d : DataW H} {p : List MemPlace}
theorem op_ints32 {e : TypeId} (ht : P.underlying t = some (.slice e)) (he : P.underlying e = some (.int .i32)) (hc : P.cellsOf e = 1) (hv : Value.okWide P w r b0 t v) (h : DataW.Trod enc P w base (fun _ => true) held t v d p) :
    ∃ (A : Option Addr) (n c : Nat) (xs : List Int), v = .slice A n c ∧ xs.length = n ∧ n ≤ maxLen ∧ Src w A (xs.map (Value.int .i32)) ∧ ∀ x ∈ xs, -2147483648 ≤ x ∧ x ≤ 2147483647 := by
  obtain ⟨A, n, c, rfl⟩ := okWide_slice ht hv
  obtain ⟨fuel, hf⟩ := h
  rcases open_ints ht he hc hf with ⟨hcs, _⟩ | ⟨x, l, c', zs, hcs, _, hl, hm, hz, _, hcell, hwz⟩
  · simp [Value.cells] at hcs
    obtain ⟨rfl, rfl, rfl⟩ := hcs
    exact ⟨none, 0, 0, [], rfl, rfl, Nat.zero_le _, (fun h0 => by simp at h0), (fun n hn => by cases hn)⟩
  · simp [Value.cells] at hcs
    obtain ⟨rfl, rfl, rfl⟩ := hcs
    have hz' : zs.length = c := by simpa using hz
    refine ⟨some x, n, c, zs.take n, rfl, by rw [List.length_take]; omega, Nat.le_trans hl hm, fun _ => ⟨x, rfl, fun j u hj => ?_⟩, fun m hm => ?_⟩
    · have hj1 := (List.getElem?_eq_some_iff.1 hj).1
      rw [List.length_map, List.length_take] at hj1
      have hjz : j < zs.length := by omega
      rw [hcell j hjz]
      rw [List.getElem?_map, List.getElem?_take_of_lt (by omega), List.getElem?_eq_getElem hjz] at hj
      simp at hj
      subst hj
      simp [List.getD, hjz]
    · have := bounds_i32 (hwz m (List.mem_of_mem_take hm))
      omega
end
end Go.Proofs.Ytljjklhkifehaaa.FrameL
