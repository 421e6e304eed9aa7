/- Rows of cells as rows of values: laws for append, sub-rows (for DiffTells). -/
import Derived.Test.YtpjafocgabhieaaCelR
import Derived.Test.YtpjafocgabhieaaSrcL
import Derived.Deep.Slices
namespace Go.Proofs.Ytpjafocgabhieaa
open Go.RowKit Go.Sort
abbrev cvs (c : Cl) : List Value := [.int .i32 c.r, .int .u8 (c.f : Int), .int .u8 (c.b : Int), .int .u8 (c.x : Int)]
def rowV (l : List Cl) : List Value := l.flatMap cvs
def OkL (l : List Cl) : Prop := ∀ c ∈ l, OkC c
theorem rowV_nil : rowV [] = [] := rfl
theorem rowV_cons (c : Cl) (l : List Cl) : rowV (c :: l) = cvs c ++ rowV l := by simp [rowV]
theorem rowV_append (a b : List Cl) : rowV (a ++ b) = rowV a ++ rowV b := by simp [rowV]
theorem rowV_len (l : List Cl) : (rowV l).length = l.length * 4 := by
  induction l with
  | nil => rfl
  | cons c l ih =>
    rw [rowV_cons, List.length_append, ih, List.length_cons]
    simp only [List.length_cons, List.length_nil]
    omega
theorem rowV_at : ∀ (l : List Cl) (k : Nat) (c : Cl) (r : Nat), l[k]? = some c → r < 4 → (rowV l)[k * 4 + r]? = (cvs c)[r]?
  | [], k, c, r, h, _ => by simp at h
  | d :: l, 0, c, r, h, hr => by
    obtain rfl : d = c := by simpa using h
    rw [rowV_cons, List.getElem?_append_left (by simp only [cvs, List.length_cons, List.length_nil]; omega), Nat.zero_mul, Nat.zero_add]
  | d :: l, k + 1, c, r, h, hr => by
    rw [rowV_cons, List.getElem?_append_right (by simp only [cvs, List.length_cons, List.length_nil]; omega)]
    have := rowV_at l k c r (by simpa using h) hr
    rw [← this]
    congr 1
    simp only [cvs, List.length_cons, List.length_nil]
    omega
theorem rowV_one (l : List Cl) : ∀ u ∈ rowV l, u.oneCell' = true := by
  intro u hu
  obtain ⟨c, _, hc⟩ := List.mem_flatMap.1 hu
  simp only [cvs, List.mem_cons, List.not_mem_nil, or_false] at hc
  rcases hc with rfl | rfl | rfl | rfl <;> rfl
theorem cell_add (w : World) (p : Addr) (r : Nat) (hr : 0 < r) : w.cell? (p.add r) = w.cell? ⟨p.block, p.off + r, none⟩ := by
  unfold Addr.add
  rw [if_neg (by omega)]
theorem Cels.src {w : World} {ad : Addr} {l : List Cl} (h : Cels w ad l) : ∀ j u, (rowV l)[j]? = some u → w.cell? (ad.add j) = some u := fun j u hu => by
  have hj : j < l.length * 4 := by
    have := (List.getElem?_eq_some_iff.1 hu).1
    rwa [rowV_len] at this
  obtain ⟨c, hc⟩ : ∃ c, l[j / 4]? = some c := ⟨_, List.getElem?_eq_getElem (by omega)⟩
  have h1 := rowV_at l (j / 4) c (j % 4) hc (by omega)
  rw [show j / 4 * 4 + j % 4 = j by omega, hu] at h1
  obtain ⟨⟨c0, c1, c2, c3⟩, _⟩ := h (j / 4) c hc
  rw [show ad.add j = (ad.add (j / 4 * 4)).add (j % 4) by rw [Go.Deep.add_add]; congr 1; omega]
  rcases (show j % 4 = 0 ∨ j % 4 = 1 ∨ j % 4 = 2 ∨ j % 4 = 3 by omega) with e | e | e | e <;> rw [e] at h1 ⊢
  · rw [show (ad.add (j / 4 * 4)).add 0 = ad.add (j / 4 * 4) from rfl, c0, h1]
    rfl
  · rw [cell_add _ _ _ (by omega), c1, h1]
    rfl
  · rw [cell_add _ _ _ (by omega), c2, h1]
    rfl
  · rw [cell_add _ _ _ (by omega), c3, h1]
    rfl
theorem Cels.of_src {w : World} {ad : Addr} {l : List Cl} (hok : OkL l) (h : ∀ j u, (rowV l)[j]? = some u → w.cell? (ad.add j) = some u) : Cels w ad l := fun k c hc => by
  have h1 : ∀ r, r < 4 → ∀ u, (cvs c)[r]? = some u → w.cell? ((ad.add (k * 4)).add r) = some u := fun r hr u hu => by
    rw [Go.Deep.add_add]
    exact h _ u ((rowV_at l k c r hc hr).trans hu)
  refine ⟨⟨h1 0 (by omega) _ rfl, ?_, ?_, ?_⟩, hok c (List.mem_of_getElem? hc)⟩
  · rw [← cell_add _ _ _ (by omega)]
    exact h1 1 (by omega) _ rfl
  · rw [← cell_add _ _ _ (by omega)]
    exact h1 2 (by omega) _ rfl
  · rw [← cell_add _ _ _ (by omega)]
    exact h1 3 (by omega) _ rfl
theorem Cels.sub {w : World} {ad : Addr} {l : List Cl} (h : Cels w ad l) (p k : Nat) : Cels w (ad.add (p * 4)) ((l.drop p).take k) := fun i c hc => by
  have h1 : l[p + i]? = some c := by
    have hi := (List.getElem?_eq_some_iff.1 hc).1
    rw [List.length_take] at hi
    rw [List.getElem?_take_of_lt (by omega), List.getElem?_drop] at hc
    exact hc
  obtain ⟨h2, h3⟩ := h (p + i) c h1
  rw [Go.Deep.add_add, ← Nat.add_mul]
  exact ⟨h2, h3⟩
theorem Cels.ok {w : World} {ad : Addr} {l : List Cl} (h : Cels w ad l) : OkL l := fun c hc => by
  obtain ⟨k, hk⟩ := List.getElem?_of_mem hc
  exact (h k c hk).2
/-- A row of cells as a slice's value has it. -/
structure RowS (w : World) (A : Option Addr) (n c : Nat) (l : List Cl) : Prop where
  len : l.length = n
  cap : n ≤ c
  cm : c ≤ maxLen
  row : RowC w A l
  nil : A = none → c = 0
theorem RowS.below {w w' : World} {A : Option Addr} {n c : Nat} {l : List Cl} (h : RowS w A n c l) (hb : Below w.heap.size w w') : RowS w' A n c l := ⟨h.len, h.cap, h.cm, h.row.below hb, h.nil⟩
theorem RowS.ok {w : World} {A : Option Addr} {n c : Nat} {l : List Cl} (h : RowS w A n c l) : OkL l := fun x hx => by
  obtain ⟨ad, _, hc⟩ := h.row (List.length_pos_of_mem hx)
  exact hc.ok x hx
theorem RowS.src {w : World} {A : Option Addr} {n c : Nat} {l : List Cl} (h : RowS w A n c l) : Src w A (rowV l) := fun h0 => by
  rw [rowV_len] at h0
  obtain ⟨ad, e, hc⟩ := h.row (by omega)
  exact ⟨ad, e, hc.src⟩
theorem RowS.nil' {w : World} {A : Option Addr} {n c : Nat} {l : List Cl} (h : RowS w A n c l) (e : A = none) : n = 0 ∧ c = 0 := by
  have := h.nil e
  have := h.cap
  omega
theorem RowS.of_own {w : World} {base : Nat} {e : TypeId} {n : Nat} {v : Value} {l : List Cl} (hok : OkL l) (h : w.ownsRow base e 4 v n (rowV l)) : ∃ A c, v = .slice A n c ∧ RowS w A n c l := by
  have hl : l.length = n := by
    have := h.1
    rw [rowV_len] at this
    omega
  rcases h.2 with ⟨rfl, rfl⟩ | ⟨g, cap, cur, rfl, _, _, h1, h2, _⟩
  · exact ⟨none, 0, rfl, hl, Nat.le_refl _, Nat.zero_le _, fun h0 => by omega, fun _ => rfl⟩
  · exact ⟨_, _, rfl, hl, h1, h2, fun _ => ⟨_, rfl, Cels.of_src hok (h.cells (g := g) rfl)⟩, fun h0 => by cases h0⟩
/-- An empty row that was just made. -/
theorem own_empty (w : World) (base : Nat) (e : TypeId) (size : Nat) (hb : base ≤ w.heap.size) : (w.alloc (.cells #[] e)).ownsRow base e size (.slice (some ⟨w.heap.size, 0, none⟩) 0 0) 0 [] :=
  ⟨by simp, .inr ⟨w.heap.size, 0, #[], rfl, hb, heap_alloc_new w _, Nat.le_refl _, Nat.zero_le _, by simp, by simp⟩⟩
theorem Try.info55 : (Try.prog.info? 55).map (fun i => (i.zero, i.size, i.bytes)) = some (some (.agg #[.int .i32 0, .int .u8 0, .int .u8 0, .int .u8 0]), 4, 8) := by kernel_rfl
end Go.Proofs.Ytpjafocgabhieaa
