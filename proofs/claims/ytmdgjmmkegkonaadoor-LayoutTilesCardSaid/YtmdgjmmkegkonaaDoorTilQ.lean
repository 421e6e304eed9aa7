/- The row of counts that LayoutTiles fills, and a row of boxes as it lies. -/
import Derived.Test.YtmdgjmmkegkonaaDoorTilP
import Derived.Test.YtmdgjmmkegkonaaDoorNextW
namespace Go.Proofs.YtmdgjmmkegkonaaDoor
open Go.RowKit
/-- How much of box b is counted at (p, q) when the loops stand at (x, y). -/
def partc (b : Rc) (y x p q : Int) : Nat := if b.x ≤ p ∧ p < b.x + b.w ∧ b.y ≤ q ∧ q < b.y + b.h ∧ (q < y ∨ (q = y ∧ p < x)) then 1 else 0
def part (wn : Nat) (b : Rc) (y x : Int) (i : Nat) : Nat := partc b y x ((i % wn : Nat) : Int) ((i / wn : Nat) : Int)
def cntR (wn : Nat) (l : List Rc) (i : Nat) : Nat := cnt l ((i % wn : Nat) : Int) ((i / wn : Nat) : Int)
theorem part_start (wn : Nat) (b : Rc) (i : Nat) : part wn b b.y b.x i = 0 := by
  unfold part partc
  rw [if_neg (by omega)]
theorem part_row (wn : Nat) (b : Rc) (y : Int) (i : Nat) : part wn b y (b.x + b.w) i = part wn b (y + 1) b.x i := by
  unfold part partc
  congr 1
  apply propext
  omega
theorem part_end (wn : Nat) (b : Rc) (l : List Rc) (x : Int) (i : Nat) : cntR wn l i + part wn b (b.y + b.h) x i = cntR wn (l ++ [b]) i := by
  unfold part partc cntR
  rw [cnt_append]
  congr 1
  have h : cnt [b] ((i % wn : Nat) : Int) ((i / wn : Nat) : Int) = isIn ((i % wn : Nat) : Int) ((i / wn : Nat) : Int) b := by simp [cnt]
  rw [h]
  unfold isIn
  congr 1
  apply propext
  rw [inR_iff]
  omega
theorem part_step (wn : Nat) (b : Rc) (y x : Nat) (i : Nat) (hx : x < wn) (h1 : b.x ≤ x) (h2 : (x : Int) < b.x + b.w) (h3 : b.y ≤ y) (h4 : (y : Int) < b.y + b.h) : part wn b y ((x : Int) + 1) i = if i = y * wn + x then part wn b y x i + 1 else part wn b y x i := by
  have hi := Nat.div_add_mod i wn
  unfold part partc
  by_cases he : i = y * wn + x
  · have hd : i / wn = y := by rw [he, Nat.mul_comm, Nat.mul_add_div (by omega), Nat.div_eq_of_lt hx, Nat.add_zero]
    have hm : i % wn = x := by rw [he, Nat.mul_comm, Nat.mul_add_mod, Nat.mod_eq_of_lt hx]
    rw [if_pos he, hd, hm, if_pos (by omega), if_neg (by omega)]
  · rw [if_neg he]
    have hne : ¬ (i / wn = y ∧ i % wn = x) := fun ⟨e1, e2⟩ => he (by rw [← hi, e1, e2, Nat.mul_comm])
    congr 1
    apply propext
    omega
/-- A row of boxes that lies in memory. -/
structure Bx (w : World) (g n c : Nat) (l : List Rc) : Prop where
  len : n = l.length
  cap : n ≤ c
  big : c ≤ maxLen
  blk : ∃ cs, w.heap[g]? = some (.cells cs 41 (0, 0))
  at' : ∀ k x, l[k]? = some x → ∀ j u, (rectV x)[j]? = some u → w.cell? ⟨g, k * 4 + j, none⟩ = some u
theorem Bx.lt {w : World} {g n c : Nat} {l : List Rc} (h : Bx w g n c l) : g < w.heap.size := by
  obtain ⟨cs, h1⟩ := h.blk
  exact (Array.getElem?_eq_some_iff.1 h1).1
theorem Bx.keep {w w' : World} {g n c : Nat} {l : List Rc} (h : Bx w g n c l) (hk : w'.heap[g]? = w.heap[g]?) : Bx w' g n c l :=
  ⟨h.len, h.cap, h.big, by obtain ⟨cs, h1⟩ := h.blk; exact ⟨cs, hk.trans h1⟩, fun k x hx j u hu => (World.cell?_of_block (a := ⟨g, k * 4 + j, none⟩) hk).trans (h.at' k x hx j u hu)⟩
theorem Bx.of_own {w : World} {B : Nat} {v : Value} {l : List Rc} (h : w.ownsRow B 41 4 v l.length (l.flatMap rectV)) (hl : l ≠ []) : ∃ g c, v = .slice (some ⟨g, 0, none⟩) l.length c ∧ B ≤ g ∧ Bx w g l.length c l := by
  have h0 : 0 < l.length := List.length_pos_iff.2 hl
  have hc := h
  rcases h.2 with ⟨_, h2⟩ | ⟨g, cap, cur, h1, h2, h3, h4, h5, _⟩
  · omega
  · refine ⟨g, cap, h1, h2, rfl, h4, h5, ⟨cur, h3⟩, fun k x hx j u hu => ?_⟩
    have h6 := hc.cells (g := g) (by rw [h1]; rfl) (k * 4 + j) u (flat_get rectV 4 (fun _ => rfl) l k x hx j u hu)
    have hadd : (⟨g, 0, none⟩ : Addr).add (k * 4 + j) = ⟨g, k * 4 + j, none⟩ := by unfold Addr.add; split <;> simp_all
    rwa [hadd] at h6
end Go.Proofs.YtmdgjmmkegkonaaDoor
