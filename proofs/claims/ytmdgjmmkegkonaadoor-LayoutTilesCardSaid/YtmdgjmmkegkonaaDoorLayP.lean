/- Layouts: plain trees with their places in memory, and how they lie there. -/
import Derived.Test.YtmdgjmmkegkonaaDoorBlkL
namespace Go.Proofs.YtmdgjmmkegkonaaDoor
open Go.RowKit
/-- A rectangle. -/
structure Rc where
  x : Int
  y : Int
  w : Int
  h : Int
abbrev Rc.v (r : Rc) : Array Value := #[.int .i64 r.x, .int .i64 r.y, .int .i64 r.w, .int .i64 r.h]
abbrev Rc.a (r : Rc) : Value := .agg r.v
/-- A tree: each pane and each split with its block. -/
inductive Tr where
  | pane (g : Nat) (id : Int) : Tr
  | split (g : Nat) (a : Bool) (p q : Int) (l r : Tr) : Tr
def Tr.g : Tr → Nat
  | .pane g _ => g
  | .split g _ _ _ _ _ => g
def Tr.bl : Tr → List Nat
  | .pane g _ => [g]
  | .split g _ _ _ l r => g :: (l.bl ++ r.bl)
theorem Tr.g_mem : ∀ t : Tr, t.g ∈ t.bl
  | .pane g _ => by simp [Tr.g, Tr.bl]
  | .split g _ _ _ l r => by simp [Tr.g, Tr.bl]
abbrev ptr (g : Nat) : Value := .pointer (some ⟨g, 0, none⟩)
abbrev paneC (id : Int) : Array Value := #[.int .i64 id, .bool false, .int .i64 0, .int .i64 0, .pointer none, .pointer none]
abbrev splitC (a : Bool) (p q : Int) (l r : Nat) : Array Value := #[.int .i64 0, .bool a, .int .i64 p, .int .i64 q, ptr l, ptr r]
/-- A tree as it lies in memory. -/
def TrAt (w : World) : Tr → Prop
  | .pane g id => Blk w g 59 (paneC id)
  | .split g a p q l r => Blk w g 59 (splitC a p q l.g r.g) ∧ TrAt w l ∧ TrAt w r
theorem TrAt.keep {w w' : World} : ∀ t : Tr, TrAt w t → (∀ b ∈ t.bl, w'.heap[b]? = w.heap[b]?) → TrAt w' t
  | .pane g id, h, hk => (hk g (by simp [Tr.bl])).trans h
  | .split g a p q l r, h, hk => ⟨(hk g (by simp [Tr.bl])).trans h.1, TrAt.keep l h.2.1 (fun b hb => hk b (by simp [Tr.bl, hb])), TrAt.keep r h.2.2 (fun b hb => hk b (by simp [Tr.bl, hb]))⟩
theorem TrAt.lt {w : World} : ∀ t : Tr, TrAt w t → ∀ b ∈ t.bl, b < w.heap.size
  | .pane g id, h, b, hb => by
    obtain rfl : b = g := by simpa [Tr.bl] using hb
    exact Blk.lt h
  | .split g a p q l r, h, b, hb => by
    simp only [Tr.bl, List.mem_cons, List.mem_append] at hb
    rcases hb with rfl | hb | hb
    · exact h.1.lt
    · exact TrAt.lt l h.2.1 b hb
    · exact TrAt.lt r h.2.2 b hb
theorem TrAt.below {w w' : World} {B : Nat} {t : Tr} (h : TrAt w t) (hb : Below B w w') (hB : ∀ b ∈ t.bl, b < B) : TrAt w' t := TrAt.keep t h (fun b hb' => hb.block b (hB b hb'))
theorem TrAt.later {w w' : World} {t : Tr} (h : TrAt w t) (hb : Below w.heap.size w w') : TrAt w' t := h.below hb (h.lt t)
/-- How long a rectangle is, that way. -/
def lenR (r : Rc) (a : Bool) : Int := if a then r.w else r.h
/-- How much the first tree has. -/
def shr (n p q : Int) : Int := min (max ((n - 1) * p / q) 1) (n - 2)
def cut1 (a : Bool) (k : Int) (r : Rc) : Rc := if a then { r with w := k } else { r with h := k }
def cutM (a : Bool) (k : Int) (r : Rc) : Rc := if a then { r with x := r.x + k, w := 1 } else { r with y := r.y + k, h := 1 }
def cut2 (a : Bool) (k : Int) (r : Rc) : Rc := if a then { r with x := r.x + k + 1, w := r.w - k - 1 } else { r with y := r.y + k + 1, h := r.h - k - 1 }
/-- A rectangle that may be. -/
structure RcOk (r : Rc) : Prop where
  x0 : 0 ≤ r.x
  x1 : r.x + r.w ≤ 200
  y0 : 0 ≤ r.y
  y1 : r.y + r.h ≤ 200
  w1 : 1 ≤ r.w
  h1 : 1 ≤ r.h
/-- The numbers of all splits may be. -/
def Nums : Tr → Prop
  | .pane _ id => 1 ≤ id ∧ id ≤ 1000
  | .split _ _ p q l r => 1 ≤ p ∧ p < q ∧ q ≤ 200 ∧ Nums l ∧ Nums r
/-- Does a tree fit? -/
def fitsP : Tr → Rc → Bool
  | .pane _ _, _ => true
  | .split _ a p q l r, rc => if lenR rc a < 3 then false else fitsP l (cut1 a (shr (lenR rc a) p q) rc) && fitsP r (cut2 a (shr (lenR rc a) p q) rc)
theorem shr_bd {n p q : Int} (hn : 3 ≤ n) : 1 ≤ shr n p q ∧ shr n p q ≤ n - 2 := by unfold shr; omega
theorem lenR_bd {r : Rc} (h : RcOk r) (a : Bool) : 1 ≤ lenR r a ∧ lenR r a ≤ 200 := by
  obtain ⟨h1, h2, h3, h4, h5, h6⟩ := h
  cases a <;> simp [lenR] <;> omega
theorem cut1_ok {r : Rc} (h : RcOk r) (a : Bool) {k : Int} (h1 : 1 ≤ k) (h2 : k ≤ lenR r a - 2) : RcOk (cut1 a k r) := by
  obtain ⟨e1, e2, e3, e4, e5, e6⟩ := h
  cases a <;> simp [lenR] at h2 <;> exact ⟨by simp [cut1]; omega, by simp [cut1]; omega, by simp [cut1]; omega, by simp [cut1]; omega, by simp [cut1]; omega, by simp [cut1]; omega⟩
theorem cut2_ok {r : Rc} (h : RcOk r) (a : Bool) {k : Int} (h1 : 1 ≤ k) (h2 : k ≤ lenR r a - 2) : RcOk (cut2 a k r) := by
  obtain ⟨e1, e2, e3, e4, e5, e6⟩ := h
  cases a <;> simp [lenR] at h2 <;> exact ⟨by simp [cut2]; omega, by simp [cut2]; omega, by simp [cut2]; omega, by simp [cut2]; omega, by simp [cut2]; omega, by simp [cut2]; omega⟩
theorem cutM_ok {r : Rc} (h : RcOk r) (a : Bool) {k : Int} (h1 : 1 ≤ k) (h2 : k ≤ lenR r a - 2) : RcOk (cutM a k r) := by
  obtain ⟨e1, e2, e3, e4, e5, e6⟩ := h
  cases a <;> simp [lenR] at h2 <;> refine ⟨?_, ?_, ?_, ?_, ?_, ?_⟩ <;> simp [cutM] <;> omega
end Go.Proofs.YtmdgjmmkegkonaaDoor
