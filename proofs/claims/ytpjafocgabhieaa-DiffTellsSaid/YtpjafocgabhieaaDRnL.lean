/- What a round over the new pieces keeps; diff.runs (for DiffTells). -/
import Derived.Test.YtpjafocgabhieaaDifD
import Derived.Test.YtpjafocgabhieaaMrkW
import Derived.Test.YtpjafocgabhieaaGrdY
import Derived.Test.YtpjafocgabhieaaAlkW
import Derived.Scope
import Derived.Deep.RegionHeld3
namespace Go.Proofs.Ytpjafocgabhieaa
open Go.RowKit Go.Shelf
attribute [local go_sem] Oper.semAt_some
/-- What a round keeps: all cells but those of X, and those of type t at or beyond base. -/
def KpX (X : Nat → Prop) (base : Nat) (t : TypeId) (W W' : World) : Prop := W.heap.size ≤ W'.heap.size ∧ ∀ (k : Nat) (o : Obj), W.heap[k]? = some o → ¬ X k → o.isCells = true → (k < base ∨ ∀ cs fr, o ≠ .cells cs t fr) → W'.heap[k]? = some o
theorem KpX.trans {X : Nat → Prop} {base : Nat} {t : TypeId} {A B C : World} (h : KpX X base t A B) (k : KpX X base t B C) : KpX X base t A C := ⟨Nat.le_trans h.1 k.1, fun i o ho hX hc ht => k.2 i o (h.2 i o ho hX hc ht) hX hc ht⟩
theorem KpX.putObj {X : Nat → Prop} {base : Nat} {t : TypeId} {n : Nat} : ∀ (W : World) (l : Nat) (o o' : Obj), n ≤ l → W.heap[l]? = some o → o.isCells = false → o.isWalk = false → KpX X base t W (W.putObj l o') :=
  fun W l o _ _ ho hc _ => ⟨by simp, fun k x hx _ hxc _ => (World.putObj_heap_other (fun e => by
    subst e
    rw [ho] at hx
    cases hx
    rw [hc] at hxc
    cases hxc)).trans hx⟩
theorem KpX.of_below {X : Nat → Prop} {base : Nat} {t : TypeId} {W W' : World} (hb : Below W.heap.size W W') : KpX X base t W W' := ⟨hb.size, fun k _ ho _ _ _ => (hb.block k (Array.getElem?_eq_some_iff.1 ho).1).trans ho⟩
theorem KpX.blk {X : Nat → Prop} {base : Nat} {t t' : TypeId} {W W' : World} {b : Nat} {cs : Array Value} (k : KpX X base t W W') (hX : ¬ X b) (ht : t' ≠ t) (h : Blk W b t' cs) : Blk W' b t' cs :=
  k.2 b _ h hX rfl (.inr (fun cs' fr e => by injection e with _ e; exact ht e))
theorem KpX.rowIs {X : Nat → Prop} {base : Nat} {t t' : TypeId} {W W' : World} {b n : Nat} {f : Nat → Value} (k : KpX X base t W W') (hX : ¬ X b) (ht : t' ≠ t) (h : W.rowIs b t' n f) : W'.rowIs b t' n f := by
  obtain ⟨c, hb, hn, hc⟩ := h
  exact ⟨c, k.2 b _ hb hX rfl (.inr (fun cs' fr e => by injection e with _ e; exact ht e)), hn, hc⟩
theorem KpX.cell {X : Nat → Prop} {base : Nat} {t : TypeId} {W W' : World} {p : Addr} {v : Value} (k : KpX X base t W W') (hX : ¬ X p.block) (hp : p.block < base) (h : W.cell? p = some v) : W'.cell? p = some v := by
  obtain ⟨o, ho, hc⟩ := cells_of_cell h
  rw [World.cell?_of_block (w := W) (w' := W') ((k.2 _ _ ho hX hc (.inl hp)).trans ho.symm)]
  exact h
theorem KpX.cels {X : Nat → Prop} {base : Nat} {t : TypeId} {W W' : World} {ad : Addr} {l : List Cl} (k : KpX X base t W W') (hX : ¬ X ad.block) (hp : ad.block < base) (h : Cels W ad l) : Cels W' ad l := fun i c hc => by
  obtain ⟨⟨c0, c1, c2, c3⟩, ok⟩ := h i c hc
  have hb' : (ad.add (i * 4)).block = ad.block := block_add _ _
  have h1 : ¬ X (ad.add (i * 4)).block := by rw [hb']; exact hX
  have h2 : (ad.add (i * 4)).block < base := by rw [hb']; exact hp
  exact ⟨⟨k.cell h1 h2 c0, k.cell h1 h2 c1, k.cell h1 h2 c2, k.cell h1 h2 c3⟩, ok⟩
theorem wpIn_scope {n : Nat} {P : Program} {c : Code} {Q : Exit → Act → World → Prop} {a : Act} {w : World} (h : c.wpIn Fence.wide n P (Exit.noGoto Q) a w) : (Code.scope c).wpIn Fence.wide n P Q a w := wpIn_wide.2 (wp_scope_straight (wpIn_wide.1 h))
set_option maxRecDepth 100000 in
theorem druns_any (xa ya xb yb : Int) (A B : Option Addr) (na ca nb cb : Nat) (w : World) : Calls Try.prog 35 #[grv xa ya A na ca, grv xb yb B nb cb] w fun r w' => r = .returned (.func (.func 55) #[] #[.pointer (some ⟨w.heap.size + 1, 0, none⟩), .pointer (some ⟨w.heap.size, 0, none⟩)]) ∧
    w' = (w.alloc (.cells #[.int .i64 xa, .int .i64 ya, .slice A na ca] 32)).alloc (.cells #[.int .i64 xb, .int .i64 yb, .slice B nb cb] 32) := by
  go_enter Try.func35, Try.ntmps35
  go_wp2_with fail
  go_ret
  exact ⟨rfl, rfl⟩
/-- What the iterator over the new pieces reads. -/
structure DR (w : World) (Ba Bb wn hn n ca cb : Nat) (aa ab : Addr) (la lb : List Cl) : Prop where
  a : Blk w Ba 32 #[.int .i64 (wn : Int), .int .i64 (hn : Int), .slice (some aa) n ca]
  b : Blk w Bb 32 #[.int .i64 (wn : Int), .int .i64 (hn : Int), .slice (some ab) n cb]
  la : Cels w aa la
  lb : Cels w ab lb
theorem DR.below {w w' : World} {Ba Bb wn hn n ca cb : Nat} {aa ab : Addr} {la lb : List Cl} (h : DR w Ba Bb wn hn n ca cb aa ab la lb) (hb : Below w.heap.size w w') : DR w' Ba Bb wn hn n ca cb aa ab la lb := ⟨h.a.below hb h.a.lt, h.b.below hb h.b.lt, h.la.below hb, h.lb.below hb⟩
theorem DR.kp {w w' : World} {X : Nat → Prop} {base : Nat} {t : TypeId} {Ba Bb wn hn n ca cb : Nat} {aa ab : Addr} {la lb : List Cl} (h : DR w Ba Bb wn hn n ca cb aa ab la lb) (k : KpX X base t w w') (ha : ¬ X Ba) (hb : ¬ X Bb) (ht : 32 ≠ t) (h1 : ¬ X aa.block) (h2 : ¬ X ab.block) (h3 : aa.block < base) (h4 : ab.block < base) : DR w' Ba Bb wn hn n ca cb aa ab la lb :=
  ⟨k.blk ha ht h.a, k.blk hb ht h.b, k.cels h1 h3 h.la, k.cels h2 h4 h.lb⟩
abbrev encD {L : List (Nat × Nat × Nat)} (p : Sub L) : Array Value := #[.agg #[.int .i64 (p.1.1 : Nat), .int .i64 (p.1.2.1 : Nat), .int .i64 (p.1.2.2 : Nat)]]
theorem RowS.some_ad {w : World} {A : Option Addr} {n c : Nat} {l : List Cl} (h : RowS w A n c l) (hn : 1 ≤ n) : ∃ ad, A = some ad := by
  cases A with
  | some ad => exact ⟨ad, rfl⟩
  | none =>
    have := (h.nil' rfl).1
    omega
end Go.Proofs.Ytpjafocgabhieaa
