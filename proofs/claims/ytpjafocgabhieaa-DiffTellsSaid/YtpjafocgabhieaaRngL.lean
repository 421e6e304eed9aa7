/- Ranges over functions: what a round keeps; lists whose members bear the word that they are one (for DiffTells). -/
import Derived.RangeFuncNested
import Derived.RangeFuncBound
import Derived.RangeFuncCalls
import Derived.RangeFuncLeaves
import Derived.Shelf.Abstract
import Derived.Shelf.RegionOpen
import Derived.WalkKit
import Derived.OwnWalkIn
import Derived.TacticsInMore
import Derived.LoopNIn
import Derived.LoopIn
import Derived.Test.YtpjafocgabhieaaCelL
namespace Go.Proofs.Ytpjafocgabhieaa
open Go.RowKit Go.Shelf
theorem grown_none' {w w' : World} (hb : Below w.heap.size w w') : w.grownBy w' none := ⟨hb.os, hb.tape, hb.output, hb.size, fun k hk _ => hb.block k hk⟩
/-- What a round keeps: the blocks of S. -/
def KpS (S : Nat → Prop) (W W' : World) : Prop := W.heap.size ≤ W'.heap.size ∧ ∀ b, S b → ∀ o, W.heap[b]? = some o → W'.heap[b]? = some o
theorem KpS.refl (S : Nat → Prop) (W : World) : KpS S W W := ⟨Nat.le_refl _, fun _ _ _ h => h⟩
theorem KpS.trans {S : Nat → Prop} {X Y Z : World} (h : KpS S X Y) (k : KpS S Y Z) : KpS S X Z := ⟨Nat.le_trans h.1 k.1, fun b hb o ho => k.2 b hb o (h.2 b hb o ho)⟩
theorem KpS.putObj {S : Nat → Prop} {n : Nat} (h1 : ∀ b, S b → b < n) : ∀ (W : World) (l : Nat) (o o' : Obj), n ≤ l → W.heap[l]? = some o → o.isCells = false → o.isWalk = false → KpS S W (W.putObj l o') :=
  fun W l _ _ hl _ _ _ => ⟨by simp, fun b hb x hx => (World.putObj_heap_other (fun e => by have := h1 b hb; omega)).trans hx⟩
theorem KpS.of_below {S : Nat → Prop} {B : Nat} {W W' : World} (hb : Below B W W') (hS : ∀ b, S b → b < B) : KpS S W W' := ⟨hb.size, fun b h _ ho => (hb.block b (hS b h)).trans ho⟩
theorem KpS.blk {S : Nat → Prop} {W W' : World} {b : Nat} {t : TypeId} {cs : Array Value} (k : KpS S W W') (hb : S b) (h : Blk W b t cs) : Blk W' b t cs := k.2 b hb _ h
theorem KpS.cell {S : Nat → Prop} {W W' : World} {p : Addr} {v : Value} (k : KpS S W W') (hb : S p.block) (h : W.cell? p = some v) : W'.cell? p = some v := by
  have hlt := World.block_lt_of_cell? W p h
  have h2 := k.2 _ hb _ (Array.getElem?_eq_getElem hlt)
  rw [World.cell?_of_block (w := W) (w' := W') (h2.trans (Array.getElem?_eq_getElem hlt).symm)]
  exact h
theorem KpS.cels {S : Nat → Prop} {W W' : World} {ad : Addr} {l : List Cl} (k : KpS S W W') (hb : S ad.block) (h : Cels W ad l) : Cels W' ad l := fun i c hc => by
  obtain ⟨⟨c0, c1, c2, c3⟩, ok⟩ := h i c hc
  have hb' : S (ad.add (i * 4)).block := by
    rw [block_add]
    exact hb
  exact ⟨⟨k.cell hb' c0, k.cell hb' c1, k.cell hb' c2, k.cell hb' c3⟩, ok⟩
theorem KpS.rowC {S : Nat → Prop} {W W' : World} {A : Option Addr} {l : List Cl} (k : KpS S W W') (hb : ∀ ad, A = some ad → S ad.block) (h : RowC W A l) : RowC W' A l := fun h0 => by
  obtain ⟨ad, e, hc⟩ := h h0
  exact ⟨ad, e, k.cels (hb ad e) hc⟩
/-- A block of cells abides what is no cells. -/
theorem blk_own {β : Type} (B b : Nat) (t : TypeId) (f : β → Array Value) : OwnFrom B (fun (s : β) W => Blk W b t (f s)) := fun s X Y row hs hg hr => hs.grown hg (fun e => by
  obtain ⟨_, o, ho, hc⟩ := hr b e.symm
  unfold Blk at hs
  rw [hs] at ho
  cases ho
  cases hc)
theorem size_own {β : Type} (B k : Nat) : OwnFrom B (fun (_ : β) W => k ≤ W.heap.size) := fun _ _ _ _ hs hg _ => Nat.le_trans hs hg.size
theorem Blk.putObj {W : World} {b D : Nat} {t : TypeId} {cs : Array Value} (h : Blk W b t cs) (o : Obj) (hne : b ≠ D) : Blk (W.putObj D o) b t cs := (World.putObj_heap_other hne).trans h
/-- Members of a list. -/
abbrev Sub {T : Type} (L : List T) := { x : T // x ∈ L }
abbrev allS {T : Type} (L : List T) : List (Sub L) := L.attach
abbrev vals {T : Type} {L : List T} (pre : List (Sub L)) : List T := pre.map (·.1)
theorem vals_all {T : Type} (L : List T) : vals (allS L) = L := by simp [vals, allS]
theorem all_len {T : Type} (L : List T) : (allS L).length = L.length := by simp [allS]
theorem all_at {T : Type} {L : List T} {k : Nat} {x : T} (h : L[k]? = some x) : ∃ s : Sub L, s.1 = x ∧ (allS L)[k]? = some s ∧ (allS L).take (k + 1) = (allS L).take k ++ [s] := by
  have hk : k < (allS L).length := by
    rw [all_len]
    exact (List.getElem?_eq_some_iff.1 h).1
  refine ⟨(allS L)[k], ?_, List.getElem?_eq_getElem hk, List.take_succ_eq_append_getElem hk⟩
  have h1 : (vals (allS L))[k]? = some x := by rw [vals_all, h]
  simp only [vals, List.getElem?_map, List.getElem?_eq_getElem hk, Option.map_some, Option.some.injEq] at h1
  exact h1
theorem take_len {T : Type} {L : List T} {k : Nat} {x : T} (h : L[k]? = some x) : ((allS L).take k).length = k := by
  rw [List.length_take, all_len]
  have := (List.getElem?_eq_some_iff.1 h).1
  omega
theorem take_prefix {T : Type} (L : List T) (k : Nat) : (allS L).take k <+: allS L := List.take_prefix _ _
end Go.Proofs.Ytpjafocgabhieaa
