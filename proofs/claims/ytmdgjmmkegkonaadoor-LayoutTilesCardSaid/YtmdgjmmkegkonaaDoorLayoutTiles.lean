/- Panes and borders tile the window: LayoutTiles answers true for any size and any steps, and the input reads as it did. No condition. A tied card: the one listed variable is errors.errorType. -/
import Derived.Test.YtmdgjmmkegkonaaDoorRows
import Derived.Test.YtmdgjmmkegkonaaDoorCards
import Derived.Test.YtmdgjmmkegkonaaDoorTie
import Derived.Test.YtmdgjmmkegkonaaDoorDoorY
import Derived.Test.YtmdgjmmkegkonaaDoorFrameL
import Derived.SevenTiedAt
import Derived.Test.YtmdgjmmkegkonaaDoorOpsY
import Derived.Test.YtmdgjmmkegkonaaDoorTilL
namespace Go.Proofs.YtmdgjmmkegkonaaDoor.layoutTiles
open Go.ChangeShapes Go.WideShapes Go.ChangeAt Go.RowKit FrameL
set_option linter.unusedVariables false

theorem laidOut : laidOutB Tryd.prog = true := by kernel_rfl

set_option maxRecDepth 100000 in
theorem lifted (os : Os) (started : os.Started) (H : Type) (enc : TypeId × Value → H) :
    ReturnsInHanded {} Tryd.checked os 6 .any (fun w args => (Rows.layoutTilesSpec.pre enc Tryd.prog Tryd.f6 [] false w args ∧ laidMetH Tryd.prog laidE w) ∧ sizedMet enc Tryd.prog Tryd.f6 (OpenSpec.ofChange Rows.layoutTilesSpec) false w args)
      (Rows.layoutTilesSpec.post enc Tryd.prog Tryd.f6 false true false false) := by
  refine returnsInHanded_of_change_and (C := Tryd.checked) (X := fun w _ => laidMetH Tryd.prog laidE w) (fun _ _ _ hh h => h.of_heap hh) own started (by kernel_rfl) Tryd.func6
    (ChangeSpec.witness_at (enc := enc) (C := Tryd.checked) (os := os) (X := fun w _ => laidMetH Tryd.prog laidE w) false (laidWorld os) #[.agg #[.int .i64 0, .int .i64 0], .slice none 0 0] 8 rfl (by kernel_rfl) (by kernel_rfl) (by kernel_rfl) (by kernel_rfl) (by kernel_rfl) (laidWorld_met os _)) ?_
  intro W base args ds gs before hval0 hW hcnd _ hL _
  have hg : ErrT W := handle_of_laid hL
  have hval : ∀ (j : Nat) t v, Tryd.f6.params[j]? = some t → args[j]? = some v → Value.okWide Tryd.prog W .any base t v := hval0
  have hW' := hW
  obtain ⟨p, q, hA0, hV, rfl, hfz, hnd⟩ := hW
  have hA : DataW.TrodAll enc Tryd.prog W 0 (fun _ => true) true Tryd.f6.params.toList args.toList ds p := hA0
  rw [Tryd.params6] at hA hval
  obtain ⟨v0, vs0, d0, ds0, p0, q0, hargs, rfl, rfl, h0, r0⟩ := trodAll_cons hA
  obtain ⟨v1, vs1, d1, ds1, p1, q1, rfl, rfl, rfl, h1, r1⟩ := trodAll_cons r0
  obtain ⟨rfl, rfl, rfl⟩ := trodAll_nil r1
  obtain rfl : args = #[v0, v1] := by cases args; simp_all
  obtain ⟨rfl, rfl⟩ := trodVars_none hV
  have k0 := h0
  have lt0 : ∀ x ∈ p0, x.block < W.heap.size := by obtain ⟨m, hm⟩ := k0; exact DataW.trod_lt m _ _ _ hm
  obtain ⟨x0, rfl, w0⟩ := op_arr Tryd.underlying22 Tryd.underlying3 (by kernel_rfl) (by kernel_rfl) (hval 0 22 v0 rfl rfl) h0
  have k1 := h1
  have lt1 : ∀ x ∈ p1, x.block < W.heap.size := by obtain ⟨m, hm⟩ := k1; exact DataW.trod_lt m _ _ _ hm
  obtain ⟨a1, n1, c1, rfl, w1, x1⟩ := op_Ops (hval 1 23 v1 rfl rfl) h1
  clear hA0 hval0
  have walk : Calls Tryd.prog 6 #[.agg (x0.map (Value.int .i64)).toArray, .slice a1 n1 c1] W fun e W' => e = .returned (.bool true) ∧ Below W.heap.size W W' := by
    obtain ⟨a, b, rfl⟩ := two_of w0.1
    exact layoutTiles_walk a b a1 n1 c1 W x1 w1 hg
  refine walk.mono fun e W' ⟨he, bel⟩ => ?_
  subst he
  exact ⟨_, rfl, _, _, _, [], _, [], hW', trodAll_mk1 (shut_bool Tryd.underlying4 _), (trodAll_cons_mk (Below.trod laidOut (by kernel_rfl) (of_decide_eq_true (by kernel_rfl)) k0 bel lt0) (trodAll_cons_mk (Below.trod laidOut (by kernel_rfl) (of_decide_eq_true (by kernel_rfl)) k1 bel lt1) trodAll_mk0)), rfl, bel.frame _, fun h => by cases h⟩

theorem over : Rows.layoutTilesRow.holds Tryd.pinned (OpenSpec.ofChange Rows.layoutTilesSpec) :=
  OpenClaim.holds_of_wide 6 Tryd.f6 rfl rfl rfl rfl rfl rfl rfl ⟨rfl, rfl, rfl, rfl, rfl⟩ rfl rfl rfl rfl rfl (by kernel_rfl) Tryd.func6 (by kernel_rfl)
    (of_decide_eq_true (by kernel_rfl)) (by unfold Func.isWrapper; first | (rw [if_pos (by decide +kernel)]; kernel_rfl) | (rw [if_neg (by decide +kernel)]; exact ⟨rfl, rfl⟩))
    (fun os started H enc _ => lifted os started H enc)

/-- The statement: the card. -/
theorem proved : Rows.LayoutTilesCardSaid :=
  Claim7.holds_tied_plain_at .later [] [.handle] true (true, "580be9b29e7837a3e9a53578258783dd8b2897152f36b5d7cd0c3ffffc7962fd") true
    over (fun _ h => by cases h) (by kernel_rfl) (fun _ h => by cases h) layoutTiles_row_tie rfl ⟨rfl, rfl⟩ (by kernel_rfl) rfl
    (fun f fn hf hfn => by
      obtain rfl : f = 6 := Option.some.inj ((show Tryd.prog.funcNamed "lyceum/lyceumlaw12.LayoutTiles" = some 6 by kernel_rfl).symm.trans hf) |>.symm
      obtain rfl : fn = Tryd.f6 := (Option.some.inj (Tryd.func6.symm.trans hfn)).symm
      exact ⟨by kernel_rfl, fun j t ht => by
        rw [Tryd.params6] at ht
        have hm : t ∈ #[22, 23] := Array.mem_of_getElem? ht
        have hall : #[22, 23].all (fun t => Tryd.prog.wantsStandIn t == false) = true := by kernel_rfl
        have := Array.all_eq_true_iff_forall_mem.1 hall t hm
        exact eq_of_beq this⟩)
    (by kernel_rfl)
#print axioms proved
end Go.Proofs.YtmdgjmmkegkonaaDoor.layoutTiles
