/- Bytes, differences and counts of grids are told as the document tells them: DiffTells answers true for any grid by numbers, any other one, and any grid as it stands (cut to 60 cells), and the input reads as it did. No condition. -/
import Derived.Test.YtpjafocgabhieaaRows
import Derived.Test.YtpjafocgabhieaaFrameL
import Derived.Test.YtpjafocgabhieaaMgF
namespace Go.Proofs.Ytpjafocgabhieaa.diffTells
open Go.ChangeShapes Go.WideShapes Go.ChangeAt Go.RowKit FrameL
set_option linter.unusedVariables false

theorem own : ownKnob Try.prog.godebug = none := by kernel_rfl
theorem laidOut : laidOutB Try.prog = true := by kernel_rfl

set_option maxRecDepth 100000 in
theorem lifted (os : Os) (started : os.Started) (H : Type) (enc : TypeId × Value → H) :
    ReturnsInHanded {} Try.checked os 3 .any (Rows.diffTellsSpec.pre6 enc Try.prog Try.f3 Rows.diffTellsRow.domain false) (Rows.diffTellsSpec.post enc Try.prog Try.f3 false true false false) := by
  refine returnsInHanded_of_change (C := Try.checked) own started (by kernel_rfl) Try.func3
    (ChangeSpec.witness6 (enc := enc) (C := Try.checked) false ⟨#[], #[wit_Num, wit_Other, wit_Grid], []⟩ 8 (by kernel_rfl) (by kernel_rfl) (by kernel_rfl) (by kernel_rfl)) ?_
  intro W base args ds gs before hval0 hW hcnd _
  have hval : ∀ (j : Nat) t v, Try.f3.params[j]? = some t → args[j]? = some v → Value.okWide Try.prog W .any base t v := hval0
  have hW' := hW
  obtain ⟨p, q, hA0, hV, rfl, hfz, hnd⟩ := hW
  have hA : DataW.TrodAll enc Try.prog W 0 (fun _ => true) true Try.f3.params.toList args.toList ds p := hA0
  rw [Try.params3] at hA hval
  obtain ⟨v0, vs0, d0, ds0, p0, q0, hargs, rfl, rfl, h0, r0⟩ := trodAll_cons hA
  obtain ⟨v1, vs1, d1, ds1, p1, q1, rfl, rfl, rfl, h1, r1⟩ := trodAll_cons r0
  obtain ⟨v2, vs2, d2, ds2, p2, q2, rfl, rfl, rfl, h2, r2⟩ := trodAll_cons r1
  obtain ⟨rfl, rfl, rfl⟩ := trodAll_nil r2
  obtain rfl : args = #[v0, v1, v2] := by cases args; simp_all
  obtain ⟨rfl, rfl⟩ := trodVars_none hV
  have k0 := h0
  have lt0 : ∀ x ∈ p0, x.block < W.heap.size := by obtain ⟨m, hm⟩ := k0; exact DataW.trod_lt m _ _ _ hm
  obtain ⟨mW, mH, mA, mn, mc, mxs, rfl, w0⟩ := op_Num (hval 0 24 v0 rfl rfl) h0
  have k1 := h1
  have lt1 : ∀ x ∈ p1, x.block < W.heap.size := by obtain ⟨m, hm⟩ := k1; exact DataW.trod_lt m _ _ _ hm
  obtain ⟨oW, oH, oA, on, oc, oxs, oa0, oa1, oa2, oa3, oa4, oa5, oA0, on0, oc0, ox0, oA1, on1, oc1, ox1, oA2, on2, oc2, ox2, oall, rfl, w1⟩ := op_Other (hval 1 29 v1 rfl rfl) h1
  have k2 := h2
  have lt2 : ∀ x ∈ p2, x.block < W.heap.size := by obtain ⟨m, hm⟩ := k2; exact DataW.trod_lt m _ _ _ hm
  obtain ⟨gW, gH, gA, gn, gc, gl, rfl, w2⟩ := op_Grid (hval 2 32 v2 rfl rfl) h2
  clear hA0 hval0
  have walk : Calls Try.prog 3 #[numv mW mH mA mn mc, .agg (othA oW oH oA on oc oa0 oa1 oa2 oa3 oa4 oa5 oA0 on0 oc0 oA1 on1 oc1 oA2 on2 oc2 oall), grv gW gH gA gn gc] W fun e W' => e = .returned (.bool true) ∧ Below W.heap.size W W' := by
    exact diffTells_walk mW mH mA mn mc mxs oW oH oA on oc oxs oa0 oa1 oa2 oa3 oa4 oa5 oA0 on0 oc0 ox0 oA1 on1 oc1 ox1 oA2 on2 oc2 ox2 oall gW gH gA gn gc gl W ⟨w0.1.1, w0.2⟩ ⟨w1.1.1.1, w1.1.2⟩ w1.2.1 w1.2.2.1 w1.2.2.2 w2
  refine walk.mono fun e W' ⟨he, bel⟩ => ?_
  subst he
  exact ⟨_, rfl, _, _, _, [], _, [], hW', trodAll_mk1 (shut_bool Try.underlying4 _), (trodAll_cons_mk (Below.trod laidOut (by kernel_rfl) (of_decide_eq_true (by kernel_rfl)) k0 bel lt0) (trodAll_cons_mk (Below.trod laidOut (by kernel_rfl) (of_decide_eq_true (by kernel_rfl)) k1 bel lt1) (trodAll_cons_mk (Below.trod laidOut (by kernel_rfl) (of_decide_eq_true (by kernel_rfl)) k2 bel lt2) trodAll_mk0))), rfl, bel.frame _, fun h => by cases h⟩

theorem over : Rows.diffTellsRow.holds Try.pinned (OpenSpec.ofChange Rows.diffTellsSpec) :=
  OpenClaim.holds_of_wide 3 Try.f3 rfl rfl rfl rfl rfl rfl rfl ⟨rfl, rfl, rfl, rfl, rfl⟩ rfl rfl rfl rfl rfl (by kernel_rfl) Try.func3 (by kernel_rfl)
    (of_decide_eq_true (by kernel_rfl)) (by unfold Func.isWrapper; first | (rw [if_pos (by decide +kernel)]; kernel_rfl) | (rw [if_neg (by decide +kernel)]; exact ⟨rfl, rfl⟩))
    (fun os started H enc _ => lifted os started H enc)

/-- The statement. -/
theorem proved : Rows.DiffTellsSaid := over
#print axioms proved
end Go.Proofs.Ytpjafocgabhieaa.diffTells
