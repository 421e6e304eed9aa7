/- append from a source that may be nil, as an operation of a drawn region: one law for go_region_law, go_region_held3. -/
import Derived.Test.YtpjafocgabhieaaSrcL
import Derived.Deep.AppendLies
import Derived.Deep.RegionLaw
namespace Go.Proofs.Ytpjafocgabhieaa
open Go.RowKit
variable {P : Program} {w : World} {o : Oper}
theorem step_append_src {ops : Array Oper} {a : Act} {K : Act → World → Prop} {Q : Exit → Act → World → Prop} {E : Prop} (hgd : o.guard = none) (s x : Operand) (t : TypeId)
    (ho : o.op = .call { callee := .builtin .append, args := #[s, x], argTypes := #[t, t] })
    (base : Nat) (e : TypeId) (i : TypeInfo) (z : Value) (size bytes : Nat) (ht : P.underlying t = some (.slice e)) (hi : P.info? e = some i) (hz : i.zero = some z)
    (hsize : i.size = size) (hby : i.bytes = bytes) (hzs : z.cells.size = size) (hsz : 0 < size)
    (v : Value) (n : Nat) (xs : List Value) (hs : a.eval s = v) (hown : w.ownsRow base e size v n xs)
    (A : Option Addr) (m c : Nat) (news : List Value) (hx : a.eval x = .slice A m c) (hl : news.length = m * size) (hsrc : Src w A news) (hnil : A = none → m = 0 ∧ c = 0) (h1 : ∀ u ∈ news, u.oneCell' = true)
    (h63 : n + m ≤ maxLen) (hbytes : (n + m) * bytes ≤ 140737488355328) (hbase : base ≤ w.heap.size)
    (h : ∀ v' w', w'.ownsRow base e size v' (n + m) (xs ++ news) → w.grownBy w' v.ownBlock → K (a.put o.dst v') w') :
    if Region.wanted o (yielded ops a.tmps) = true then Oper.wp P o a w K Q else E := by
  have hw : Region.wanted o (yielded ops a.tmps) = true := by simp [Region.wanted, hgd]
  rw [if_pos hw]
  rcases A with _ | ad
  · obtain ⟨rfl, rfl⟩ := hnil rfl
    have hn : news = [] := List.eq_nil_of_length_eq_zero (by simpa using hl)
    subst hn
    have hrun := run_append_owned_none (P := P) (w := w) base t o.type e i size ht hi v n xs hown
    unfold Oper.wp
    simp [execOp, ho, resolve, invoke, builtin, hs, hx, hrun, Result.andThen]
    exact h v w (by simpa using hown) (World.grownBy.refl w _)
  · refine wp_append_own w s x t ho base e i z size bytes ht hi hz hsize hby hzs hsz v n xs hs hown ad m c news hx hl (fun j u hu => ?_) h1 h63 hbytes hbase fun v' w' h2 h3 _ => h v' w' h2 h3
    have h0 : 0 < news.length := by
      rcases Nat.eq_zero_or_pos news.length with h0 | h0
      · rw [List.eq_nil_of_length_eq_zero h0] at hu; cases hu
      · exact h0
    obtain ⟨ad', he, hc⟩ := hsrc h0
    injection he with he
    subst he
    exact hc j u hu
/-- A new, empty block is a row of the call's own. -/
theorem own_blank {base g : Nat} {e : TypeId} (size : Nat) (h : w.heap[g]? = some (.cells #[] e (0, 0))) (hb : base ≤ g) : w.ownsRow base e size (.slice (some ⟨g, 0, none⟩) 0 0) 0 [] := ⟨by simp, .inr ⟨g, 0, #[], rfl, hb, h, Nat.le_refl _, Nat.zero_le _, by simp, by simp⟩⟩
theorem Src.grown {w' : World} {row : Option Nat} {g : Nat} {us : List Value} (h : Src w (some ⟨g, 0, none⟩) us) (hg : w.grownBy w' row) (hr : some g ≠ row) : Src w' (some ⟨g, 0, none⟩) us := fun h0 => by
  obtain ⟨ad, e, hc⟩ := h h0
  injection e with e
  subst e
  refine ⟨_, rfl, fun j u hu => ?_⟩
  have h1 := hc j u hu
  have hlt := World.block_lt_of_cell? w _ h1
  rw [World.cell?_of_block (w := w) (w' := w') (hg.block _ hlt (by
    have hb : ((⟨g, 0, none⟩ : Addr).add j).block = g := block_add _ _
    rw [hb]
    exact hr))]
  exact h1
end Go.Proofs.Ytpjafocgabhieaa
