/- append onto a row of the call's own, from a source that may be nil: one law for the walk. -/
import Derived.Test.YtpjafocgabhieaaBytesL
import Derived.Laws.AppendOwnNone
namespace Go.Proofs.Ytpjafocgabhieaa
open Go.RowKit

/-- The slice at A has the cells news. -/
def Src (w : World) (A : Option Addr) (news : List Value) : Prop := 0 < news.length → ∃ ad, A = some ad ∧ ∀ j u, news[j]? = some u → w.cell? (ad.add j) = some u

theorem Src.below {w w' : World} {A : Option Addr} {news : List Value} (h : Src w A news) (hb : Below w.heap.size w w') : Src w' A news := fun h0 => by
  obtain ⟨ad, e, hc⟩ := h h0
  exact ⟨ad, e, fun j u hu => (hb.cell (World.block_lt_of_cell? w _ (hc j u hu))).trans (hc j u hu)⟩
theorem Src.alloc {w : World} {A : Option Addr} {news : List Value} (h : Src w A news) (o : Obj) : Src (w.alloc o) A news := h.below ((Below.refl _ _).alloc (Nat.le_refl _) o)
theorem Src.of_ints {w : World} {A : Option Addr} {xs : List Int} (h : Ints w A xs) : Src w A (xs.map (Value.int .i64)) := fun h0 => by
  obtain ⟨ad, e, hc⟩ := h (by simpa using h0)
  refine ⟨ad, e, fun j u hu => ?_⟩
  have hj : j < xs.length := by
    rcases Nat.lt_or_ge j xs.length with hj | hj
    · exact hj
    · rw [List.getElem?_eq_none (by simpa using hj)] at hu; cases hu
  rw [hc j hj]
  simp [hj] at hu
  simp [List.getD, hj, hu]
theorem Src.of_own {w : World} {base : Nat} {e : TypeId} {size n c : Nat} {A : Option Addr} {xs : List Value} (h : w.ownsRow base e size (.slice A n c) n xs) : Src w A xs := fun h0 => by
  rcases h.2 with ⟨_, hn⟩ | ⟨g, cap, cur, hv, _⟩
  · have := h.1
    subst hn
    simp at this
    subst this
    simp at h0
  · injection hv with hA
    subst hA
    exact ⟨_, rfl, h.cells (g := g) rfl⟩

theorem Src.ints {w : World} {A : Option Addr} {xs : List Int} (h : Src w A (xs.map (Value.int .i64))) : Ints w A xs := fun h0 => by
  obtain ⟨ad, e, hc⟩ := h (by simpa using h0)
  refine ⟨ad, e, fun k hk => hc k _ ?_⟩
  simp [List.getD, hk]
theorem own_form {w : World} {base : Nat} {e : TypeId} {size n : Nat} {v : Value} {xs : List Value} (h : w.ownsRow base e size v n xs) : ∃ A c, v = .slice A n c := by
  rcases h.2 with ⟨rfl, rfl⟩ | ⟨g, cap, cur, rfl, _⟩
  · exact ⟨none, 0, rfl⟩
  · exact ⟨_, _, rfl⟩
theorem ints_oneCell' (xs : List Int) (k : IntKind) : ∀ u ∈ xs.map (Value.int k), u.oneCell' = true := by
  intro u hu
  obtain ⟨x, _, rfl⟩ := List.mem_map.1 hu
  rfl

section
variable {P : Program} {w : World} {ops : Array Oper} {rest : List Oper} {o : Oper} {a : Act} {Q : Exit → Act → World → Prop}
theorem wpList_append_src (hgd : o.guard = none) (s x : Operand) (t : TypeId)
    (ho : o.op = .call { callee := .builtin .append, args := #[s, x], argTypes := #[t, t] })
    (base : Nat) (e : TypeId) (i : TypeInfo) (z : Value) (size bytes : Nat) (ht : P.underlying t = some (.slice e)) (hi : P.info? e = some i) (hz : i.zero = some z)
    (hsize : i.size = size) (hby : i.bytes = bytes) (hzs : z.cells.size = size) (hsz : 0 < size)
    (v : Value) (n : Nat) (xs : List Value) (hs : a.eval s = v) (hown : w.ownsRow base e size v n xs)
    (A : Option Addr) (m c : Nat) (news : List Value) (hx : a.eval x = .slice A m c) (hl : news.length = m * size) (hsrc : Src w A news) (hnil : A = none → m = 0 ∧ c = 0) (h1 : ∀ u ∈ news, u.oneCell' = true)
    (h63 : n + m ≤ maxLen) (hbytes : (n + m) * bytes ≤ 140737488355328) (hbase : base ≤ w.heap.size)
    (h : ∀ v' w', w'.ownsRow base e size v' (n + m) (xs ++ news) → w.grownBy w' v.ownBlock → wpList P ops Q rest (a.put o.dst v') w') : wpList P ops Q (o :: rest) a w := by
  rcases A with _ | ad
  · obtain ⟨rfl, rfl⟩ := hnil rfl
    have hn : news = [] := List.eq_nil_of_length_eq_zero (by simpa using hl)
    subst hn
    exact wpList_append_own_none hgd s x t ho base e i size ht hi v n xs hs hown hx (h v w (by simpa using hown) (World.grownBy.refl w _))
  · refine wpList_append_own w hgd s x t ho base e i z size bytes ht hi hz hsize hby hzs hsz v n xs hs hown ad m c news hx hl (fun j u hu => ?_) h1 h63 hbytes hbase fun v' w' h2 h3 _ => h v' w' h2 h3
    have h0 : 0 < news.length := by
      rcases Nat.eq_zero_or_pos news.length with h0 | h0
      · rw [List.eq_nil_of_length_eq_zero h0] at hu; cases hu
      · exact h0
    obtain ⟨ad', he, hc⟩ := hsrc h0
    injection he with he
    subst he
    exact hc j u hu
end
end Go.Proofs.Ytpjafocgabhieaa
