/- 'm[k]++' upon a map that the call made: the entry, then its store. -/
import Derived.Test.YtfficdloekfpcaaMapL
import Derived.MapKept
namespace Go.Proofs.Ytfficdloekfpcaa
open Go.RowKit Go.Maps
open Go.ChangeMaps (setBlock heap_setBlock_same heap_setBlock_other)
theorem modify_congr {α : Type} {es : Array α} {j : Nat} {f g : α → α} (h : ∀ e, es[j]? = some e → f e = g e) : es.modify j f = es.modify j g := by
  apply Array.ext
  · simp
  · intro i h1 h2
    simp only [Array.getElem_modify]
    split
    · rename_i hij
      subst hij
      exact h _ (Array.getElem?_eq_getElem (by simpa using h1))
    · rfl
theorem nodup_idx {α β : Type} {l : List α} {f : α → β} (h : (l.map f).Nodup) {i j : Nat} {x y : α} (hi : l[i]? = some x) (hj : l[j]? = some y) (he : f x = f y) : i = j := by
  have h1 : (l.map f)[i]? = some (f x) := by simp [hi]
  have h2 : (l.map f)[j]? = some (f x) := by simp [hj, he]
  have hl : i < (l.map f).length := (List.getElem?_eq_some_iff.1 h1).1
  exact (List.getElem?_inj hl h).1 (h1.trans h2.symm)
theorem setF_self (f : Int → Int → Int) (a c : Int) : setF f a c (f a c) = f := by
  funext a' c'
  unfold setF
  split
  · rename_i h; rw [h.1, h.2]
  · rfl
variable {w : World} {b n : Nat} {f : Int → Int → Int}
/-- 'm[k] += ..': the entry, then its store. -/
theorem MapAt.entry (h : MapAt w b n f) (hn : n < maxLen) {a c : Int} (ha : Fit1 a) (hc : Fit1 c) (hv : Fit1 (f a c)) :
    ∃ (w1 : World) (s : Nat), (Instr.mapEntry 42 (.map (some b)) (pairV a c)).run Try.prog w = .ok (.tuple #[.int .i64 (f a c), goInt s]) w1 ∧ MapAt w1 b (n + 1) f ∧ w.grownBy w1 (some b) ∧
      ∃ (es : Array MapEntry) (clock j : Nat) (e0 : MapEntry), w1.heap[b]? = some (.map es clock) ∧ es[j]? = some e0 ∧ e0.key = pairV a c ∧ e0.born = s := by
  have hkey := klOf_eq w ha hc
  have hlook := h.look ha hc
  obtain ⟨w1, hup, hM, hg⟩ := h.put hn ha hc hv
  rw [setF_self] at hM
  obtain ⟨D, _, ⟨es, clock, hb, F, _, _⟩, _⟩ := h
  rcases keyed.find w hkey es.toList (fun e he => by obtain ⟨y, hy⟩ := F.reads e he; exact ⟨_, WideElems.rd_key hy⟩) with ⟨h1, h2⟩ | ⟨j, e0, h1, h2, h3⟩
  · simp [Instr.lookup, run_underlying Try.underlying42, MapKept.run_getObj_map hb, keyed.check w _ hkey, h1, Result.andThen] at hlook
    simp [Instr.mapUpdate, run_underlying Try.underlying42, MapKept.run_getObj_map hb, keyed.check w false hkey, h1, MapKept.run_setObj_map _ hb, Result.andThen] at hup
    have hrun : (Instr.mapEntry 42 (.map (some b)) (pairV a c)).run Try.prog w = .ok (.tuple #[.int .i64 (f a c), goInt clock]) w1 := by
      simp [Instr.mapEntry, run_underlying Try.underlying42, MapKept.run_getObj_map hb, keyed.check w false hkey, h1, MapKept.run_setObj_map _ hb, Result.andThen]
      have e : (0 : Int) = f a c := hlook
      exact ⟨hlook, by rw [← hup, ← e]⟩
    subst hup
    refine ⟨_, clock, hrun, hM, hg, _, _, es.size, _, heap_setBlock_same hb _, Array.getElem?_push_size, rfl, rfl⟩
  · have hj : es[j]? = some e0 := by simpa using h2
    simp [Instr.lookup, run_underlying Try.underlying42, MapKept.run_getObj_map hb, keyed.check w _ hkey, h1, Result.andThen] at hlook
    simp [Instr.mapUpdate, run_underlying Try.underlying42, MapKept.run_getObj_map hb, keyed.check w false hkey, h1, hj, h3, keyed.stays w hkey, MapKept.run_setObj_map _ hb, Result.andThen] at hup
    have hrun : (Instr.mapEntry 42 (.map (some b)) (pairV a c)).run Try.prog w = .ok (.tuple #[.int .i64 (f a c), goInt e0.born]) w1 := by
      simp [Instr.mapEntry, run_underlying Try.underlying42, MapKept.run_getObj_map hb, keyed.check w false hkey, h1, hj, h3, keyed.stays w hkey, MapKept.run_setObj_map _ hb, Result.andThen]
      have hm : (es.modify j fun e => ({ key := pairV a c, val := e.val, born := e.born } : MapEntry)) = es.modify j fun e => { key := pairV a c, val := .int .i64 (f a c), born := e.born } := modify_congr fun e he => by
        rw [hj] at he
        cases he
        rw [hlook]
      exact ⟨hlook, by rw [hm]; exact hup⟩
    subst hup
    refine ⟨_, e0.born, hrun, hM, hg, _, _, j, ⟨pairV a c, .int .i64 (f a c), e0.born⟩, heap_setBlock_same hb _, ?_, rfl, rfl⟩
    rw [Array.getElem?_modify, if_pos rfl, hj]
    rfl
theorem MapAt.store (h : MapAt w b n f) (hn : n < maxLen) {a c v : Int} (ha : Fit1 a) (hc : Fit1 c) (hv : Fit1 v) {es : Array MapEntry} {clock j s : Nat} {e0 : MapEntry} (hb : w.heap[b]? = some (.map es clock)) (hj : es[j]? = some e0) (hk : e0.key = pairV a c) (hs : e0.born = s) :
    ∃ w2, (Instr.entryStore 42 (.map (some b)) (goInt s) (.int .i64 v)).run Try.prog w = .ok () w2 ∧ MapAt w2 b (n + 1) (setF f a c v) ∧ w.grownBy w2 (some b) := by
  have hkey := klOf_eq w ha hc
  obtain ⟨w1, hup, hM, hg⟩ := h.put hn ha hc hv
  obtain ⟨D, _, ⟨es', clock', hb', F, _, _⟩, _⟩ := h
  rw [hb] at hb'
  cases hb'
  obtain ⟨_, hnb, hnk⟩ := F.stamped
  have hjl : es.toList[j]? = some e0 := by simpa using hj
  have hlt : j < es.size := (Array.getElem?_eq_some_iff.1 hj).1
  have hej : es[j] = e0 := (Array.getElem?_eq_some_iff.1 hj).2
  have hidx : es.findIdx? (fun e => (e.born : Int) == (s : Int)) = some j := by
    rw [Array.findIdx?_eq_some_iff_getElem]
    refine ⟨hlt, by rw [hej, hs]; exact beq_self_eq_true _, fun i hi => ?_⟩
    intro he
    have he' : (es[i]'(by omega)).born = e0.born := by
      have := eq_of_beq he
      omega
    have hil : es.toList[i]? = some (es[i]'(by omega)) := by simp [show i < es.size by omega]
    have := nodup_idx hnb hil hjl he'
    omega
  rcases keyed.find w hkey es.toList (fun e he => by obtain ⟨y, hy⟩ := F.reads e he; exact ⟨_, WideElems.rd_key hy⟩) with ⟨h1, h2⟩ | ⟨j', e1, h1, h2, h3⟩
  · exact absurd hk (h2 e0 (List.mem_of_getElem? hjl))
  · have hjj : j' = j := nodup_idx (f := MapEntry.key) hnk h2 hjl (h3.trans hk.symm)
    subst hjj
    have he1 : e1 = e0 := Option.some.inj (h2.symm.trans hjl)
    subst he1
    simp [Instr.mapUpdate, run_underlying Try.underlying42, MapKept.run_getObj_map hb, keyed.check w false hkey, h1, hj, h3, keyed.stays w hkey, MapKept.run_setObj_map _ hb, Result.andThen] at hup
    have hm : (es.modify j' fun e => ({ key := e.key, val := .int .i64 v, born := e.born } : MapEntry)) = es.modify j' fun e => { key := pairV a c, val := .int .i64 v, born := e.born } := modify_congr fun e he => by
      rw [hj] at he
      cases he
      rw [h3]
    refine ⟨w1, ?_, hM, hg⟩
    simp [Instr.entryStore, MapKept.run_getObj_map hb, goInt, asInt, asIntOf, hidx, MapKept.run_setObj_map _ hb, Result.andThen]
    rw [hm]
    exact hup
end Go.Proofs.Ytfficdloekfpcaa
