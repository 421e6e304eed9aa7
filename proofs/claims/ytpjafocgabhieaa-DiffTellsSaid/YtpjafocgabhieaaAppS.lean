/- '[]byte(s)', and a string's bytes appended to what it made (whose block bears a mark behind its end): laws for the walk (for DiffTells). -/
import Derived.Test.YtpjafocgabhieaaBlkL
import Derived.Lib.ConvBytes
import Derived.Lib.AppendStr
import Derived.Laws.IdiomCopy
import Derived.Deep.Upon
namespace Go.Proofs.Ytpjafocgabhieaa
open Go.RowKit Go.Lib
/-- v is a row of bytes of the call's own, none of whose cells is frozen; it holds L. -/
structure RowB (w : World) (base : Nat) (e : TypeId) (g cap : Nat) (L : List UInt8) : Prop where
  base : base ≤ g
  le : L.length ≤ cap
  cm : cap ≤ maxLen
  lt : g < w.heap.size
  there : ∀ j, j < cap → (w.cell? ⟨g, j, none⟩).isSome = true
  free : ∀ j, j < cap → w.frozen? ⟨g, j, none⟩ = false
  at_ : ∀ j b, L[j]? = some b → w.cell? ⟨g, j, none⟩ = some (bv b)
section
variable {w w' : World} {base g cap : Nat} {e : TypeId} {L : List UInt8}
theorem RowB.below (h : RowB w base e g cap L) (hb : Below w.heap.size w w') : RowB w' base e g cap L :=
  ⟨h.base, h.le, h.cm, Nat.lt_of_lt_of_le h.lt hb.size, fun j hj => by rw [World.cell?_of_block (hb.block g h.lt)]; exact h.there j hj, fun j hj => by rw [World.frozen?_of_block (hb.block g h.lt)]; exact h.free j hj, fun j b hj => by rw [World.cell?_of_block (hb.block g h.lt)]; exact h.at_ j b hj⟩
theorem strCells_at (s : List UInt8) (j : Nat) (hj : j < s.length) : (strCells ⟨s.toArray⟩)[j]? = some (bv s[j]) := by
  simp [strCells, hj, bv]
theorem size_setCells (w : World) (g : Nat) : ∀ (vs : List Value) (o : Nat), (w.setCells g o vs).heap.size = w.heap.size := by
  intro vs
  induction vs generalizing w with
  | nil => intro o; rfl
  | cons v r ih =>
    intro o
    rw [World.setCells, ih]
    simp [World.setCell]
theorem tape_setCells (w : World) (g : Nat) : ∀ (vs : List Value) (o : Nat), (w.setCells g o vs).tape = w.tape := by
  intro vs
  induction vs generalizing w with
  | nil => intro o; rfl
  | cons v r ih =>
    intro o
    rw [World.setCells, ih]
    rfl
theorem run_append_rowB {P : Program} (t u ty : TypeId) (i : TypeInfo) (ht : P.underlying t = some (.slice e)) (hu : P.underlying u = some .string) (hi : P.info? e = some i) (hz : i.zero = some (.int .u8 0)) (hsize : i.size = 1) (hby : i.bytes = 1)
    (h : RowB w base e g cap L) (s : List UInt8) (hm : L.length + s.length ≤ 100000000000000) (hbase : base ≤ w.heap.size) :
    ∃ g' cap' w', (Builtin.append_ #[t, u] ty #[.slice (some ⟨g, 0, none⟩) L.length cap, .string ⟨s.toArray⟩]).run P w = .ok (.slice (some ⟨g', 0, none⟩) (L ++ s).length cap') w' ∧ RowB w' base e g' cap' (L ++ s) ∧ w.grownBy w' (some g) := by
  have hss : (⟨s.toArray⟩ : ByteArray).size = s.length := by simp [ByteArray.size]
  have hsl : (strCells ⟨s.toArray⟩).length = s.length := by rw [strCells_length, hss]
  have hcm := h.cm
  by_cases hroom : L.length + s.length ≤ cap
  · have hf := run_firstCells_string (P := P) w 1 ⟨s.toArray⟩
    have hst := run_storeCells_cells (P := P) g L.length (strCells ⟨s.toArray⟩) 0 w (fun j hj => h.there _ (by rw [hsl] at hj; omega)) (fun j hj => h.free _ (by rw [hsl] at hj; omega)) (strCells_oneCell _)
    rw [Nat.add_zero] at hst
    refine ⟨g, cap, w.setCells g L.length (strCells ⟨s.toArray⟩), ?_, ⟨h.base, by rw [List.length_append]; exact hroom, h.cm, by rw [size_setCells]; exact h.lt, fun j hj => ?_, fun j hj => by rw [World.frozen?_setCells]; exact h.free j hj, fun j b hj => ?_⟩, ⟨World.os_setCells _ _ _ _, tape_setCells _ _ _ _, World.output_setCells _ _ _ _, Nat.le_of_eq (size_setCells _ _ _ _).symm, fun k hk hne => World.heap_setCells_other _ _ _ _ hk (fun e => hne (by rw [e]))⟩⟩
    · rw [hss] at hf
      simp [Builtin.append_, run_underlying ht, run_underlying hu, sizeOf, typeInfo, hi, hsize, Builtin.lenOf, hss, hroom, hf, Addr.add_lit, hst]
    · rcases Nat.lt_or_ge j L.length with h1 | h1
      · rw [World.cell?_setCells_out g _ _ _ _ (fun _ _ => .inl h1)]
        exact h.there j hj
      · rcases Nat.lt_or_ge j (L.length + s.length) with h2 | h2
        · have := World.cell?_setCells_in g (strCells ⟨s.toArray⟩) L.length w (fun j hj => h.there _ (by rw [hsl] at hj; omega)) (j - L.length) (by rw [hsl]; omega)
          rw [show L.length + (j - L.length) = j by omega] at this
          rw [this]
          rfl
        · rw [World.cell?_setCells_out g _ _ _ _ (fun _ _ => .inr (by rw [hsl]; exact h2))]
          exact h.there j hj
    · rcases Nat.lt_or_ge j L.length with h1 | h1
      · rw [World.cell?_setCells_out g _ _ _ _ (fun _ _ => .inl h1)]
        rw [List.getElem?_append_left h1] at hj
        exact h.at_ j b hj
      · rw [List.getElem?_append_right h1] at hj
        have h2 := (List.getElem?_eq_some_iff.1 hj).1
        have := World.cell?_setCells_in g (strCells ⟨s.toArray⟩) L.length w (fun j hj => h.there _ (by rw [hsl] at hj; omega)) (j - L.length) (by rw [hsl]; exact h2)
        rw [show L.length + (j - L.length) = j by omega] at this
        rw [this]
        have h3 := strCells_at s (j - L.length) h2
        rw [List.getElem?_eq_getElem (by rw [hsl]; exact h2)] at h3
        rw [h3]
        rw [List.getElem?_eq_getElem h2] at hj
        injection hj with hj
        rw [hj]
  · have holds : ∀ j v, (L.map bv)[j]? = some v → w.cell? ((⟨g, 0, none⟩ : Addr).add j) = some v := fun j v hj => by
      rw [List.getElem?_map] at hj
      obtain ⟨b, hb, rfl⟩ := Option.map_eq_some_iff.1 hj
      rw [show ((⟨g, 0, none⟩ : Addr).add j) = ⟨g, j, none⟩ from by unfold Addr.add; split <;> simp_all]
      exact h.at_ j b hb
    have hge := grownCap_ge w (L.length + s.length) cap e
    have hcm2 : grownCap w (L.length + s.length) cap e ≤ maxLen := grownCap_le_maxLen w (L.length + s.length) cap e (by unfold maxLen; omega)
    have hr := run_append_grow_string (P := P) w t u ty e i (.int .u8 0) ht hu hi hz ⟨g, 0, none⟩ L.length cap (L.map bv) (by rw [hsize]; simp) holds ⟨s.toArray⟩ (by rw [hss]; omega) (by rw [hss]; unfold maxLen at hcm; omega) (by rw [hby, hss]; exact growslice_fits (by omega) (by omega))
    rw [hss] at hr
    refine ⟨w.heap.size, _, w.drew.alloc _, by rw [List.length_append]; exact hr, ?_, ⟨rfl, rfl, rfl, by simp, fun k hk _ => Below.heap_alloc w.drew _ k hk⟩⟩
    generalize grownCap w (L.length + s.length) cap e = c at hge hcm2 ⊢
    have hz1 : (Value.int IntKind.u8 0).cells.size = 1 := rfl
    have hnew : (w.drew.alloc (.cells ((L.map bv).toArray ++ (strCells ⟨s.toArray⟩).toArray ++ Builtin.zeroCells (Value.int IntKind.u8 0).cells (c - (L.length + s.length))) e)).heap[w.heap.size]? = some (.cells ((L.map bv).toArray ++ (strCells ⟨s.toArray⟩).toArray ++ Builtin.zeroCells (Value.int IntKind.u8 0).cells (c - (L.length + s.length))) e (0, 0)) := heap_alloc_new w.drew _
    have hcs : ((L.map bv).toArray ++ (strCells ⟨s.toArray⟩).toArray ++ Builtin.zeroCells (Value.int IntKind.u8 0).cells (c - (L.length + s.length))).size = c := by
      simp only [Array.size_append, List.size_toArray, size_zeroCells, hz1, List.length_map, hsl]
      omega
    have hat : ∀ j b, (L ++ s)[j]? = some b → ((L.map bv).toArray ++ (strCells ⟨s.toArray⟩).toArray ++ Builtin.zeroCells (Value.int IntKind.u8 0).cells (c - (L.length + s.length)))[j]? = some (bv b) := fun j b hj => by
      have h1 := (List.getElem?_eq_some_iff.1 hj).1
      rw [List.length_append] at h1
      rw [Array.getElem?_append_left (by simp [hsl]; omega)]
      rcases Nat.lt_or_ge j L.length with h2 | h2
      · rw [Array.getElem?_append_left (by simpa using h2)]
        rw [List.getElem?_append_left h2] at hj
        simp [hj]
      · rw [Array.getElem?_append_right (by simpa using h2)]
        rw [List.getElem?_append_right h2] at hj
        have h3 := (List.getElem?_eq_some_iff.1 hj).1
        have h4 := strCells_at s (j - L.length) h3
        rw [List.getElem?_eq_getElem h3] at hj
        injection hj with hj
        rw [hj] at h4
        simpa using h4
    generalize ((L.map bv).toArray ++ (strCells ⟨s.toArray⟩).toArray ++ Builtin.zeroCells (Value.int IntKind.u8 0).cells (c - (L.length + s.length))) = C at hnew hcs hat ⊢
    refine ⟨hbase, by rw [List.length_append]; exact hge, hcm2, by simp, fun j hj => ?_, fun j hj => ?_, fun j b hj => ?_⟩
    · rw [cell_of_row _ _ _ _ _ _ hnew, Array.getElem?_eq_getElem (by omega)]
      rfl
    · exact Blk.free (t := e) (cs := C) hnew j
    · rw [cell_of_row _ _ _ _ _ _ hnew]
      exact hat j b hj
theorem wpList_append_rowB {P : Program} {ops : Array Oper} {rest : List Oper} {o : Oper} {a : Act} {Q : Exit → Act → World → Prop} (hgd : o.guard = none) (sl x : Operand) (t u : TypeId)
    (ho : o.op = .call { callee := .builtin .append, args := #[sl, x], argTypes := #[t, u] })
    (i : TypeInfo) (ht : P.underlying t = some (.slice e)) (hu : P.underlying u = some .string) (hi : P.info? e = some i) (hz : i.zero = some (.int .u8 0)) (hsize : i.size = 1) (hby : i.bytes = 1)
    (hs : a.eval sl = .slice (some ⟨g, 0, none⟩) L.length cap) (h : RowB w base e g cap L) (s : List UInt8) (hx : a.eval x = .string ⟨s.toArray⟩) (hm : L.length + s.length ≤ 100000000000000) (hbase : base ≤ w.heap.size)
    (hn : ∀ g' cap' w', RowB w' base e g' cap' (L ++ s) → w.grownBy w' (some g) → wpList P ops Q rest (a.put o.dst (.slice (some ⟨g', 0, none⟩) (L ++ s).length cap')) w') : wpList P ops Q (o :: rest) a w := by
  refine wpList_plain hgd fun K hK => ?_
  obtain ⟨g', cap', w', hr, h2, h3⟩ := run_append_rowB (P := P) t u o.type i ht hu hi hz hsize hby h s hm hbase
  unfold Oper.wp execOp
  simp only [ho, resolve, invoke, builtin, Sem.run_bind, Sem.run_pure, Result.andThen_ok, List.map_toArray, List.map_cons, List.map_nil, hs, hx, hr]
  exact hK _ _ (hn g' cap' w' h2 h3)
/-- What '[]byte(s)' makes. -/
theorem rowB_new (w : World) (e : TypeId) (s : List UInt8) (hl : s.length ≤ 100000000000000) : RowB (bytesWorld w e ⟨s.toArray⟩) w.heap.size e w.heap.size (grownCap w s.length 0 e) s ∧ Below w.heap.size w (bytesWorld w e ⟨s.toArray⟩) := by
  have hss : (⟨s.toArray⟩ : ByteArray).size = s.length := by simp [ByteArray.size]
  have hge := grownCap_ge w s.length 0 e
  have hcm2 : grownCap w s.length 0 e ≤ maxLen := grownCap_le_maxLen w s.length 0 e (by unfold maxLen; omega)
  have hnew := bytesWorld_at_new w e ⟨s.toArray⟩
  have hcs : (bytesCells w e ⟨s.toArray⟩).size = grownCap w s.length 0 e := by
    simp only [bytesCells, Array.size_append, Array.size_map, Array.size_replicate, hss]
    simp
    omega
  refine ⟨⟨Nat.le_refl _, hge, hcm2, by rw [bytesWorld_size]; omega, fun j hj => ?_, fun j hj => ?_, fun j b hj => ?_⟩, ⟨by simp [bytesWorld, World.freeze, World.alloc, World.drew, -World.alloc_eq, -World.drew_eq], by simp [bytesWorld, World.freeze, World.alloc, World.drew, -World.alloc_eq, -World.drew_eq], by simp [bytesWorld, World.freeze, World.alloc, World.drew, -World.alloc_eq, -World.drew_eq], by rw [bytesWorld_size]; omega, fun k hk => bytesWorld_at_old w e _ k hk⟩⟩
  · rw [cell_of_row _ _ _ _ _ _ hnew, Array.getElem?_eq_getElem (by rw [hcs]; exact hj)]
    rfl
  · simp [World.frozen?, hnew]
    intro h
    rw [hcs] at h
    omega
  · have h1 := (List.getElem?_eq_some_iff.1 hj).1
    rw [bytesWorld_cell w e _ j (by rw [hss]; exact h1)]
    simp [bv, List.getD, hj]
theorem conv_rowB {P : Program} {src dst : TypeId} (hs : P.underlying src = some (.slice e)) (he : P.underlying e = some (.int .u8)) (hd : P.underlying dst = some .string) (h : RowB w base e g cap L) :
    (convert src dst (.slice (some ⟨g, 0, none⟩) L.length cap)).run P w = .ok (.string ⟨L.toArray⟩) w := by
  refine run_convert_bytes_back w src dst e _ cap L hs he hd fun j hj => ?_
  rw [show ((⟨g, 0, none⟩ : Addr).add j) = ⟨g, j, none⟩ from by unfold Addr.add; split <;> simp_all]
  exact h.at_ j _ (by simp [hj])
end
end Go.Proofs.Ytpjafocgabhieaa
