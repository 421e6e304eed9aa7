/- (*network.Network).Send, walked: there is room, and there is none. (Types and functions by this seat's numbers.) -/
import Derived.Test.YtfficdloekfpcaaNetW
import Derived.Deep.AppendLies
import Derived.Deep.RegionLaw
import Derived.Deep.DrawnRows
import Derived.OneCell
namespace Go.Proofs.Ytfficdloekfpcaa
open Go.RowKit Go.Maps
attribute [local go_sem ↓] Go.wp_at_zero Go.wp_at_succ
def pkCells (ps : List (Int × Int × ByteArray)) : List Value := ps.flatMap fun p => [.int .i64 p.1, .int .i64 p.2.1, .string p.2.2]
/-- Block m holds the numbers between, block m + 1 the network. -/
def NetAt (w : World) (m nn : Nat) (room : Int) (ps : List (Int × Int × ByteArray)) (lost : Int) (f : Int → Int → Int) : Prop :=
  ∃ A c, Blk w (m + 1) 45 (netCells room A ps.length c m lost) ∧ MapAt w m nn f ∧ w.ownsRow (m + 2) 27 3 (.slice A ps.length c) ps.length (pkCells ps)
theorem blk4n {w : World} {g t : Nat} {x0 x1 x2 x3 : Value} (h : Blk w g t #[x0, x1, x2, x3]) :
    w.cell? ⟨g, 0, none⟩ = some x0 ∧ w.cell? ⟨g, 1, none⟩ = some x1 ∧ w.cell? ⟨g, 2, none⟩ = some x2 ∧ w.cell? ⟨g, 3, none⟩ = some x3 := ⟨h.cell 0, h.cell 1, h.cell 2, h.cell 3⟩
set_option maxRecDepth 100000 in
set_option maxHeartbeats 1000000 in
theorem send_ok (m nn : Nat) (room : Int) (ps : List (Int × Int × ByteArray)) (lost : Int) (f : Int → Int → Int) (a c : Int) (s : ByteArray) (w : World) (h : NetAt w m nn room ps lost f) (hnn : nn + 10 < 1000000) (hps : ps.length < 1000000)
    (ha : 0 ≤ a ∧ a < 16) (hc : 0 ≤ c ∧ c < 16) (hac : a ≠ c) (hs : s.size ≤ 4100) (hf : f a c < room) (hf0 : 0 ≤ f a c ∧ f a c < 1000000) :
    Calls Try.prog 8 #[.pointer (some ⟨m + 1, 0, none⟩), .agg #[.int .i64 a, .int .i64 c, .string s]] w fun e w' => e = .returned (.bool true) ∧ NetAt w' m (nn + 2) room (ps ++ [(a, c, s)]) lost (setF f a c (f a c + 1)) ∧ Below m w w' := by
  obtain ⟨A, cp, hB, hM, hO⟩ := h
  have hmlt := hM.lt
  have hglt := hB.lt
  obtain ⟨b0, b1, b2, b3⟩ := blk4n hB
  have e1 : decide (0 ≤ a ∧ a < 16) = true := decide_eq_true ha
  have e2 : decide (0 ≤ c ∧ c < 16) = true := decide_eq_true hc
  have e3 : (a == c) = false := by simpa using hac
  have hb2' : (w.alloc (.cells #[.int .i64 a, .int .i64 c, .string s] 27)).cell? ⟨m + 1, 2, none⟩ = some (.map (some m)) := (World.cell?_alloc_lt _ _ ⟨m + 1, 2, none⟩ hglt).trans b2
  go_enter Try.func8, Try.ntmps8
  go_wp2_with fail
  refine (none_no (m + 1) m _ hb2').mono ?_
  rintro e w1 ⟨rfl, rfl⟩
  go_wp2_with fail
  refine (isNode_any a _).mono ?_
  rintro e w1 ⟨rfl, rfl⟩
  rw [e1]
  go_wp2_with fail
  refine (isNode_any c _).mono ?_
  rintro e w1 ⟨rfl, rfl⟩
  rw [e2]
  go_upto_region 4 with fail
  have hB4 := (hB.alloc (.cells #[.int .i64 a, .int .i64 c, .string s] 27)).alloc (.cells #[.int .i64 a, .int .i64 c] 46)
  have hM4 := (hM.alloc (.cells #[.int .i64 a, .int .i64 c, .string s] 27)).alloc (.cells #[.int .i64 a, .int .i64 c] 46)
  have hO4 := (hO.alloc (.cells #[.int .i64 a, .int .i64 c, .string s] 27)).alloc (.cells #[.int .i64 a, .int .i64 c] 46)
  have hP4 := (Blk.new w 27 #[.int .i64 a, .int .i64 c, .string s]).alloc (.cells #[.int .i64 a, .int .i64 c] 46)
  have hW4 := Blk.new (w.alloc (.cells #[.int .i64 a, .int .i64 c, .string s] 27)) 46 #[.int .i64 a, .int .i64 c]
  rw [World.size_alloc] at hW4
  have hb4 : Below w.heap.size w ((w.alloc (.cells #[.int .i64 a, .int .i64 c, .string s] 27)).alloc (.cells #[.int .i64 a, .int .i64 c] 46)) := ((Below.refl _ _).alloc (Nat.le_refl _) _).alloc (by simp) _
  generalize (w.alloc (.cells #[.int .i64 a, .int .i64 c, .string s] 27)).alloc (.cells #[.int .i64 a, .int .i64 c] 46) = w4 at hB4 hM4 hO4 hP4 hW4 hb4 ⊢
  have hlt4 := hW4.lt
  clear b0 b1 b2 b3 hb2' hB hM hO e1 e2 e3
  obtain ⟨b0, b1, b2, b3⟩ := blk4n hB4
  have y0 := hW4.cell 0
  have y1 := hW4.cell 1
  have hfa : Fit1 a := ⟨by omega, by omega⟩
  have hfc : Fit1 c := ⟨by omega, by omega⟩
  have hlook : ∀ n, (Instr.lookup 42 (.map (some m)) (.agg #[.int .i64 a, .int .i64 c]) false).run Try.prog (w4.drewN n) = .ok (.int .i64 (f a c)) (w4.drewN n) := fun n => MapAt.look (w := w4.drewN n) hM4 hfa hfc
  go_cut [48] from 6 to 74 (fun s48 wx => s48 = .bool false ∧ wx = w4.drew)
  case first =>
    go_region_held3 (fun w' => w'.cell? ⟨m + 1, 0, none⟩ = some (.int .i64 room) ∧ w'.cell? ⟨m + 1, 2, none⟩ = some (.map (some m)) ∧ w'.cell? ⟨w.heap.size + 1, 0, none⟩ = some (.int .i64 a) ∧ w'.cell? ⟨w.heap.size + 1, 1, none⟩ = some (.int .i64 c) ∧ w' = w4.drew ∧ (Instr.lookup 42 (.map (some m)) (.agg #[.int .i64 a, .int .i64 c]) false).run Try.prog w' = .ok (.int .i64 (f a c)) w') (exact ⟨b0, b2, y0, y1, rfl, hlook 1⟩) (fail)
    go_wp2_with fail
    go_meet
    exact ⟨congrArg Value.bool (decide_eq_false (by omega)), rfl⟩
  case rest =>
  obtain ⟨rfl, rfl⟩ := hcut
  clear hlook
  obtain ⟨w5, st, hrunE, hM5, hg5, es, clock, j, e0, he1, he2, he3, he4⟩ := (MapAt.drew hM4).drew.entry (by unfold maxLen; omega) hfa hfc ⟨by omega, by omega⟩
  obtain ⟨w6, hrunS, hM6, hg6⟩ := hM5.store (v := f a c + 1) (by unfold maxLen; omega) hfa hfc ⟨by omega, by omega⟩ he1 he2 he3 he4
  have hl4 : (Instr.lookup 42 (.map (some m)) (.agg #[.int .i64 a, .int .i64 c]) false).run Try.prog w4.drew.drew = .ok (.int .i64 (f a c)) w4.drew.drew := MapAt.look (w := w4.drew.drew) hM4 hfa hfc
  have hl5 : (Instr.lookup 42 (.map (some m)) (.agg #[.int .i64 a, .int .i64 c]) false).run Try.prog w5 = .ok (.int .i64 (f a c)) w5 := MapAt.look hM5 hfa hfc
  have hB5 : Blk w5 (m + 1) 45 _ := Blk.grown (w := w4.drew.drew) hB4 hg5 (by simp)
  have hW5 : Blk w5 (w.heap.size + 1) 46 _ := Blk.grown (w := w4.drew.drew) hW4 hg5 (by simp; omega)
  have hP5 : Blk w5 w.heap.size 27 _ := Blk.grown (w := w4.drew.drew) hP4 hg5 (by simp; omega)
  have hO5 : w5.ownsRow (m + 2) 27 3 (.slice A ps.length cp) ps.length (pkCells ps) := World.ownsRow.kept (w := w4.drew.drew) hO4 hg5 (.inr (fun e => by have := (hO4.lt _ e).1; omega))
  have hB6 := hB5.grown hg6 (by simp)
  have hW6 := hW5.grown hg6 (by simp; omega)
  have hP6 := hP5.grown hg6 (by simp; omega)
  have hO6 := hO5.kept hg6 (.inr (fun e => by have := (hO5.lt _ e).1; omega))
  have hsz5 : w4.heap.size ≤ w5.heap.size := hg5.size
  have hsz6 : w5.heap.size ≤ w6.heap.size := hg6.size
  have hsz4 := hb4.size
  have hb6 : Below m w w6 := ((hb4.mono (by omega)).drew.drew.grown hg5 (show m ≤ w4.heap.size by omega) (fun q hq => by injection hq with hq; omega)).grown hg6 (by omega) (fun q hq => by injection hq with hq; omega)
  have hsum : IntKind.i64.wrap (f a c + 1) = f a c + 1 := by rw [IntKind.wrap_i64]; omega
  have c4 := hB4.cell 2
  have c5 := hB5.cell 2
  have c6 := hB6.cell 2
  have x4 := hW4.cell 0
  have x5 := hW5.cell 0
  have x6 := hW6.cell 0
  have z4 := hW4.cell 1
  have z5 := hW5.cell 1
  have z6 := hW6.cell 1
  unfold pairV at hrunE
  unfold goInt at hrunE hrunS
  go_upto_region 7 with fail
  go_cut [] from 6 to 74 (fun wx => wx = w6)
  case first =>
    go_region_held3 (fun w' => w'.cell? ⟨m + 1, 2, none⟩ = some (.map (some m)) ∧ w'.cell? ⟨w.heap.size + 1, 0, none⟩ = some (.int .i64 a) ∧ w'.cell? ⟨w.heap.size + 1, 1, none⟩ = some (.int .i64 c)) (first | exact ⟨c4, x4, z4⟩ | exact ⟨c5, x5, z5⟩ | exact ⟨c6, x6, z6⟩) (fail)
    all_goals (go_wp2_with fail; go_meet; rfl)
  case rest =>
  obtain rfl := hcut
  clear c4 c5 c6 x4 x5 x6 z4 z5 z6 hrunE hrunS hl4 hl5 hB5 hW5 hP5 hO5 hM5 hg5 hg6 hB4 hM4 hO4 hP4 hW4 hb4 hsum he1 he2 he3 he4 hW6
  obtain ⟨i0, hi, hz0, hz1, hz2⟩ := info_parts (show (Try.prog.info? 27).map (fun i => (i.zero, i.size, i.bytes)) = some (some (.agg #[.int .i64 0, .int .i64 0, .string ByteArray.empty]), 3, 32) from by kernel_rfl)
  have c6 : wc.cell? ⟨m + 1, 1, none⟩ = some (.slice A ps.length cp) := hB6.cell 1
  have p0 : wc.cell? ⟨w.heap.size, 0, none⟩ = some (.int .i64 a) := hP6.cell 0
  have p1 : wc.cell? ⟨w.heap.size, 1, none⟩ = some (.int .i64 c) := hP6.cell 1
  have p2 : wc.cell? ⟨w.heap.size, 2, none⟩ = some (.string s) := hP6.cell 2
  have hf1 := hB6.free 1
  have hlt6 := hB6.lt
  have hne : some (m + 1) ≠ (Value.slice A ps.length cp).ownBlock := fun e => by have := (hO6.lt _ e.symm).1; omega
  have hpl6 := hP6.lt
  go_upto_region 8 with fail
  go_region_law (first
    | (refine step_append_lies _ (by rfl) _ _ _ (by rfl) (m + 2) 27 i0 _ 3 32 Try.underlying43 hi hz0 hz1 hz2 rfl (by omega) (.slice A ps.length cp) ps.length (pkCells ps) (by rfl) ((hO6.alloc (.cells #[.int .i64 a, .int .i64 c, .string s] 27)).drew)
        ⟨wc.heap.size, 0, none⟩ 1 1 [.int .i64 a, .int .i64 c, .string s] (by rfl) (by rfl) (World.news_of_block (cs := #[.int .i64 a, .int .i64 c, .string s]) (t := 27) (fr := (0, 0)) (heap_alloc_new wc _)) (by simp [Value.oneCell'])
        (by omega) (by unfold maxLen; omega) (by omega) (by simp; omega) (wc.heap.size + 1) (by simp) ?_; intro gg cap w8 hown8 hgrow hat hlt8; have hB8 := Blk.grown ((hB6.alloc (.cells #[.int .i64 a, .int .i64 c, .string s] 27)).drew) hgrow hne; have c8 : w8.cell? ⟨m + 1, 1, none⟩ = some (.slice A ps.length cp) := hB8.cell 1; have f8 := hB8.free 1))
  all_goals
    go_wp2_with fail
    go_ret
    have hpl : (ps ++ [(a, c, s)]).length = ps.length + 1 := by simp
    have hpc : pkCells (ps ++ [(a, c, s)]) = pkCells ps ++ [.int .i64 a, .int .i64 c, .string s] := by simp [pkCells]
    have hgg := (hown8.lt gg rfl).1
    refine ⟨rfl, ⟨some ⟨gg, 0, none⟩, cap, ?_, ?_, ?_⟩, ?_⟩
    · rw [hpl]
      exact hB8.set 1 _
    · exact (MapAt.kept (((hM6.alloc (.cells #[.int .i64 a, .int .i64 c, .string s] 27)).drew)) hgrow (fun e => by have := (hO6.lt _ e.symm).1; omega)).far (by simp) _
    · rw [hpl, hpc]
      exact ownsRow_setCell_other hown8 (fun e => by injection e with e; simp at e; omega) _
    · refine Below.setCell ?_ (by simp) _
      refine Below.grown ((hb6.alloc (by have := hb6.size; omega) (.cells #[.int .i64 a, .int .i64 c, .string s] 27)).drew) hgrow (by simp; omega) (fun q hq => by have := (hO6.lt _ hq).1; omega)
set_option maxRecDepth 100000 in
set_option maxHeartbeats 1000000 in
theorem send_full (m nn : Nat) (room : Int) (ps : List (Int × Int × ByteArray)) (lost : Int) (f : Int → Int → Int) (a c : Int) (s : ByteArray) (w : World) (h : NetAt w m nn room ps lost f)
    (ha : 0 ≤ a ∧ a < 16) (hc : 0 ≤ c ∧ c < 16) (hac : a ≠ c) (hs : s.size ≤ 4100) (hf : room ≤ f a c) (hl : 0 ≤ lost ∧ lost < 1000000) :
    Calls Try.prog 8 #[.pointer (some ⟨m + 1, 0, none⟩), .agg #[.int .i64 a, .int .i64 c, .string s]] w fun e w' => e = .returned (.bool false) ∧ NetAt w' m nn room ps (lost + 1) f ∧ Below m w w' := by
  obtain ⟨A, cp, hB, hM, hO⟩ := h
  have hmlt := hM.lt
  have hglt := hB.lt
  obtain ⟨b0, b1, b2, b3⟩ := blk4n hB
  have e1 : decide (0 ≤ a ∧ a < 16) = true := decide_eq_true ha
  have e2 : decide (0 ≤ c ∧ c < 16) = true := decide_eq_true hc
  have e3 : (a == c) = false := by simpa using hac
  have hb2' : (w.alloc (.cells #[.int .i64 a, .int .i64 c, .string s] 27)).cell? ⟨m + 1, 2, none⟩ = some (.map (some m)) := (World.cell?_alloc_lt _ _ ⟨m + 1, 2, none⟩ hglt).trans b2
  go_enter Try.func8, Try.ntmps8
  go_wp2_with fail
  refine (none_no (m + 1) m _ hb2').mono ?_
  rintro e w1 ⟨rfl, rfl⟩
  go_wp2_with fail
  refine (isNode_any a _).mono ?_
  rintro e w1 ⟨rfl, rfl⟩
  rw [e1]
  go_wp2_with fail
  refine (isNode_any c _).mono ?_
  rintro e w1 ⟨rfl, rfl⟩
  rw [e2]
  go_upto_region 4 with fail
  have hB4 := (hB.alloc (.cells #[.int .i64 a, .int .i64 c, .string s] 27)).alloc (.cells #[.int .i64 a, .int .i64 c] 46)
  have hM4 := (hM.alloc (.cells #[.int .i64 a, .int .i64 c, .string s] 27)).alloc (.cells #[.int .i64 a, .int .i64 c] 46)
  have hO4 := (hO.alloc (.cells #[.int .i64 a, .int .i64 c, .string s] 27)).alloc (.cells #[.int .i64 a, .int .i64 c] 46)
  have hP4 := (Blk.new w 27 #[.int .i64 a, .int .i64 c, .string s]).alloc (.cells #[.int .i64 a, .int .i64 c] 46)
  have hW4 := Blk.new (w.alloc (.cells #[.int .i64 a, .int .i64 c, .string s] 27)) 46 #[.int .i64 a, .int .i64 c]
  rw [World.size_alloc] at hW4
  have hb4 : Below w.heap.size w ((w.alloc (.cells #[.int .i64 a, .int .i64 c, .string s] 27)).alloc (.cells #[.int .i64 a, .int .i64 c] 46)) := ((Below.refl _ _).alloc (Nat.le_refl _) _).alloc (by simp) _
  generalize (w.alloc (.cells #[.int .i64 a, .int .i64 c, .string s] 27)).alloc (.cells #[.int .i64 a, .int .i64 c] 46) = w4 at hB4 hM4 hO4 hP4 hW4 hb4 ⊢
  have hlt4 := hW4.lt
  clear b0 b1 b2 b3 hb2' hB hM hO e1 e2 e3
  obtain ⟨b0, b1, b2, b3⟩ := blk4n hB4
  have y0 := hW4.cell 0
  have y1 := hW4.cell 1
  have hfa : Fit1 a := ⟨by omega, by omega⟩
  have hfc : Fit1 c := ⟨by omega, by omega⟩
  have hlook : ∀ n, (Instr.lookup 42 (.map (some m)) (.agg #[.int .i64 a, .int .i64 c]) false).run Try.prog (w4.drewN n) = .ok (.int .i64 (f a c)) (w4.drewN n) := fun n => MapAt.look (w := w4.drewN n) hM4 hfa hfc
  go_cut [48] from 6 to 74 (fun s48 wx => s48 = .bool true ∧ wx = w4.drew)
  case first =>
    go_region_held3 (fun w' => w'.cell? ⟨m + 1, 0, none⟩ = some (.int .i64 room) ∧ w'.cell? ⟨m + 1, 2, none⟩ = some (.map (some m)) ∧ w'.cell? ⟨w.heap.size + 1, 0, none⟩ = some (.int .i64 a) ∧ w'.cell? ⟨w.heap.size + 1, 1, none⟩ = some (.int .i64 c) ∧ w' = w4.drew ∧ (Instr.lookup 42 (.map (some m)) (.agg #[.int .i64 a, .int .i64 c]) false).run Try.prog w' = .ok (.int .i64 (f a c)) w') (exact ⟨b0, b2, y0, y1, rfl, hlook 1⟩) (fail)
    go_wp2_with fail
    go_meet
    exact ⟨rfl, rfl⟩
  case rest =>
  obtain ⟨rfl, rfl⟩ := hcut
  clear hlook
  have c3 : w4.cell? ⟨m + 1, 3, none⟩ = some (.int .i64 lost) := hB4.cell 3
  have f3 := hB4.free 3
  go_wp2_with fail
  go_ret
  refine ⟨rfl, ⟨A, cp, hB4.drew.set 3 _, MapAt.far (w := w4.drew) hM4 (by simp) _, ownsRow_setCell_below (World.ownsRow.drew hO4) (by simp) _⟩, ?_⟩
  exact Below.setCell (hb4.mono (by omega)).drew (by simp) _
end Go.Proofs.Ytfficdloekfpcaa
