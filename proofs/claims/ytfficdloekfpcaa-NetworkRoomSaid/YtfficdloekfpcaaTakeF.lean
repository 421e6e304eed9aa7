/- Take's closure, walked. (Types and functions by this seat's numbers.) -/
import Derived.Test.YtfficdloekfpcaaBetwW
import Derived.Test.YtfficdloekfpcaaDelW
namespace Go.Proofs.Ytfficdloekfpcaa
open Go.RowKit Go.Maps
attribute [local go_sem ↓] Go.wp_at_zero Go.wp_at_succ
set_option maxRecDepth 100000 in
set_option maxHeartbeats 20000000 in
theorem takeFn_any (m nn g cap T N I R : Nat) (room lost : Int) (ps : List (Int × Int × ByteArray)) (f : Int → Int → Int) (i : Nat) (a c : Int) (s : ByteArray) (x0 x1 x2 : Value) (w : World)
    (hB : Blk w (m + 1) 45 (netCells room (some ⟨g, 0, none⟩) ps.length cap m lost)) (hM : MapAt w m nn f) (hO : w.ownsRow (m + 2) 27 3 (.slice (some ⟨g, 0, none⟩) ps.length cap) ps.length (pkCells ps))
    (hT : Blk w T 27 #[x0, x1, x2]) (hN : Blk w N 23 #[.pointer (some ⟨m + 1, 0, none⟩)]) (hI : Blk w I 3 #[.int .i64 (i : Nat)]) (y0 y1 y2 : Value) (hR : Blk w R 27 #[y0, y1, y2]) (hRg : R ≠ g ∧ m + 1 < R ∧ R ≠ T)
    (hTg : T ≠ g ∧ m + 1 < T) (hNg : N ≠ g ∧ m + 1 < N ∧ N ≠ T) (hIg : I ≠ g ∧ m + 1 < I ∧ I ≠ T) (hi : i < ps.length) (hp : ps[i]? = some (a, c, s)) (hnn : nn + 10 < 1000000) (hps : ps.length < 1000000)
    (ha : 0 ≤ a ∧ a < 16) (hc : 0 ≤ c ∧ c < 16) (hf0 : 0 < f a c ∧ f a c < 1000000) :
    Calls Try.prog 22 #[.pointer (some ⟨g, i * 3, none⟩), .pointer (some ⟨T, 0, none⟩), .pointer (some ⟨N, 0, none⟩), .pointer (some ⟨I, 0, none⟩)] w fun e w' => e = .returned (.bool true) ∧ (Blk w' (m + 1) 45 (netCells room (some ⟨g, 0, none⟩) (ps.eraseIdx i).length cap m lost) ∧ MapAt w' m (nn + 2) (setF f a c (f a c - 1)) ∧ w'.ownsRow (m + 2) 27 3 (.slice (some ⟨g, 0, none⟩) (ps.eraseIdx i).length cap) (ps.eraseIdx i).length (pkCells (ps.eraseIdx i))) ∧ Blk w' T 27 #[.int .i64 a, .int .i64 c, .string s] ∧ Blk w' R 27 #[y0, y1, y2] ∧ Below m w w' := by
  have hrow : ∃ cur : Array Value, Blk w g 27 cur ∧ cur.size = cap * 3 ∧ ps.length ≤ cap ∧ cap ≤ maxLen ∧ cur.toList.take (ps.length * 3) = pkCells ps ∧ m + 2 ≤ g := by
    rcases hO.2 with ⟨h, _⟩ | ⟨g', cap', cur, h1, h2, h3, h4, h4b, h5, h6⟩
    · cases h
    · injection h1 with h1 _ h8
      injection h1 with h1
      injection h1 with h1
      subst h1
      subst h8
      exact ⟨cur, h3, h5, h4, h4b, h6, h2⟩
  obtain ⟨cur, hG, hsz, hcap, hcm, hcur, hmg⟩ := hrow
  have hcell : ∀ q, q < ps.length * 3 → cur[q]? = (pkCells ps)[q]? := fun q hq => by
    have h := congrArg (fun l => l[q]?) hcur
    simp only [List.getElem?_take, if_pos hq, Array.getElem?_toList] at h
    exact h
  have hpk : pkCells ps = pkCells (ps.take i) ++ ([.int .i64 a, .int .i64 c, .string s] ++ pkCells (ps.drop (i + 1))) := by
    have h1 : ps = ps.take i ++ ((a, c, s) :: ps.drop (i + 1)) := by
      have h2 : ps[i] = (a, c, s) := (List.getElem?_eq_some_iff.1 hp).2
      rw [← h2, List.getElem_cons_drop, List.take_append_drop]
    conv => lhs; rw [h1]
    rw [pk_append]
    rfl
  have l1 : (pkCells (ps.take i)).length = i * 3 := by rw [pk_length, List.length_take]; omega
  have hk : ∀ k, k < 3 → w.cell? ⟨g, i * 3 + k, none⟩ = ([.int .i64 a, .int .i64 c, .string s] : List Value)[k]? := fun k hk => by
    rw [hG.cell, hcell _ (by omega), hpk, List.getElem?_append_right (by omega), l1, show i * 3 + k - i * 3 = k from by omega, List.getElem?_append_left (by simpa using hk)]
  have g0 : w.cell? ⟨g, i * 3, none⟩ = some (.int .i64 a) := hk 0 (by omega)
  have g1 : w.cell? ⟨g, i * 3 + 1, none⟩ = some (.int .i64 c) := hk 1 (by omega)
  have g2 : w.cell? ⟨g, i * 3 + 2, none⟩ = some (.string s) := hk 2 (by omega)
  have t0 : w.cell? ⟨T, 0, none⟩ = some x0 := hT.cell 0
  have t1 : w.cell? ⟨T, 1, none⟩ = some x1 := hT.cell 1
  have t2 : w.cell? ⟨T, 2, none⟩ = some x2 := hT.cell 2
  have u0 := hT.free 0
  have u1 := hT.free 1
  have u2 := hT.free 2
  go_enter Try.func22, Try.ntmps22
  go_upto_region 2 with fail
  have hT1 := ((hT.set 0 (.int .i64 a)).set 1 (.int .i64 c)).set 2 (.string s)
  have hB1 := ((hB.far (p := ⟨T, 0, none⟩) (show m + 1 ≠ T by omega) (.int .i64 a)).far (p := ⟨T, 1, none⟩) (show m + 1 ≠ T by omega) (.int .i64 c)).far (p := ⟨T, 2, none⟩) (show m + 1 ≠ T by omega) (.string s)
  have hM1 := ((hM.far (p := ⟨T, 0, none⟩) (show m ≠ T by omega) (.int .i64 a)).far (p := ⟨T, 1, none⟩) (show m ≠ T by omega) (.int .i64 c)).far (p := ⟨T, 2, none⟩) (show m ≠ T by omega) (.string s)
  have hG1 := ((hG.far (p := ⟨T, 0, none⟩) (show g ≠ T by omega) (.int .i64 a)).far (p := ⟨T, 1, none⟩) (show g ≠ T by omega) (.int .i64 c)).far (p := ⟨T, 2, none⟩) (show g ≠ T by omega) (.string s)
  have hN1 := ((hN.far (p := ⟨T, 0, none⟩) (show N ≠ T by omega) (.int .i64 a)).far (p := ⟨T, 1, none⟩) (show N ≠ T by omega) (.int .i64 c)).far (p := ⟨T, 2, none⟩) (show N ≠ T by omega) (.string s)
  have hR1 := ((hR.far (p := ⟨T, 0, none⟩) (show R ≠ T by omega) (.int .i64 a)).far (p := ⟨T, 1, none⟩) (show R ≠ T by omega) (.int .i64 c)).far (p := ⟨T, 2, none⟩) (show R ≠ T by omega) (.string s)
  have hI1 := ((hI.far (p := ⟨T, 0, none⟩) (show I ≠ T by omega) (.int .i64 a)).far (p := ⟨T, 1, none⟩) (show I ≠ T by omega) (.int .i64 c)).far (p := ⟨T, 2, none⟩) (show I ≠ T by omega) (.string s)
  have hb1 : Below m w (((w.setCell ⟨T, 0, none⟩ (.int .i64 a)).setCell ⟨T, 1, none⟩ (.int .i64 c)).setCell ⟨T, 2, none⟩ (.string s)) := (((Below.refl m w).setCell (show m ≤ T by omega) _).setCell (show m ≤ T by omega) _).setCell (show m ≤ T by omega) _
  generalize ((w.setCell ⟨T, 0, none⟩ (.int .i64 a)).setCell ⟨T, 1, none⟩ (.int .i64 c)).setCell ⟨T, 2, none⟩ (.string s) = w1 at hT1 hB1 hM1 hG1 hN1 hI1 hR1 hb1 ⊢
  have k0 : w1.cell? ⟨g, i * 3, none⟩ = some (.int .i64 a) := by
    have := hk 0 (by omega)
    rw [hG.cell] at this
    exact (hG1.cell _).trans this
  have k1 : w1.cell? ⟨g, i * 3 + 1, none⟩ = some (.int .i64 c) := by
    have := hk 1 (by omega)
    rw [hG.cell] at this
    exact (hG1.cell _).trans this
  clear hB hM hO hT hN hI hR hG g0 g1 g2 t0 t1 t2 u0 u1 u2 hk
  have hltT := hT1.lt
  have hltB := hB1.lt
  have hltG := hG1.lt
  have hltN := hN1.lt
  have hltR := hR1.lt
  have hltI := hI1.lt
  have hltM := hM1.lt
  go_cut [6] from 7 to 50 (fun s6 wx => s6 = .pointer (some ⟨w1.heap.size, 0, none⟩) ∧ wx = (w1.alloc (.cells #[.int .i64 a, .int .i64 c] 46)).drew)
  case first =>
    go_region
    all_goals (go_wp2_with fail; go_meet; exact ⟨rfl, rfl⟩)
  case rest =>
  obtain ⟨rfl, rfl⟩ := hcut
  have hW2 := Blk.new w1 46 #[.int .i64 a, .int .i64 c]
  have hT2 := hT1.alloc (.cells #[.int .i64 a, .int .i64 c] 46)
  have hB2 := hB1.alloc (.cells #[.int .i64 a, .int .i64 c] 46)
  have hM2 := hM1.alloc (.cells #[.int .i64 a, .int .i64 c] 46)
  have hG2 := hG1.alloc (.cells #[.int .i64 a, .int .i64 c] 46)
  have hN2 := hN1.alloc (.cells #[.int .i64 a, .int .i64 c] 46)
  have hR2 := hR1.alloc (.cells #[.int .i64 a, .int .i64 c] 46)
  have hI2 := hI1.alloc (.cells #[.int .i64 a, .int .i64 c] 46)
  have hb2 := hb1.alloc (show m ≤ w1.heap.size by omega) (.cells #[.int .i64 a, .int .i64 c] 46)
  have hlt2 : w1.heap.size < (w1.alloc (.cells #[.int .i64 a, .int .i64 c] 46)).heap.size := hW2.lt
  generalize w1.alloc (.cells #[.int .i64 a, .int .i64 c] 46) = w2 at hW2 hT2 hB2 hM2 hG2 hN2 hI2 hR2 hb2 hlt2 ⊢
  clear hT1 hB1 hM1 hG1 hN1 hI1 hR1 hb1 k0 k1
  have hfa : Fit1 a := ⟨by omega, by omega⟩
  have hfc : Fit1 c := ⟨by omega, by omega⟩
  obtain ⟨w5, st, hrunE, hM5, hg5, es, clock, j, e0, he1, he2, he3, he4⟩ := (MapAt.drew hM2).drew.entry (by unfold maxLen; omega) hfa hfc ⟨by omega, by omega⟩
  obtain ⟨w6, hrunS, hM6, hg6⟩ := hM5.store (v := f a c - 1) (by unfold maxLen; omega) hfa hfc ⟨by omega, by omega⟩ he1 he2 he3 he4
  have hl4 : (Instr.lookup 42 (.map (some m)) (.agg #[.int .i64 a, .int .i64 c]) false).run Try.prog w2.drew.drew = .ok (.int .i64 (f a c)) w2.drew.drew := MapAt.look (w := w2.drew.drew) hM2 hfa hfc
  have hl5 : (Instr.lookup 42 (.map (some m)) (.agg #[.int .i64 a, .int .i64 c]) false).run Try.prog w5 = .ok (.int .i64 (f a c)) w5 := MapAt.look hM5 hfa hfc
  have hB5 : Blk w5 (m + 1) 45 _ := Blk.grown (w := w2.drew.drew) hB2 hg5 (by simp)
  have hW5 : Blk w5 w1.heap.size 46 _ := Blk.grown (w := w2.drew.drew) hW2 hg5 (by simp; omega)
  have hT5 : Blk w5 T 27 _ := Blk.grown (w := w2.drew.drew) hT2 hg5 (by simp; omega)
  have hG5 : Blk w5 g 27 _ := Blk.grown (w := w2.drew.drew) hG2 hg5 (by simp; omega)
  have hN5 : Blk w5 N 23 _ := Blk.grown (w := w2.drew.drew) hN2 hg5 (by simp; omega)
  have hR5 : Blk w5 R 27 _ := Blk.grown (w := w2.drew.drew) hR2 hg5 (by simp; omega)
  have hI5 : Blk w5 I 3 _ := Blk.grown (w := w2.drew.drew) hI2 hg5 (by simp; omega)
  have hB6 := hB5.grown hg6 (by simp)
  have hW6 := hW5.grown hg6 (by simp; omega)
  have hT6 := hT5.grown hg6 (by simp; omega)
  have hG6 := hG5.grown hg6 (by simp; omega)
  have hN6 := hN5.grown hg6 (by simp; omega)
  have hR6 := hR5.grown hg6 (by simp; omega)
  have hI6 := hI5.grown hg6 (by simp; omega)
  have hsz5 : w2.heap.size ≤ w5.heap.size := hg5.size
  have hsz6 : w5.heap.size ≤ w6.heap.size := hg6.size
  have hb6 : Below m w w6 := (hb2.drew.drew.grown hg5 (show m ≤ w2.heap.size by omega) (fun q hq => by injection hq with hq; omega)).grown hg6 (by omega) (fun q hq => by injection hq with hq; omega)
  have hsum : IntKind.i64.wrap (f a c - 1) = f a c - 1 := by rw [IntKind.wrap_i64]; omega
  have c4 := hB2.cell 2
  have c5 := hB5.cell 2
  have c6 := hB6.cell 2
  have x4 := hW2.cell 0
  have x5 := hW5.cell 0
  have x6 := hW6.cell 0
  have z4 := hW2.cell 1
  have z5 := hW5.cell 1
  have z6 := hW6.cell 1
  have n4 := hN2.cell 0
  have n5 := hN5.cell 0
  have n6 := hN6.cell 0
  unfold pairV at hrunE
  unfold goInt at hrunE hrunS
  go_upto_region 3 with fail
  go_cut [] from 7 to 50 (fun wx => wx = w6)
  case first =>
    go_region_held3 (fun w' => w'.cell? ⟨N, 0, none⟩ = some (.pointer (some ⟨m + 1, 0, none⟩)) ∧ w'.cell? ⟨m + 1, 2, none⟩ = some (.map (some m)) ∧ w'.cell? ⟨w1.heap.size, 0, none⟩ = some (.int .i64 a) ∧ w'.cell? ⟨w1.heap.size, 1, none⟩ = some (.int .i64 c)) (first | exact ⟨n4, c4, x4, z4⟩ | exact ⟨n5, c5, x5, z5⟩ | exact ⟨n6, c6, x6, z6⟩) (fail)
    all_goals (go_wp2_with fail; go_meet; rfl)
  case rest =>
  obtain rfl := hcut
  clear c4 c5 x4 x5 z4 z5 n4 n5 hrunE hrunS hl4 hl5 hB5 hW5 hT5 hG5 hN5 hI5 hR5 hM5 hg5 hg6 hB2 hM2 hT2 hG2 hN2 hI2 hR2 hW2 hb2 hsum he1 he2 he3 he4
  have hl6 : (Instr.lookup 42 (.map (some m)) (.agg #[.int .i64 a, .int .i64 c]) false).run Try.prog wc.drew = .ok (.int .i64 (f a c - 1)) wc.drew := by
    have h := MapAt.look (w := wc.drew) hM6 hfa hfc
    simp only [setF, and_self, if_true] at h
    exact h
  go_upto_region 4 with fail
  go_cut [34] from 7 to 50 (fun s34 wx => s34 = .bool (decide (f a c - 1 = 0)) ∧ wx = wc.drew)
  case first =>
    go_region_held3 (fun w' => w'.cell? ⟨N, 0, none⟩ = some (.pointer (some ⟨m + 1, 0, none⟩)) ∧ w'.cell? ⟨m + 1, 2, none⟩ = some (.map (some m)) ∧ w'.cell? ⟨w1.heap.size, 0, none⟩ = some (.int .i64 a) ∧ w'.cell? ⟨w1.heap.size, 1, none⟩ = some (.int .i64 c)) (exact ⟨n6, c6, x6, z6⟩) (fail)
    all_goals (go_wp2_with fail; go_meet; exact ⟨congrArg Value.bool (by rw [Bool.eq_iff_iff]; simp), rfl⟩)
  case rest =>
  obtain ⟨rfl, rfl⟩ := hcut
  clear hl6
  obtain ⟨w8, hrunD, hM8, hg8⟩ := (show MapAt wc.drew.drew m (nn + 1 + 1) _ from hM6).del hfa hfc 0
  have hsz8 : wc.heap.size ≤ w8.heap.size := hg8.size
  have hltM6 := hM6.lt
  have hB8 : Blk w8 (m + 1) 45 _ := Blk.grown (w := wc.drew.drew) hB6 hg8 (by simp)
  have hT8 : Blk w8 T 27 _ := Blk.grown (w := wc.drew.drew) hT6 hg8 (by simp; omega)
  have hG8 : Blk w8 g 27 _ := Blk.grown (w := wc.drew.drew) hG6 hg8 (by simp; omega)
  have hN8 : Blk w8 N 23 _ := Blk.grown (w := wc.drew.drew) hN6 hg8 (by simp; omega)
  have hR8 : Blk w8 R 27 _ := Blk.grown (w := wc.drew.drew) hR6 hg8 (by simp; omega)
  have hI8 : Blk w8 I 3 _ := Blk.grown (w := wc.drew.drew) hI6 hg8 (by simp; omega)
  have hW8 : Blk w8 w1.heap.size 46 _ := Blk.grown (w := wc.drew.drew) hW6 hg8 (by simp; omega)
  have n8 := hN8.cell 0
  have c8 := hB8.cell 2
  have x8 := hW8.cell 0
  have z8 := hW8.cell 1
  have hb8 : Below m w w8 := hb6.drew.drew.grown hg8 (show m ≤ wc.heap.size by omega) (fun q hq => by injection hq with hq; omega)
  unfold pairV at hrunD
  go_upto_if 34 with fail
  go_cut [] from 7 to 50 (fun wx => Blk wx (m + 1) 45 (netCells room (some ⟨g, 0, none⟩) ps.length cap m lost) ∧ Blk wx T 27 #[.int .i64 a, .int .i64 c, .string s] ∧ Blk wx g 27 cur ∧ Blk wx N 23 #[.pointer (some ⟨m + 1, 0, none⟩)] ∧ Blk wx I 3 #[.int .i64 (i : Nat)] ∧ Blk wx R 27 #[y0, y1, y2] ∧ MapAt wx m (nn + 2) (setF f a c (f a c - 1)) ∧ Below m w wx)
  case first =>
    by_cases hz : f a c - 1 = 0
    · have hd : decide (f a c - 1 = 0) = true := decide_eq_true hz
      rw [hd]
      go_upto_region 5 with fail
      go_region_held3 (fun w' => w'.cell? ⟨N, 0, none⟩ = some (.pointer (some ⟨m + 1, 0, none⟩)) ∧ w'.cell? ⟨m + 1, 2, none⟩ = some (.map (some m)) ∧ w'.cell? ⟨w1.heap.size, 0, none⟩ = some (.int .i64 a) ∧ w'.cell? ⟨w1.heap.size, 1, none⟩ = some (.int .i64 c)) (first | exact ⟨n6, c6, x6, z6⟩ | exact ⟨n8, c8, x8, z8⟩) (fail)
      go_wp2_with fail
      go_meet
      have hsf : setF (setF f a c (f a c - 1)) a c 0 = setF f a c (f a c - 1) := by
        funext a' c'
        unfold setF
        split <;> simp_all
      rw [hsf] at hM8
      exact ⟨hB8, hT8, hG8, hN8, hI8, hR8, hM8, hb8⟩
    · have hd : decide (f a c - 1 = 0) = false := decide_eq_false hz
      rw [hd]
      go_wp2_with fail
      go_meet
      exact ⟨hB6.drew, hT6.drew, hG6.drew, hN6.drew, hI6.drew, hR6.drew, hM6, hb6.drew⟩
  case rest =>
  obtain ⟨hB9, hT9, hG9, hN9, hI9, hR9, hM9, hb9⟩ := hcut
  have hdel : ∀ w', Blk w' g 27 cur → Calls Try.prog 23 #[.slice (some ⟨g, 0, none⟩) ps.length cap, .int .i64 (i : Nat), .int .i64 ((i : Int) + 1)] w' fun e w'' => e = .returned (.slice (some ⟨g, 0, none⟩) (ps.length - 1) cap) ∧ Only g w' w'' ∧ ∃ cur', Blk w'' g 27 cur' ∧ cur'.size = cap * 3 ∧ cur'.toList.take ((ps.length - 1) * 3) = pkCells (ps.eraseIdx i) := fun w' h => delete_any g ps.length cap i cur w' h hi hcap hsz ps rfl hcur
  have c9 : wc.cell? ⟨m + 1, 1, none⟩ = some (.slice (some ⟨g, 0, none⟩) ps.length cap) := hB9.cell 1
  have n9 : wc.cell? ⟨N, 0, none⟩ = some (.pointer (some ⟨m + 1, 0, none⟩)) := hN9.cell 0
  have i9 : wc.cell? ⟨I, 0, none⟩ = some (.int .i64 (i : Nat)) := hI9.cell 0
  have hi1 : IntKind.i64.wrap ((i : Int) + 1) = (i : Int) + 1 := by rw [IntKind.wrap_i64]; omega
  clear n6 c6 x6 z6 n8 c8 x8 z8 hrunD hB6 hT6 hG6 hN6 hI6 hR6 hW6 hM6 hb6 hB8 hT8 hG8 hN8 hI8 hR8 hW8 hM8 hb8 hg8 hpk l1 hcell
  go_upto_region 6 with fail
  go_cut [] from 7 to 50 (fun wx => ∃ (w10 : World) (cur' : Array Value), Only g wc.drew w10 ∧ Blk w10 g 27 cur' ∧ cur'.size = cap * 3 ∧ cur'.toList.take ((ps.length - 1) * 3) = pkCells (ps.eraseIdx i) ∧ wx = w10.setCell ⟨m + 1, 1, none⟩ (.slice (some ⟨g, 0, none⟩) (ps.length - 1) cap))
  case first =>
    go_region_with (first
      | (go_simp; go_at_call 23; refine (hdel _ hG9.drew).mono ?_; rintro e w10 ⟨rfl, hO10, cur', hG10, hs10, hr10⟩; have hB10 := hB9.drew.grown hO10 (by simp; omega); have c10 : w10.cell? ⟨m + 1, 1, none⟩ = some (.slice (some ⟨g, 0, none⟩) ps.length cap) := hB10.cell 1; have f10 := hB10.free 1; have hN10 := hN9.drew.grown hO10 (by simp; omega); have n10 : w10.cell? ⟨N, 0, none⟩ = some (.pointer (some ⟨m + 1, 0, none⟩)) := hN10.cell 0))
    all_goals (go_wp2_with fail; go_meet; exact ⟨w10, cur', hO10, hG10, hs10, hr10, rfl⟩)
  case rest =>
  obtain ⟨w10, cur', hO10, hG10, hs10, hr10, rfl⟩ := hcut
  have hB10 := (hB9.drew.grown hO10 (by simp; omega)).set 1 (.slice (some ⟨g, 0, none⟩) (ps.length - 1) cap)
  have hlen : (ps.eraseIdx i).length = ps.length - 1 := by rw [List.length_eraseIdx, if_pos hi]
  go_wp2_with fail
  go_ret
  refine ⟨rfl, ⟨?_, ?_, ?_⟩, ?_, ?_, ?_⟩
  · rw [hlen]; exact hB10
  · exact (MapAt.kept hM9.drew hO10 (by simp; omega)).far (by simp) _
  · rw [hlen]
    refine ⟨by rw [pk_length, hlen], .inr ⟨g, cap, cur', rfl, hmg, hG10.far (by simp; omega) _, by omega, hcm, hs10, hr10⟩⟩
  · exact (hT9.drew.grown hO10 (by simp; omega)).far (by simp; omega) _
  · exact (hR9.drew.grown hO10 (by simp; omega)).far (by simp; omega) _
  · refine Below.setCell ?_ (by simp) _
    exact hb9.drew.grown hO10 (show m ≤ wc.heap.size by have := hB9.lt; omega) (fun q hq => by injection hq with hq; omega)
end Go.Proofs.Ytfficdloekfpcaa
