/- Rows of characters' cells; they are right. -/
import Derived.Test.YtljjklhkifehaaaCellW
namespace Go.Proofs.Ytljjklhkifehaaa
open Go.RowKit
/-- A character's cells: f, b its colours, u its ways of drawing. -/
def mkc (f b u : Int) (r : Int) : List Value :=
  if wid r = 1 then [.int .i32 r, .int .u8 f, .int .u8 b, .int .u8 u]
  else if wid r = 2 then [.int .i32 r, .int .u8 f, .int .u8 b, .int .u8 (u + 64), .int .i32 0, .int .u8 f, .int .u8 b, .int .u8 (u + 128)]
  else []
def rowc (f b u : Int) (l : List Int) : List Value := l.flatMap (mkc f b u)
def pos (l : List Int) (k : Nat) : Nat := ((l.take k).map wid).sum
theorem wid_cases (r : Int) : wid r = 0 ∨ wid r = 1 ∨ wid r = 2 := by have := wid_le r; omega
theorem mkc_len (f b u r : Int) : (mkc f b u r).length = wid r * 4 := by
  unfold mkc
  rcases wid_cases r with h | h | h <;> simp [h]
theorem mkc_1 (f b u : Int) {r : Int} (h : wid r = 1) : mkc f b u r = [.int .i32 r, .int .u8 f, .int .u8 b, .int .u8 u] := by unfold mkc; rw [if_pos h]
theorem mkc_2 (f b u : Int) {r : Int} (h : wid r = 2) : mkc f b u r = [.int .i32 r, .int .u8 f, .int .u8 b, .int .u8 (u + 64), .int .i32 0, .int .u8 f, .int .u8 b, .int .u8 (u + 128)] := by unfold mkc; rw [if_neg (by omega), if_pos h]
theorem mkc_0 (f b u : Int) {r : Int} (h : wid r = 0) : mkc f b u r = [] := by unfold mkc; rw [if_neg (by omega), if_neg (by omega)]
theorem rowc_len (f b u : Int) : ∀ l : List Int, (rowc f b u l).length = (l.map wid).sum * 4
  | [] => rfl
  | r :: l => by
    have ih := rowc_len f b u l
    unfold rowc at ih ⊢
    rw [List.flatMap_cons, List.length_append, ih, mkc_len, List.map_cons, List.sum_cons]
    omega
theorem rowc_append (f b u : Int) (l m : List Int) : rowc f b u (l ++ m) = rowc f b u l ++ rowc f b u m := by simp [rowc]
theorem pos_zero (l : List Int) : pos l 0 = 0 := rfl
theorem pos_succ (l : List Int) {k : Nat} {r : Int} (h : l[k]? = some r) : pos l (k + 1) = pos l k + wid r := by
  unfold pos
  rw [List.take_add_one, h]
  simp
theorem pos_le (l : List Int) : ∀ k, pos l k ≤ (l.map wid).sum := fun k => by
  have h : (l.map wid).sum = pos l k + ((l.drop k).map wid).sum := by
    unfold pos
    rw [← List.sum_append, ← List.map_append, List.take_append_drop]
  omega
theorem rowc_at (f b u : Int) (l : List Int) {k : Nat} {r : Int} (h : l[k]? = some r) {j : Nat} {v : Value} (hj : (mkc f b u r)[j]? = some v) : (rowc f b u l)[pos l k * 4 + j]? = some v := by
  obtain ⟨hk, hr⟩ := List.getElem?_eq_some_iff.1 h
  have e : l = l.take k ++ (r :: l.drop (k + 1)) := by
    rw [← hr, List.getElem_cons_drop, List.take_append_drop]
  have hl : (rowc f b u (l.take k)).length = pos l k * 4 := rowc_len f b u _
  have hjl := (List.getElem?_eq_some_iff.1 hj).1
  rw [e, rowc_append, ← e, List.getElem?_append_right (by omega), hl, show pos l k * 4 + j - pos l k * 4 = j from by omega]
  show ((r :: l.drop (k + 1)).flatMap (mkc f b u))[j]? = _
  rw [List.flatMap_cons, List.getElem?_append_left hjl]
  exact hj
/-- What a way of drawing must be. -/
structure Way (u : Int) : Prop where
  a64 : bits .and .u8 u 64 = 0
  a128 : bits .and .u8 u 128 = 0
  a192 : bits .and .u8 u 192 = 0
  b64 : bits .and .u8 (u + 64) 64 = 64
  b128 : bits .and .u8 (u + 64) 128 = 0
  c64 : bits .and .u8 (u + 128) 64 = 0
  c128 : bits .and .u8 (u + 128) 128 = 128
  tail : bits .or .u8 (bits .andNot .u8 (u + 64) 64) 128 = u + 128
  wide : bits .or .u8 u 64 = u + 64
theorem way_of (u : Nat) (h : u < 64) : Way (u : Nat) := by
  have hd : ∀ x : Fin 64, bits .and .u8 (x.val : Nat) 64 = 0 ∧ bits .and .u8 (x.val : Nat) 128 = 0 ∧ bits .and .u8 (x.val : Nat) 192 = 0 ∧ bits .and .u8 ((x.val : Nat) + 64) 64 = 64 ∧ bits .and .u8 ((x.val : Nat) + 64) 128 = 0 ∧ bits .and .u8 ((x.val : Nat) + 128) 64 = 0 ∧ bits .and .u8 ((x.val : Nat) + 128) 128 = 128 ∧
      bits .or .u8 (bits .andNot .u8 ((x.val : Nat) + 64) 64) 128 = (x.val : Nat) + 128 ∧ bits .or .u8 (x.val : Nat) 64 = (x.val : Nat) + 64 := by decide +kernel
  obtain ⟨h1, h2, h3, h4, h5, h6, h7, h8, h9⟩ := hd ⟨u, h⟩
  exact ⟨h1, h2, h3, h4, h5, h6, h7, h8, h9⟩
theorem way_pen (a : Int) (h0 : 0 ≤ a) (h1 : a ≤ 255) : ∃ u : Nat, u < 64 ∧ bits .andNot .u8 a 192 = (u : Nat) := by
  have hd : ∀ x : Fin 256, ∃ u : Fin 64, bits .andNot .u8 (x.val : Nat) 192 = (u.val : Nat) := by decide +kernel
  obtain ⟨⟨u, hu⟩, he⟩ := hd ⟨a.toNat, by omega⟩
  refine ⟨u, hu, ?_⟩
  simp only at he
  rw [← he]
  congr 1
  omega
/-- The characters' cells lie at g. -/
def RowAt (w : World) (g : Nat) (f b u : Int) (l : List Int) : Prop := ∀ j v, (rowc f b u l)[j]? = some v → w.cell? ⟨g, j, none⟩ = some v
theorem RowAt.below {w w' : World} {g : Nat} {f b u : Int} {l : List Int} (h : RowAt w g f b u l) (hb : Below w.heap.size w w') : RowAt w' g f b u l := fun j v hj => keepc hb (h j v hj)
/-- Characters that are seen. -/
def Seen (l : List Int) : Prop := ∀ r ∈ l, wid r ≠ 0 ∧ -2147483648 ≤ r ∧ r ≤ 2147483647
set_option maxRecDepth 100000 in
set_option maxHeartbeats 4000000 in
theorem right_row (g n c : Nat) (f b u : Int) (l : List Int) (w : World) (hu : Way u) (hs : Seen l) (hn : n = (l.map wid).sum) (hn2 : n ≤ 1000) (hR : RowAt w g f b u l) :
    Calls Try.prog 14 #[.slice (some ⟨g, 0, none⟩) n c] w fun e w' => e = .returned (.bool true) ∧ Below w.heap.size w w' := by
  have HN := Lib.hid hn
  clear hn
  go_enter Try.func14, Try.ntmps14
  go_wp2_with fail
  go_loopw [3] (fun s3 wr => ∃ k : Nat, k ≤ l.length ∧ s3 = .int .i64 (pos l k : Nat) ∧ Below w.heap.size w wr) (fun s3 _ => n - (intOf s3).toNat)
  case atStart => exact ⟨0, by omega, rfl, Below.refl _ _⟩
  case round =>
    obtain ⟨k, hk, rfl, hbr⟩ := hrel
    by_cases hlt : k < l.length
    · obtain ⟨r, hr⟩ : ∃ r, l[k]? = some r := ⟨_, List.getElem?_eq_getElem hlt⟩
      obtain ⟨hw0, hr0, hr1⟩ := hs r (List.mem_of_getElem? hr)
      have hps := pos_succ l hr
      have hpl := pos_le l (k + 1)
      rw [← HN.out] at hpl
      have hRr := hR.below (by exact hbr.mono (Nat.le_refl _) : Below w.heap.size w wr)
      have hat := fun j v hj => hRr _ v (rowc_at f b u l hr (j := j) hj)
      obtain ⟨x, hx⟩ : ∃ x, x = pos l k := ⟨_, rfl⟩
      rw [← hx] at hat hps
      have HP := Lib.hid hps
      rcases wid_cases r with hw | hw | hw
      · exact absurd hw hw0
      · rw [mkc_1 f b u hw] at hat
        have c0 : wr.cell? ⟨g, x * 4, none⟩ = some (.int .i32 r) := hat 0 _ rfl
        have c1 : wr.cell? ⟨g, x * 4 + 1, none⟩ = some (.int .u8 f) := hat 1 _ rfl
        have c2 : wr.cell? ⟨g, x * 4 + 2, none⟩ = some (.int .u8 b) := hat 2 _ rfl
        have c3 : wr.cell? ⟨g, x * 4 + 3, none⟩ = some (.int .u8 u) := hat 3 _ rfl
        have hxn : x < n := by omega
        have HX := Lib.hid hx
        rw [← hx]
        clear hx hat hps
        go_wp2_with fail
        refine (paired_one g n c x r f b u _ hxn c0 c1 c2 c3 hu.a64).mono ?_
        rintro e w1 ⟨rfl, hb1⟩
        have e0 := keepc hb1 c0
        have e1 := keepc hb1 c1
        have e2 := keepc hb1 c2
        have e3 := keepc hb1 c3
        have hb1' := hbr.trans (hb1.mono hbr.size)
        clear c0 c1 c2 c3
        go_wp2_with fail
        refine (single_one r f b u _ hu.a64 hu.a128 hu.a192 hw hr0 hr1).mono ?_
        rintro e w2 ⟨rfl, hb2⟩
        have hb2' := hb1'.trans (hb2.mono hb1'.size)
        clear e0 e1 e2 e3
        go_wp2_with fail
        go_roundw
        case rel => exact ⟨k + 1, by omega, congrArg (Value.int .i64) (by have := HP.out; omega), hb2'⟩
        case measure => simp [intOf]; omega
      · rw [mkc_2 f b u hw] at hat
        have c0 : wr.cell? ⟨g, x * 4, none⟩ = some (.int .i32 r) := hat 0 _ rfl
        have c1 : wr.cell? ⟨g, x * 4 + 1, none⟩ = some (.int .u8 f) := hat 1 _ rfl
        have c2 : wr.cell? ⟨g, x * 4 + 2, none⟩ = some (.int .u8 b) := hat 2 _ rfl
        have c3 : wr.cell? ⟨g, x * 4 + 3, none⟩ = some (.int .u8 (u + 64)) := hat 3 _ rfl
        have d0 : wr.cell? ⟨g, (x + 1) * 4, none⟩ = some (.int .i32 0) := by rw [show (x + 1) * 4 = x * 4 + 4 by omega]; exact hat 4 _ rfl
        have d1 : wr.cell? ⟨g, (x + 1) * 4 + 1, none⟩ = some (.int .u8 f) := by rw [show (x + 1) * 4 + 1 = x * 4 + 5 by omega]; exact hat 5 _ rfl
        have d2 : wr.cell? ⟨g, (x + 1) * 4 + 2, none⟩ = some (.int .u8 b) := by rw [show (x + 1) * 4 + 2 = x * 4 + 6 by omega]; exact hat 6 _ rfl
        have d3 : wr.cell? ⟨g, (x + 1) * 4 + 3, none⟩ = some (.int .u8 (u + 128)) := by rw [show (x + 1) * 4 + 3 = x * 4 + 7 by omega]; exact hat 7 _ rfl
        have hxn : x + 1 < n := by omega
        have HX := Lib.hid hx
        rw [← hx]
        clear hx hat hps
        have hcall := paired_two g n c x r f b (u + 64) (u + 128) wr hn2 hxn hr0 hr1 c0 c1 c2 c3 d0 d1 d2 d3 hu.b64 hu.b128 hu.tail hw
        clear c0 c1 c2 c3 d0 d1 d2 d3
        go_wp2_with fail
        refine hcall.mono ?_
        rintro e w1 ⟨rfl, hb1⟩
        have hb1' := hbr.trans (hb1.mono hbr.size)
        go_wp2_with fail
        go_roundw
        case rel => exact ⟨k + 1, by omega, congrArg (Value.int .i64) (by have := HP.out; omega), hb1'⟩
        case measure => simp [intOf]; omega
    · have hp : pos l k = n := by
        rw [HN.out]
        unfold pos
        rw [List.take_of_length_le (by omega)]
      rw [hp]
      clear hp
      go_wp2_with fail
      go_ret
      exact ⟨rfl, hbr⟩
end Go.Proofs.Ytljjklhkifehaaa
