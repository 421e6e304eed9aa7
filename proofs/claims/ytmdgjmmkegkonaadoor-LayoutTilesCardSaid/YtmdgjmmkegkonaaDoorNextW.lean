/- Next: walked; a row of panes as it is read. -/
import Derived.Test.YtmdgjmmkegkonaaDoorCloW
namespace Go.Proofs.YtmdgjmmkegkonaaDoor
open Go.RowKit
/-- A row of panes in memory. -/
structure Pn (w : World) (g n c : Nat) (l : List (Int × Rc)) : Prop where
  len : n = l.length
  cap : n ≤ c
  big : c ≤ maxLen
  blk : ∃ cs, w.heap[g]? = some (.cells cs 43 (0, 0))
  at' : ∀ k x, l[k]? = some x → ∀ j u, (paneV x)[j]? = some u → w.cell? ⟨g, k * 5 + j, none⟩ = some u
theorem Pn.lt {w : World} {g n c : Nat} {l : List (Int × Rc)} (h : Pn w g n c l) : g < w.heap.size := by
  obtain ⟨cs, h1⟩ := h.blk
  exact (Array.getElem?_eq_some_iff.1 h1).1
theorem Pn.keep {w w' : World} {g n c : Nat} {l : List (Int × Rc)} (h : Pn w g n c l) (hk : w'.heap[g]? = w.heap[g]?) : Pn w' g n c l :=
  ⟨h.len, h.cap, h.big, by obtain ⟨cs, h1⟩ := h.blk; exact ⟨cs, hk.trans h1⟩, fun k x hx j u hu => (World.cell?_of_block (a := ⟨g, k * 5 + j, none⟩) hk).trans (h.at' k x hx j u hu)⟩
theorem Pn.later {w w' : World} {g n c : Nat} {l : List (Int × Rc)} (h : Pn w g n c l) (hb : Below w.heap.size w w') : Pn w' g n c l := h.keep (hb.block g h.lt)
theorem Pn.of_own {w : World} {B : Nat} {v : Value} {l : List (Int × Rc)} (h : w.ownsRow B 43 5 v l.length (l.flatMap paneV)) (hl : l ≠ []) : ∃ g c, v = .slice (some ⟨g, 0, none⟩) l.length c ∧ B ≤ g ∧ Pn w g l.length c l := by
  have h0 : 0 < l.length := List.length_pos_iff.2 hl
  have hc := h
  rcases h.2 with ⟨_, h2⟩ | ⟨g, cap, cur, h1, h2, h3, h4, h5, _⟩
  · omega
  · refine ⟨g, cap, h1, h2, rfl, h4, h5, ⟨cur, h3⟩, fun k x hx j u hu => ?_⟩
    have h6 := hc.cells (g := g) (by rw [h1]; rfl) (k * 5 + j) u (flat_get paneV 5 (fun _ => rfl) l k x hx j u hu)
    have hadd : (⟨g, 0, none⟩ : Addr).add (k * 5 + j) = ⟨g, k * 5 + j, none⟩ := by unfold Addr.add; split <;> simp_all
    rwa [hadd] at h6
def posP (l : List (Int × Rc)) (id : Int) : Option Nat := l.findIdx? (fun x => x.1 == id)
def nextP (l : List (Int × Rc)) (id : Int) : Int :=
  match posP l id with
  | none => 0
  | some i => (l.getD ((i + 1) % l.length) (0, ⟨0, 0, 0, 0⟩)).1
theorem panes_ne (t : Tr) (r : Rc) : panesP t r ≠ [] := fun h => by
  have h1 := panes_len t r
  have h2 := ids_pos t
  rw [h] at h1
  simp at h1
  omega
theorem nextP_hit {l : List (Int × Rc)} {k : Nat} {x y : Int × Rc} (hx : l[k]? = some x) (hno : ∀ j, j < k → ∀ y, l[j]? = some y → y.1 ≠ x.1) (hy : l[(k + 1) % l.length]? = some y) : nextP l x.1 = y.1 := by
  have hk := (List.getElem?_eq_some_iff.1 hx).1
  have hp : posP l x.1 = some k := by
    unfold posP
    rw [List.findIdx?_eq_some_iff_getElem]
    refine ⟨hk, ?_, fun j hj => ?_⟩
    · have := (List.getElem?_eq_some_iff.1 hx).2
      simp [this]
    · have h1 := hno j hj l[j] (List.getElem?_eq_getElem (by omega))
      simpa using h1
  unfold nextP
  rw [hp]
  simp only [List.getD_eq_getElem?_getD, hy]
  rfl
theorem nextP_no {l : List (Int × Rc)} {id : Int} (hno : ∀ j, j < l.length → ∀ y, l[j]? = some y → y.1 ≠ id) : nextP l id = 0 := by
  have hp : posP l id = none := by
    unfold posP
    rw [List.findIdx?_eq_none_iff]
    intro y hy
    obtain ⟨j, hj, rfl⟩ := List.getElem_of_mem hy
    simpa using hno j hj _ (List.getElem?_eq_getElem hj)
  unfold nextP
  rw [hp]
set_option maxRecDepth 100000 in
set_option maxHeartbeats 2000000 in
theorem next_any (b : Nat) (t : Tr) (r : Rc) (nw id : Int) (w : World) (h : Lay w b t r nw) :
    Calls Tryd.prog 14 #[.pointer (some ⟨b, 0, none⟩), .int .i64 id] w fun e w' => e = .returned (.int .i64 (nextP (panesP t r) id)) ∧ Below w.heap.size w w' := by
  have hpanes := panes_any b t r nw w h.mem h.rc h.nums h.fits h.nl
  have hne := panes_ne t r
  have hfew : (panesP t r).length ≤ 16 := by rw [panes_len]; exact h.few
  clear h
  generalize panesP t r = l at *
  go_enter Tryd.func14, Tryd.ntmps14
  go_wp2_with (go_at_call 11; refine hpanes.mono ?_; rintro e w2 ⟨⟨v, rfl, hO⟩, hb2⟩; obtain ⟨g, c, rfl, hBg, hP⟩ := Pn.of_own hO hne)
  obtain ⟨hlen, hcap, hbig, hblk, hat⟩ := hP
  have h0 : 0 < l.length := List.length_pos_iff.2 hne
  have hgl : g < w2.heap.size := by obtain ⟨cs, h1⟩ := hblk; exact (Array.getElem?_eq_some_iff.1 h1).1
  clear hpanes hO hblk hlen
  go_loopw [12] (fun x wr => ∃ k : Nat, k ≤ l.length ∧ x = .int .i64 (k : Nat) ∧ (∀ j, j < k → ∀ y, l[j]? = some y → y.1 ≠ id) ∧ Below w2.heap.size w2 wr) (fun x _ => l.length - (intOf x).toNat)
  case atStart => exact ⟨0, Nat.zero_le _, rfl, fun j hj => by omega, Below.refl _ _⟩
  case round =>
    obtain ⟨k, hk, rfl, hno, hbr⟩ := hrel
    by_cases hlt : k < l.length
    · have hx : l[k]? = some l[k] := List.getElem?_eq_getElem hlt
      generalize l[k] = x at hx
      have hkeep := fun j u (hu : (paneV x)[j]? = some u) => (hbr.cell (p := ⟨g, k * 5 + j, none⟩) hgl).trans (hat k x hx j u hu)
      have q0 : wr.cell? ⟨g, k * 5, none⟩ = some (.int .i64 x.1) := hkeep 0 _ rfl
      have q1 : wr.cell? ⟨g, k * 5 + 1, none⟩ = some (.int .i64 x.2.x) := hkeep 1 _ rfl
      have q2 : wr.cell? ⟨g, k * 5 + 2, none⟩ = some (.int .i64 x.2.y) := hkeep 2 _ rfl
      have q3 : wr.cell? ⟨g, k * 5 + 3, none⟩ = some (.int .i64 x.2.w) := hkeep 3 _ rfl
      have q4 : wr.cell? ⟨g, k * 5 + 4, none⟩ = some (.int .i64 x.2.h) := hkeep 4 _ rfl
      have hd1 : decide ((k : Int) < (l.length : Int)) = true := decide_eq_true (by omega)
      have hd2 : decide (k < l.length) = true := decide_eq_true hlt
      have Hno := Lib.hid hno
      have Hat := Lib.hid hat
      have Hx := Lib.hid hx
      clear hkeep hno hat hx
      by_cases hid : x.1 = id
      · subst hid
        have hd3 : (x.1 == x.1) = true := by simp
        obtain ⟨m, hm⟩ : ∃ m, m = (k + 1) % l.length := ⟨_, rfl⟩
        have hml : m < l.length := by rw [hm]; exact Nat.mod_lt _ h0
        have hmod : ((k : Int) + 1).tmod (l.length : Int) = (m : Int) := by
          rw [Int.tmod_eq_emod_of_nonneg (by omega), hm, Int.natCast_emod, Int.natCast_add]
          rfl
        have hl0 : ¬ (l.length : Int) = 0 := by omega
        have hl1 : ((l.length : Int) == 0) = false := by simpa using hl0
        have hl2 : ¬ l.length = 0 := by omega
        have hy : l[m]? = some l[m] := List.getElem?_eq_getElem hml
        generalize l[m] = y at hy
        have hbr' := (Below.refl wr.heap.size wr).alloc (Nat.le_refl _) (.cells #[.int .i64 x.1, .int .i64 x.2.x, .int .i64 x.2.y, .int .i64 x.2.w, .int .i64 x.2.h] 43)
        have y0 : (wr.alloc (.cells #[.int .i64 x.1, .int .i64 x.2.x, .int .i64 x.2.y, .int .i64 x.2.w, .int .i64 x.2.h] 43)).cell? ⟨g, m * 5, none⟩ = some (.int .i64 y.1) := keepc hbr' ((hbr.cell (p := ⟨g, m * 5, none⟩) hgl).trans (Hat.out m y hy 0 _ rfl))
        have HN := Lib.hid (nextP_hit Hx.out Hno.out (by rw [← hm]; exact hy))
        have hdm : decide ((m : Int) < (l.length : Int)) = true := decide_eq_true (by omega)
        have hdm2 : decide (m < l.length) = true := decide_eq_true hml
        clear hm hy
        go_wp2_with fail
        go_ret
        refine ⟨ret_int64 HN.out.symm, ?_⟩
        exact hb2.trans ((hbr.trans (hbr'.mono hbr.size)).mono hb2.size)
      · have hd3 : (x.1 == id) = false := by simpa using hid
        go_wp2_with fail
        go_round
        case rel =>
          refine ⟨k + 1, by omega, by go_num, fun j hj y hy => ?_, (hbr.alloc hbr.size _)⟩
          rcases Nat.lt_or_ge j k with h1 | h1
          · exact Hno.out j h1 y hy
          · obtain rfl : j = k := by omega
            rw [Hx.out] at hy
            obtain rfl := Option.some.inj hy
            exact hid
        case measure => simp [intOf]; omega
    · have hd1 : decide ((k : Int) < (l.length : Int)) = false := decide_eq_false (by omega)
      have hd2 : decide (k < l.length) = false := decide_eq_false hlt
      have HN := Lib.hid (nextP_no (l := l) (id := id) (fun j hj => hno j (by omega)))
      clear hno hat
      go_wp2_with fail
      go_ret
      exact ⟨ret_int64 HN.out.symm, hb2.trans (hbr.mono hb2.size)⟩
end Go.Proofs.YtmdgjmmkegkonaaDoor
