/- Characters as bytes: the program's, and the document's. -/
import Derived.Test.YtljjklhkifehaaaWidW
import Derived.Test.YtljjklhkifehaaaSrcL
import Derived.Test.YtljjklhkifehaaaShelf
namespace Go.Proofs.Ytljjklhkifehaaa
open Go.RowKit
def encL (l : List Int) : List UInt8 := l.flatMap Lib.encodeRune
theorem encL_snoc (l : List Int) (r : Int) : encL (l ++ [r]) = encL l ++ Lib.encodeRune r := by simp [encL]
theorem encL_len (l : List Int) : (encL l).length ≤ 4 * l.length := by
  induction l with
  | nil => simp [encL]
  | cons r l ih =>
    have h := Lib.runeCells_le r
    rw [Lib.runeCells_length] at h
    simp only [encL, List.flatMap_cons, List.length_append, List.length_cons] at ih ⊢
    omega
theorem byteCells_bv (l : List UInt8) : Lib.byteCells l = l.map bv := rfl
/-- A character that has bytes. -/
def Vr (r : Int) : Prop := 0 ≤ r ∧ r ≤ 1114111 ∧ (r < 55296 ∨ 57343 < r)
theorem Vr.valid {r : Int} (h : Vr r) : Lib.validRune r = true := by
  unfold Lib.validRune
  unfold Vr at h
  exact decide_eq_true (by omega)
theorem Vr.some {r : Int} (h : Vr r) : noneR r = false := by
  unfold noneR
  unfold Vr at h
  rw [decide_eq_false (show ¬ r < 0 by omega), decide_eq_false (show ¬ 1114111 < r by omega), inR_not (by omega)]
  rfl
theorem vr_of_wid {r : Int} (h : wid r ≠ 0) : Vr r := by
  have hz : zeroW r = false := by
    cases hz : zeroW r
    · rfl
    · unfold wid at h
      rw [if_pos hz] at h
      exact absurd rfl h
  unfold zeroW at hz
  simp only [Bool.or_eq_false_iff] at hz
  have hn := hz.1.1.1.1.1
  unfold noneR at hn
  simp only [Bool.or_eq_false_iff, decide_eq_false_iff_not] at hn
  have h3 := inR_false hn.2
  unfold Vr
  omega
/-- Characters in a slice. -/
abbrev rv (r : Int) : Value := .int .i32 r
theorem take_r {l : List Int} {k : Nat} {r : Int} (h : l[k]? = some r) : l.take (k + 1) = l.take k ++ [r] := by
  rw [List.take_add_one, h]
  rfl
set_option maxRecDepth 100000 in
set_option maxHeartbeats 2000000 in
theorem encode_any (A : Option Addr) (n c : Nat) (l : List Int) (w : World) (hn : l.length = n) (hn2 : n ≤ 1000) (hA : Src w A (l.map rv)) (hv : ∀ r ∈ l, Vr r) :
    Calls Try.prog 30 #[.slice A n c] w fun e w' => e = .returned (.string ⟨(encL l).toArray⟩) ∧ Below w.heap.size w w' := by
  subst hn
  go_enter Try.func30, Try.ntmps30
  go_wp2_with fail
  go_loopw [3, 8] (fun v i wr => ∃ (k : Nat) (L : List UInt8), k ≤ l.length ∧ i = .int .i64 k ∧ L = encL (l.take k) ∧ wr.ownsRow w.heap.size 5 1 v L.length (L.map bv) ∧ Below w.heap.size w wr) (fun _ i _ => l.length - (intOf i).toNat)
  case atStart => exact ⟨0, [], Nat.zero_le _, rfl, rfl, World.ownsRow_nil _ _ _ _, Below.refl _ _⟩
  case round =>
    obtain ⟨k, L, hk, rfl, hL, hown, hb⟩ := hrel
    have HL := Lib.hid hL
    have hLl : L.length ≤ 4000 := by
      have h := encL_len (l.take k)
      rw [← hL, List.length_take] at h
      omega
    clear hL
    by_cases hlt : k < l.length
    · obtain ⟨r, hr⟩ : ∃ r, l[k]? = some r := ⟨_, List.getElem?_eq_getElem hlt⟩
      have hvr := hv r (List.mem_of_getElem? hr)
      obtain ⟨ad, rfl, hc⟩ := (hA.below (by exact hb.mono (Nat.le_refl _) : Below w.heap.size w wr)) (by simp; omega)
      have c0 : wr.cell? (ad.add k) = some (.int .i32 r) := hc k _ (by simp [hr])
      have HR := Lib.hid hr
      have hval := hvr.valid
      have hr0 : -2147483648 ≤ r := by unfold Vr at hvr; omega
      have hr1 : r ≤ 2147483647 := by unfold Vr at hvr; omega
      clear hc hr
      go_wp2_with fail
      refine (Try.utf8_ValidRune r _).mono ?_
      rintro e w1 ⟨rfl, rfl⟩
      rw [hval]
      clear hval
      obtain ⟨Av, cv', rfl⟩ := own_form hown
      go_wp2_with fail
      refine (Try.utf8_AppendRune_plain w.heap.size _ _ _ r hr0 hr1 _ hown (by omega) hb.size).mono ?_
      rintro e w2 ⟨v', rfl, hown', o, hg⟩
      have hb2 : Below w.heap.size w w2 := (hb.alloc hb.size o).grown hg (Nat.le_trans hb.size (by simp)) (fun g hg => (hown.lt g hg).1)
      have hown2 : w2.ownsRow w.heap.size 5 1 v' (L ++ Lib.encodeRune r).length ((L ++ Lib.encodeRune r).map bv) := by
        rw [List.length_append, List.map_append, ← byteCells_bv (Lib.encodeRune r), Lib.byteCells_encodeRune, ← Lib.runeCells_length]
        exact hown'
      have HL2 := Lib.hid (show L ++ Lib.encodeRune r = encL (l.take (k + 1)) from by rw [take_r HR.out, encL_snoc, HL.out])
      clear hown hown' hg
      go_wp2_with fail
      go_roundw
      case rel => exact ⟨k + 1, _, by omega, by go_num, HL2.out, hown2, hb2⟩
      case measure => simp [intOf]; omega
    · have kc := conv_own (P := Try.prog) Try.underlying61 Try.underlying5 Try.underlying9 hown
      go_wp2_with fail
      go_ret
      exact ⟨ret_string (by rw [HL.out, List.take_of_length_le (by omega)]), hb⟩
/-- 'string([]byte{..})', the bytes laid in the newest block. -/
theorem new_bytes {P : Program} (src dst e : TypeId) (hs : P.underlying src = some (.slice e)) (he : P.underlying e = some (.int .u8)) (hd : P.underlying dst = some .string) (W : World) (xs : List Int) (cs : Array Value) (n : Nat) (hn : xs.length = n) (hcs : cs = (xs.map (Value.int .u8)).toArray) :
    (convert src dst (.slice (some ⟨W.heap.size, 0, none⟩) n n)).run P (W.alloc (.cells cs e)) = .ok (.string (strOfNums xs)) (W.alloc (.cells cs e)) := by
  subst hcs
  refine run_convert_bytes_arg (P := P) (W.alloc (.cells (xs.map (Value.int .u8)).toArray e)) src e hs he W.heap.size 0 n n xs hn (fun i hi => ?_) dst hd
  have h := World.cell?_alloc_mark W (xs.map (Value.int .u8)).toArray e (0, 0) i
  rw [Nat.zero_add, h]
  have hi' : i < xs.length := by omega
  simp [hi', List.getD]
theorem enc_str (r : Int) : (⟨(Lib.encodeRune r).toArray⟩ : ByteArray) = strOfNums (Lib.encodeRuneZ r) := rfl
set_option maxRecDepth 100000 in
set_option maxHeartbeats 2000000 in
theorem oneR_any (r : Int) (w : World) (hv : Vr r) :
    Calls Try.prog 31 #[.int .i32 r] w fun e w' => e = .returned (.string ⟨(Lib.encodeRune r).toArray⟩) ∧ Below w.heap.size w w' := by
  have k1 := fun W x => new_bytes (P := Try.prog) 61 9 5 Try.underlying61 Try.underlying5 Try.underlying9 W [x] #[.int .u8 x] 1 rfl rfl
  have k2 := fun W x y => new_bytes (P := Try.prog) 61 9 5 Try.underlying61 Try.underlying5 Try.underlying9 W [x, y] #[.int .u8 x, .int .u8 y] 2 rfl rfl
  have k3 := fun W x y z => new_bytes (P := Try.prog) 61 9 5 Try.underlying61 Try.underlying5 Try.underlying9 W [x, y, z] #[.int .u8 x, .int .u8 y, .int .u8 z] 3 rfl rfl
  have k4 := fun W x y z v => new_bytes (P := Try.prog) 61 9 5 Try.underlying61 Try.underlying5 Try.underlying9 W [x, y, z, v] #[.int .u8 x, .int .u8 y, .int .u8 z, .int .u8 v] 4 rfl rfl
  have hno := Lib.hid hv.some
  unfold Vr at hv
  obtain ⟨hv0, hv1, hv2⟩ := hv
  go_enter Try.func31, Try.ntmps31
  go_wp2_with fail
  refine (none_any r _).mono ?_
  rintro e w1 ⟨rfl, rfl⟩
  rw [hno.out]
  by_cases h1 : r < 128
  · go_wp2_with fail
    go_ret
    exact ⟨ret_str_of (by rw [enc_str, Lib.encodeRuneZ_one hv0 (by omega)]), (Below.refl _ _).alloc (Nat.le_refl _) _⟩
  by_cases h2 : r < 2048
  · go_wp2_with fail
    go_ret
    exact ⟨ret_str_of (by rw [enc_str, Lib.encodeRuneZ_two (by omega) (by omega)]), (Below.refl _ _).alloc (Nat.le_refl _) _⟩
  by_cases h3 : r < 65536
  · go_wp2_with fail
    go_ret
    exact ⟨ret_str_of (by rw [enc_str, Lib.encodeRuneZ_three (by omega)]), (Below.refl _ _).alloc (Nat.le_refl _) _⟩
  · go_wp2_with fail
    go_ret
    exact ⟨ret_str_of (by rw [enc_str, Lib.encodeRuneZ_four (by omega) hv1]), (Below.refl _ _).alloc (Nat.le_refl _) _⟩
set_option maxRecDepth 100000 in
set_option maxHeartbeats 2000000 in
theorem encodeR_any (A : Option Addr) (n c : Nat) (l : List Int) (w : World) (hn : l.length = n) (hn2 : n ≤ 1000) (hA : Src w A (l.map rv)) (hv : ∀ r ∈ l, Vr r) :
    Calls Try.prog 16 #[.slice A n c] w fun e w' => e = .returned (.string ⟨(encL l).toArray⟩) ∧ Below w.heap.size w w' := by
  subst hn
  go_enter Try.func16, Try.ntmps16
  go_wp2_with fail
  go_loopw [3, 4] (fun v i wr => ∃ (k : Nat) (L : List UInt8), k ≤ l.length ∧ i = .int .i64 k ∧ L = encL (l.take k) ∧ v = .string ⟨L.toArray⟩ ∧ Below w.heap.size w wr) (fun _ i _ => l.length - (intOf i).toNat)
  case atStart => exact ⟨0, [], Nat.zero_le _, rfl, rfl, rfl, Below.refl _ _⟩
  case round =>
    obtain ⟨k, L, hk, rfl, hL, rfl, hb⟩ := hrel
    have HL := Lib.hid hL
    have hLl : L.length ≤ 4000 := by
      have h := encL_len (l.take k)
      rw [← hL, List.length_take] at h
      omega
    clear hL
    by_cases hlt : k < l.length
    · obtain ⟨r, hr⟩ : ∃ r, l[k]? = some r := ⟨_, List.getElem?_eq_getElem hlt⟩
      have hvr := hv r (List.mem_of_getElem? hr)
      obtain ⟨ad, rfl, hc⟩ := (hA.below (by exact hb.mono (Nat.le_refl _) : Below w.heap.size w wr)) (by simp; omega)
      have c0 : wr.cell? (ad.add k) = some (.int .i32 r) := hc k _ (by simp [hr])
      have HL2 := Lib.hid (show L ++ Lib.encodeRune r = encL (l.take (k + 1)) from by rw [take_r hr, encL_snoc, HL.out])
      have hrl := Lib.runeCells_le r
      rw [Lib.runeCells_length] at hrl
      clear hc hr
      go_wp2_with fail
      refine (oneR_any r _ hvr).mono ?_
      rintro e w1 ⟨rfl, hb1⟩
      have hb2 := hb.trans (hb1.mono hb.size)
      have hsz : (⟨(Lib.encodeRune r).toArray⟩ : ByteArray).size ≤ 4 := hrl.2
      have hsz2 : (⟨L.toArray⟩ : ByteArray).size ≤ 4000 := hLl
      go_wp2_with fail
      go_roundw
      case rel => exact ⟨k + 1, _, by omega, by go_num, HL2.out, by rw [ba_append], hb2⟩
      case measure => simp [intOf]; omega
    · go_wp2_with fail
      go_ret
      exact ⟨ret_string (by rw [HL.out, List.take_of_length_le (by omega)]), hb⟩
end Go.Proofs.Ytljjklhkifehaaa
