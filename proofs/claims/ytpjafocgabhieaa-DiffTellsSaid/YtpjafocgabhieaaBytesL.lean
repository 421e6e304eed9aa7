/- Small laws for the walks: byte strings, rows of bytes that the call made, slices that came in. -/
import Derived.Test.YtpjafocgabhieaaProg
import Derived.WalkKit
import Derived.WalkSpells
import Derived.WalkLawsBesides
import Derived.Lib.Hide
import Derived.Laws.BytesArg
import Derived.Laws.IdiomStrings
import Derived.OpenShut
namespace Go.Proofs.Ytpjafocgabhieaa
open Go.RowKit

/-- 'string([]byte{x})', the byte laid in the newest block. -/
theorem one_byte {P : Program} (src dst e : TypeId) (hs : P.underlying src = some (.slice e)) (he : P.underlying e = some (.int .u8)) (hd : P.underlying dst = some .string) (W : World) (x : Int) :
    (convert src dst (.slice (some ⟨W.heap.size, 0, none⟩) 1 1)).run P (W.alloc (.cells #[.int .u8 x] e)) = .ok (.string ⟨#[UInt8.ofNat x.toNat]⟩) (W.alloc (.cells #[.int .u8 x] e)) := by
  have h := run_convert_bytes_arg (P := P) (W.alloc (.cells #[.int .u8 x] e)) src e hs he W.heap.size 0 1 1 [x] rfl (fun i hi => by
    obtain rfl : i = 0 := by omega
    exact cell_one_new W _ _ 0 _ rfl) dst hd
  exact h

theorem ba_append (a b : List UInt8) : (⟨a.toArray⟩ ++ ⟨b.toArray⟩ : ByteArray) = ⟨(a ++ b).toArray⟩ := by
  apply ByteArray.ext
  simp
theorem str_snoc (a l : List UInt8) (x : UInt8) (h : a ++ [x] = l) : Value.string (⟨a.toArray⟩ ++ ⟨#[x]⟩) = .string ⟨l.toArray⟩ := by
  rw [show (⟨#[x]⟩ : ByteArray) = ⟨[x].toArray⟩ from rfl, ba_append, h]
theorem ret_string {a b : List UInt8} (h : a = b) : Ending.returned (.string ⟨a.toArray⟩) = .returned (.string ⟨b.toArray⟩) := by rw [h]
theorem ret_str_of {a b : ByteArray} (h : a = b) : Ending.returned (.string a) = .returned (.string b) := by rw [h]
theorem ba_of (s : ByteArray) : (⟨s.data.toList.toArray⟩ : ByteArray) = s := by cases s; simp

/-- A byte as a cell. -/
def bv (b : UInt8) : Value := .int .u8 (b.toNat : Int)

/-- 'string(b)' of a row of bytes of the call's own. -/
theorem conv_own {P : Program} {w : World} {src dst e : TypeId} {base : Nat} {v : Value} {L : List UInt8} (hs : P.underlying src = some (.slice e)) (he : P.underlying e = some (.int .u8)) (hd : P.underlying dst = some .string)
    (h : w.ownsRow base e 1 v L.length (L.map bv)) : (convert src dst v).run P w = .ok (.string ⟨L.toArray⟩) w := by
  rcases h.2 with ⟨rfl, h0⟩ | ⟨g, cap, cur, rfl, _⟩
  · obtain rfl := List.eq_nil_of_length_eq_zero h0
    exact run_convert_bytes_nil w src e hs he 0 0 dst hd
  · refine run_convert_bytes_back w src dst e _ cap L hs he hd fun j hj => ?_
    exact h.cells (g := g) rfl j _ (by simp [hj, bv])

/-- The slice 'A', n long, reads as f. -/
def Elems (w : World) (A : Option Addr) (n : Nat) (f : Nat → Value) : Prop := 0 < n → ∃ ad, A = some ad ∧ ∀ k, k < n → w.cell? (ad.add k) = some (f k)
theorem Elems.at_ {w : World} {A : Option Addr} {n k : Nat} {f : Nat → Value} (h : Elems w A n f) (hk : k < n) : ∃ ad, A = some ad ∧ w.cell? (ad.add k) = some (f k) := by
  obtain ⟨ad, e, hc⟩ := h (by omega)
  exact ⟨ad, e, hc k hk⟩
theorem Elems.zero (w : World) (A : Option Addr) (f : Nat → Value) : Elems w A 0 f := fun h => absurd h (by omega)
theorem Elems.take {w : World} {A : Option Addr} {n m : Nat} {f : Nat → Value} (h : Elems w A n f) (hm : m ≤ n) : Elems w A m f := fun h0 => by
  obtain ⟨ad, e, hc⟩ := h (by omega)
  exact ⟨ad, e, fun k hk => hc k (by omega)⟩
theorem block_add (a : Addr) (n : Nat) : (a.add n).block = a.block := by unfold Addr.add; split <;> rfl
theorem Elems.below {w w' : World} {A : Option Addr} {n : Nat} {f : Nat → Value} (h : Elems w A n f) (hb : Below w.heap.size w w') : Elems w' A n f := fun h0 => by
  obtain ⟨ad, e, hc⟩ := h h0
  exact ⟨ad, e, fun k hk => (hb.cell (World.block_lt_of_cell? w _ (hc k hk))).trans (hc k hk)⟩
theorem Elems.alloc {w : World} {A : Option Addr} {n : Nat} {f : Nat → Value} (h : Elems w A n f) (o : Obj) : Elems (w.alloc o) A n f := h.below ((Below.refl _ _).alloc (Nat.le_refl _) o)
theorem Elems.drew {w : World} {A : Option Addr} {n : Nat} {f : Nat → Value} (h : Elems w A n f) : Elems w.drew A n f := h
/-- The slice 'A' reads as the numbers xs. -/
def Ints (w : World) (A : Option Addr) (xs : List Int) : Prop := Elems w A xs.length fun k => .int .i64 (xs.getD k 0)
/-- Numbers of 64 bits. -/
def Fit (xs : List Int) : Prop := ∀ n ∈ xs, -9223372036854775808 ≤ n ∧ n ≤ 9223372036854775807
theorem Ints.take {w : World} {A : Option Addr} {xs : List Int} (h : Ints w A xs) (m : Nat) : Ints w A (xs.take m) := fun h0 => by
  simp only [List.length_take] at h0
  obtain ⟨ad, e, hc⟩ := h (by omega)
  refine ⟨ad, e, fun k hk => ?_⟩
  simp only [List.length_take] at hk
  rw [hc k (by omega)]
  simp [List.getD, show k < m by omega]
theorem Fit.take {xs : List Int} (h : Fit xs) (m : Nat) : Fit (xs.take m) := fun n hn => h n (List.mem_of_mem_take hn)
theorem later {a b c : World} (h : Below a.heap.size a b) (k : Below b.heap.size b c) : Below a.heap.size a c := h.trans (k.mono h.size)
theorem later_alloc {a b : World} (o : Obj) (h : Below (a.alloc o).heap.size (a.alloc o) b) : Below a.heap.size a b := later ((Below.refl _ _).alloc (Nat.le_refl _) o) h
/-- A new block of numbers. -/
theorem Ints.new (w : World) (xs : List Int) (t : TypeId) : Ints (w.alloc (.cells (xs.map (Value.int .i64)).toArray t)) (some ⟨w.heap.size, 0, none⟩) xs := fun _ =>
  ⟨_, rfl, fun k hk => by
    have hk' : k < xs.length := hk
    have h := World.cell?_alloc_mark w (xs.map (Value.int .i64)).toArray t (0, 0) k
    rw [show ((⟨w.heap.size, 0, none⟩ : Addr).add k) = ⟨w.heap.size, k, none⟩ from by unfold Addr.add; split <;> simp_all]
    rw [h]
    simp [hk', List.getD]⟩
/-- A slice of integers as the row's frame hands it over. -/
theorem row_ints {w : World} {a : Option Addr} {len cap : Nat} {zs : List Int}
    (h : (a = none ∧ len = 0 ∧ cap = 0 ∧ zs = []) ∨
      ∃ x, a = some x ∧ len ≤ cap ∧ cap ≤ maxLen ∧ zs.length = cap ∧ (∀ i, i < zs.length → w.cell? (x.add i) = some (.int .i64 (zs.getD i 0))) ∧ ∀ n ∈ zs, (Lit.int .i64 n).wf = true) :
    ∃ xs : List Int, xs.length = len ∧ len ≤ cap ∧ cap ≤ maxLen ∧ Ints w a xs ∧ Fit xs := by
  rcases h with ⟨rfl, rfl, rfl, rfl⟩ | ⟨x, rfl, hl, hm, hz, hc, hw⟩
  · exact ⟨[], rfl, Nat.le_refl _, Nat.zero_le _, Elems.zero _ _ _, fun n hn => by cases hn⟩
  · refine ⟨zs.take len, by rw [List.length_take]; omega, hl, hm, Ints.take (fun _ => ⟨x, rfl, hc⟩) len, Fit.take (fun n hn => ?_) len⟩
    have := bounds_i64 (hw n hn)
    omega
/-- A text cut. -/
def cutB (s : ByteArray) (n : Nat) : ByteArray := ⟨(s.data.toList.take n).toArray⟩
theorem cutB_size (s : ByteArray) (n : Nat) : (cutB s n).size = min n s.size := by
  show (s.data.toList.take n).toArray.size = _
  rw [List.size_toArray, List.length_take]
  rfl
theorem cutB_all {s : ByteArray} {n : Nat} (h : s.size ≤ n) : cutB s n = s := by
  unfold cutB
  rw [List.take_of_length_le (show s.data.toList.length ≤ n from h), ba_of]
theorem cutB_some (s : ByteArray) (n : Nat) : cutB s n = s.extract 0 n := by
  apply ByteArray.ext
  apply Array.ext'
  simp [cutB]
end Go.Proofs.Ytpjafocgabhieaa
