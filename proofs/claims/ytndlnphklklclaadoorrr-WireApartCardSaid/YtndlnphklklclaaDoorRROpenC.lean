/- What was wrapped is opened: the plain law. -/
import Derived.Test.YtndlnphklklclaaDoorRRWrapC
namespace Go.Proofs.YtndlnphklklclaaDoorRR
open Go.RowKit Crc
theorem ext_left (a b : ByteArray) : (a ++ b).extract 0 a.size = a := by
  apply ByteArray.ext
  simp
theorem ext_right (a b : ByteArray) : (a ++ b).extract a.size (a.size + b.size) = b := by
  apply ByteArray.ext
  have h1 : a.data.extract a.size (a.size + b.size) = #[] := Array.extract_eq_empty_of_le (by show min _ a.data.size ≤ a.data.size; omega)
  have h2 : b.data.extract 0 b.size = b.data := Array.extract_eq_self_of_le (Nat.le_refl _)
  simp [h1, h2]
theorem sumB_size (n : Nat) : (sumB n).size = 4 := rfl
theorem open_wrap (a : ByteArray) (h : a.size ≤ 4096) : openP (a ++ sumB (crc a.data.toList)) = (a, 0) := by
  have hs : (a ++ sumB (crc a.data.toList)).size = a.size + 4 := by rw [ByteArray.size_append, sumB_size]
  have h1 := ext_left a (sumB (crc a.data.toList))
  have h2 := ext_right a (sumB (crc a.data.toList))
  rw [sumB_size] at h2
  unfold openP
  rw [hs, show a.size + 4 - 4 = a.size from by omega, h1, h2, if_neg (by omega), if_neg (by omega), if_pos rfl]
theorem wrap_open (a : ByteArray) (h : a.size ≤ 4096) : ∃ W : ByteArray, W = a ++ sumB (crc a.data.toList) ∧ W.size = a.size + 4 ∧ openP W = (a, 0) ∧ ∀ w, Calls Tryd.prog 17 #[.string a] w fun e w' => e = .returned (.tuple #[.string W, .nilIface]) ∧ Below w.heap.size w w' :=
  ⟨_, rfl, by rw [ByteArray.size_append, sumB_size], open_wrap a h, fun w => wrap_any a w h⟩
theorem open_at (s : ByteArray) (w : World) (h : s.size ≤ maxLen) (x : ByteArray) (c : Int) (v : Value) (hp : openP s = (x, c)) (hv : errV c = v) : Calls Tryd.prog 9 #[.string s] w fun e w' => e = .returned (.tuple #[.string x, v]) ∧ Below w.heap.size w w' := by
  have := open_any s w h
  rw [hp] at this
  subst hv
  exact this
theorem errV0 : errV 0 = .nilIface := rfl
theorem errV11 : errV 11 = .iface 32 (.int .i64 11) := rfl
end Go.Proofs.YtndlnphklklclaaDoorRR
