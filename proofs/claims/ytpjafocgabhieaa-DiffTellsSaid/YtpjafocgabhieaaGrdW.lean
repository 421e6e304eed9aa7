/- grid.cut, whole: walked (for DiffTells). -/
import Derived.Test.YtpjafocgabhieaaGrdC
namespace Go.Proofs.Ytpjafocgabhieaa
open Go.RowKit Go.Sort
theorem cut_facts {wn hn n y : Nat} (hw : 1 ≤ wn) (hw2 : wn ≤ 200) (hh : hn ≤ 60) (hn' : n = wn * hn) (hy : y < hn) :
    ∃ yw ye : Nat, yw = y * wn ∧ ye = yw + wn ∧ ye ≤ n ∧ n ≤ 12000 ∧ wrap64 ((y : Int) * (wn : Int)) = (yw : Int) ∧ wrap64 (((y + 1 : Nat) : Int) * (wn : Int)) = (ye : Int) ∧ wrap64 ((y : Int) + 1) = ((y + 1 : Nat) : Int) ∧ wrap64 (((y : Int) + 1) * (wn : Int)) = (ye : Int) := by
  obtain ⟨yw, ye, h1, h2, h3, h4, h5, h6, _⟩ := row_facts hw hw2 hh hn' hy
  have h7 : ((y + 1 : Nat) : Int) * (wn : Int) = (ye : Int) := by
    rw [← Int.natCast_mul, h2, h1, Nat.succ_mul]
  have h8 : wrap64 (ye : Int) = (ye : Int) := by
    clear h5 h6 h7 h1 hn'
    unfold wrap64
    omega
  have h9 : wrap64 ((y : Int) + 1) = ((y + 1 : Nat) : Int) := by
    clear h5 h6 h7 h8 h1 hn'
    unfold wrap64
    omega
  exact ⟨yw, ye, h1, h2, h3, h4, h5, by rw [h7, h8], h9, by rw [show ((y : Int) + 1) = ((y + 1 : Nat) : Int) from rfl, h7, h8]⟩
set_option maxRecDepth 100000 in
set_option maxHeartbeats 4000000 in
theorem cut_gen (ad : Addr) (n c wn hn y : Nat) (w : World) (hw : 1 ≤ wn) (hw2 : wn ≤ 200) (hh : hn ≤ 60) (hnw : n = wn * hn) (hy : y < hn) (hnc : n ≤ c) :
    Calls Try.prog 46 #[grv wn hn (some ad) n c, .int .i64 (y : Nat)] w fun e w' => e = .returned (.slice (some (ad.add (y * wn * 4))) wn wn) ∧ Below w.heap.size w w' := by
  obtain ⟨yw, ye, hyw, hye, hle, hn12, f1, f2, f3, f4⟩ := cut_facts hw hw2 hh hnw hy
  rw [← hyw]
  have s0 : yw ≤ ye := by rw [hye]; exact Nat.le_add_right _ _
  have s1 : ye ≤ c := Nat.le_trans hle hnc
  have s7 : ¬ ye = yw := by
    clear f1 f2 f3 f4 hyw hnw
    omega
  have Hx := Lib.hid (show ye - yw = wn by
    clear f1 f2 f3 f4 hyw hnw
    omega)
  have s2 : (yw : Int) ≤ (ye : Int) := by
    clear f1 f2 f3 f4 hyw hnw
    omega
  have s3 : (ye : Int) ≤ (c : Int) := by
    clear f1 f2 f3 f4 hyw hnw
    omega
  have s4 : decide ((yw : Int) ≤ (ye : Int)) = true := decide_eq_true s2
  have s5 : decide ((ye : Int) ≤ (c : Int)) = true := decide_eq_true s3
  have hb0 := (Below.refl w.heap.size w).alloc (Nat.le_refl _) (.cells #[.int .i64 (wn : Int), .int .i64 (hn : Int), .slice (some ad) n c] 32)
  clear hnw hyw hye hle hnc hy
  go_enter Try.func46, Try.ntmps46
  go_wp2_with fail
  rw [Hx.out]
  go_ret
  exact ⟨rfl, hb0⟩
end Go.Proofs.Ytpjafocgabhieaa
