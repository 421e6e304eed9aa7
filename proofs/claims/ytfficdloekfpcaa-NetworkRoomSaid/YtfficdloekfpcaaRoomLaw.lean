/- The packets under way as a plain list: how many go from one node to another one, and their sum. -/
import Derived.Test.YtfficdloekfpcaaMapL
namespace Go.Proofs.Ytfficdloekfpcaa
def isWay (a c : Int) (p : Int × Int × ByteArray) : Bool := decide (p.1 = a ∧ p.2.1 = c)
def cntW (ps : List (Int × Int × ByteArray)) (a c : Int) : Nat := ps.countP (isWay a c)
/-- What holds of the packets under way, and of the numbers between. -/
structure InvW (ps : List (Int × Int × ByteArray)) (f : Int → Int → Int) (most : Int) : Prop where
  ok : ∀ p ∈ ps, 0 ≤ p.1 ∧ p.1 < 4 ∧ 0 ≤ p.2.1 ∧ p.2.1 < 4 ∧ p.1 ≠ p.2.1 ∧ p.2.2.size ≤ 4100
  cnt : ∀ a c, f a c = cntW ps a c
  most : ∀ a c, f a c ≤ most
theorem InvW.nil {most : Int} (h : 0 ≤ most) : InvW [] (fun _ _ => 0) most := ⟨(fun p hp => by cases hp), (fun a c => rfl), fun a c => h⟩
section
variable {ps : List (Int × Int × ByteArray)} {f : Int → Int → Int} {most : Int}
theorem InvW.pos (h : InvW ps f most) (a c : Int) : 0 ≤ f a c := by rw [h.cnt]; omega
theorem InvW.le (h : InvW ps f most) (a c : Int) : f a c ≤ ps.length := by
  rw [h.cnt]
  have := List.countP_le_length (p := isWay a c) (l := ps)
  unfold cntW
  omega
theorem InvW.diag (h : InvW ps f most) (a : Int) : f a a = 0 := by
  rw [h.cnt]
  unfold cntW
  rw [List.countP_eq_zero.2]
  · rfl
  · intro p hp hq
    have := h.ok p hp
    simp [isWay] at hq
    omega
theorem isWay_self (a c : Int) (s : ByteArray) : isWay a c (a, c, s) = true := by simp [isWay]
theorem isWay_other {a c a' c' : Int} (s : ByteArray) (h : ¬ (a' = a ∧ c' = c)) : isWay a' c' (a, c, s) = false := by
  simp only [isWay, decide_eq_false_iff_not]
  omega
theorem InvW.send (h : InvW ps f most) {a c : Int} {s : ByteArray} (ha : 0 ≤ a ∧ a < 4) (hc : 0 ≤ c ∧ c < 4) (hac : a ≠ c) (hs : s.size ≤ 4100) (hm : f a c < most) : InvW (ps ++ [(a, c, s)]) (setF f a c (f a c + 1)) most := by
  refine ⟨fun p hp => ?_, fun a' c' => ?_, fun a' c' => ?_⟩
  · rcases List.mem_append.1 hp with hp | hp
    · exact h.ok p hp
    · obtain rfl := List.mem_singleton.1 hp
      exact ⟨ha.1, ha.2, hc.1, hc.2, hac, hs⟩
  · unfold setF cntW
    rw [List.countP_append]
    have e := h.cnt a' c'
    unfold cntW at e
    split
    · rename_i hh
      obtain ⟨rfl, rfl⟩ := hh
      rw [List.countP_singleton, isWay_self, e]
      simp
    · rename_i hh
      rw [List.countP_singleton, isWay_other s hh, e]
      simp
  · unfold setF
    split
    · omega
    · exact h.most a' c'
theorem InvW.take (h : InvW ps f most) {i : Nat} {a c : Int} {s : ByteArray} (hi : ps[i]? = some (a, c, s)) : InvW (ps.eraseIdx i) (setF f a c (f a c - 1)) most := by
  have hlt := (List.getElem?_eq_some_iff.1 hi).1
  have hg := (List.getElem?_eq_some_iff.1 hi).2
  have hsplit : ps = ps.take i ++ (a, c, s) :: ps.drop (i + 1) := by
    rw [← hg, ← List.drop_eq_getElem_cons hlt, List.take_append_drop]
  have hcnt : ∀ a' c', cntW ps a' c' = cntW (ps.eraseIdx i) a' c' + if isWay a' c' (a, c, s) then 1 else 0 := fun a' c' => by
    unfold cntW
    rw [List.eraseIdx_eq_take_drop_succ]
    conv => lhs; rw [hsplit]
    rw [List.countP_append, List.countP_append, List.countP_cons]
    omega
  refine ⟨fun p hp => h.ok p (List.mem_of_mem_eraseIdx hp), fun a' c' => ?_, fun a' c' => ?_⟩
  · have e := h.cnt a' c'
    rw [hcnt a' c'] at e
    unfold setF
    split
    · rename_i hh
      obtain ⟨rfl, rfl⟩ := hh
      rw [isWay_self] at e
      simp at e
      omega
    · rename_i hh
      rw [isWay_other s hh] at e
      simp at e
      omega
  · unfold setF
    split
    · have := h.most a c
      omega
    · exact h.most a' c'
/-- The sum of the first n of the sixteen numbers between. -/
def sumTo (f : Int → Int → Int) : Nat → Int
  | 0 => 0
  | n + 1 => sumTo f n + f (n / 4 : Nat) (n % 4 : Nat)
theorem sumTo_le (f : Int → Int → Int) (B : Int) (h : ∀ a c, 0 ≤ f a c ∧ f a c ≤ B) : ∀ n : Nat, 0 ≤ sumTo f n ∧ sumTo f n ≤ n * B
  | 0 => by simp [sumTo]
  | n + 1 => by
    have h1 := sumTo_le f B h n
    have h2 := h (n / 4 : Nat) (n % 4 : Nat)
    have h3 : ((n + 1 : Nat) : Int) * B = n * B + B := by
      rw [Int.natCast_add, Int.add_mul]
      simp
    unfold sumTo
    omega
theorem sumTo_add (f g : Int → Int → Int) : ∀ n, sumTo (fun a c => f a c + g a c) n = sumTo f n + sumTo g n
  | 0 => rfl
  | n + 1 => by
    unfold sumTo
    rw [sumTo_add f g n]
    omega
theorem sumTo_one (a c : Nat) (s : ByteArray) (ha : a < 4) (hc : c < 4) : sumTo (fun a' c' => if isWay a' c' ((a : Int), (c : Int), s) then 1 else 0) 16 = 1 := by
  rcases (show a = 0 ∨ a = 1 ∨ a = 2 ∨ a = 3 by omega) with rfl | rfl | rfl | rfl <;> rcases (show c = 0 ∨ c = 1 ∨ c = 2 ∨ c = 3 by omega) with rfl | rfl | rfl | rfl <;> simp [sumTo, isWay]
theorem sum_cnt : ∀ (ps : List (Int × Int × ByteArray)), (∀ p ∈ ps, 0 ≤ p.1 ∧ p.1 < 4 ∧ 0 ≤ p.2.1 ∧ p.2.1 < 4) → sumTo (fun a c => (cntW ps a c : Int)) 16 = ps.length
  | [], _ => by simp [sumTo, cntW]
  | (a, c, s) :: ps, h => by
    have h1 := sum_cnt ps (fun p hp => h p (List.mem_cons_of_mem _ hp))
    obtain ⟨h2, h3, h4, h5⟩ := h _ List.mem_cons_self
    simp only at h2 h3 h4 h5
    obtain ⟨a', rfl⟩ := Int.eq_ofNat_of_zero_le h2
    obtain ⟨c', rfl⟩ := Int.eq_ofNat_of_zero_le h4
    have h6 := sumTo_one a' c' s (by omega) (by omega)
    have e : (fun a c => (cntW (((a' : Int), (c' : Int), s) :: ps) a c : Int)) = fun a c => (cntW ps a c : Int) + if isWay a c ((a' : Int), (c' : Int), s) then 1 else 0 := by
      funext a c
      unfold cntW
      rw [List.countP_cons]
      split <;> simp
    rw [e, sumTo_add, h1, h6]
    simp
theorem InvW.sum (h : InvW ps f most) : sumTo f 16 = ps.length := by
  have e : f = fun a c => (cntW ps a c : Int) := by
    funext a c
    exact h.cnt a c
  rw [e]
  exact sum_cnt ps fun p hp => by
    have := h.ok p hp
    exact ⟨this.1, this.2.1, this.2.2.1, this.2.2.2.1⟩
end
end Go.Proofs.Ytfficdloekfpcaa
