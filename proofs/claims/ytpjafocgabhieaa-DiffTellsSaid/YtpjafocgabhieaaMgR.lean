/- The document's Blank and Make: walked (for DiffTells). -/
import Derived.Test.YtpjafocgabhieaaGrdR
import Derived.Test.YtpjafocgabhieaaRefC
import Derived.Test.YtpjafocgabhieaaSrcL2
import Derived.Test.YtpjafocgabhieaaRefD
import Derived.Test.YtpjafocgabhieaaRefE
import Derived.Test.YtpjafocgabhieaaGrdC
import Derived.Deep.OwnRows
namespace Go.Proofs.Ytpjafocgabhieaa
open Go.RowKit Go.Sort
theorem news_all (w : World) (cs : Array Value) (t : TypeId) : ∀ j u, cs.toList[j]? = some u → (w.alloc (.cells cs t)).cell? ((⟨w.heap.size, 0, none⟩ : Addr).add j) = some u := fun j u hj => by
  have h := World.cell?_alloc_mark w cs t (0, 0) j
  rw [show ((⟨w.heap.size, 0, none⟩ : Addr).add j) = ⟨w.heap.size, j, none⟩ from by unfold Addr.add; split <;> simp_all]
  rw [h]
  simpa using hj
/-- A row that was just made of its cells. -/
theorem RowS.new {l : List Cl} (hok : OkL l) (h1 : 1 ≤ l.length) (hm : l.length ≤ 1000000) (w : World) (cs : Array Value) (t : TypeId) (hc : cs.toList = rowV l) : RowS (w.alloc (.cells cs t)) (some ⟨w.heap.size, 0, none⟩) l.length l.length l :=
  ⟨rfl, Nat.le_refl _, by unfold maxLen; omega, fun _ => ⟨_, rfl, Cels.of_src hok (by rw [← hc]; exact news_all w cs t)⟩, fun e => by cases e⟩
theorem RowS.none (w : World) : RowS w none 0 0 [] := ⟨rfl, Nat.le_refl _, Nat.zero_le _, fun h => by simp at h, fun _ => rfl⟩
def blankC : Cl := ⟨32, 0, 0, 0⟩
/-- A character's cells. -/
def makeP (r : Int) (p : Cl) : List Cl := if wid r = 1 then [⟨r, p.f, p.b, p.x⟩] else if wid r = 2 then [⟨r, p.f, p.b, p.x + 64⟩, ⟨0, p.f, p.b, p.x + 128⟩] else []
set_option maxRecDepth 100000 in
set_option maxHeartbeats 2000000 in
theorem blankR_gen (w : World) : Calls Try.prog 37 #[] w fun e w' => e = .returned (.agg blankC.a) ∧ Below w.heap.size w w' := by
  go_enter Try.func37, Try.ntmps37
  go_wp2_with fail
  refine bodyPost_ret (v := .agg blankC.a) ?_ rfl ⟨rfl, (Below.refl _ _).alloc (Nat.le_refl _) _⟩
  have h := (Blk.new w 55 #[.int .i32 32, .int .u8 0, .int .u8 0, .int .u8 0])
  have c0 : (w.alloc (.cells #[.int .i32 32, .int .u8 0, .int .u8 0, .int .u8 0] 55)).cell? ⟨w.heap.size, 0, none⟩ = some (.int .i32 32) := h.cell 0
  have c1 : (w.alloc (.cells #[.int .i32 32, .int .u8 0, .int .u8 0, .int .u8 0] 55)).cell? ⟨w.heap.size, 1, none⟩ = some (.int .u8 0) := h.cell 1
  have c2 : (w.alloc (.cells #[.int .i32 32, .int .u8 0, .int .u8 0, .int .u8 0] 55)).cell? ⟨w.heap.size, 2, none⟩ = some (.int .u8 0) := h.cell 2
  have c3 : (w.alloc (.cells #[.int .i32 32, .int .u8 0, .int .u8 0, .int .u8 0] 55)).cell? ⟨w.heap.size, 3, none⟩ = some (.int .u8 0) := h.cell 3
  simp [results, Try.results37, go_sem, c0, c1, c2, c3]
  exact ⟨rfl, rfl, rfl, rfl⟩
abbrev HeldM (m : Nat) (r f b x : Int) (w0 w : World) : Prop :=
  w.cell? ⟨m, 0, none⟩ = some (.int .i32 r) ∧ w.cell? ⟨m, 1, none⟩ = some (.int .u8 f) ∧ w.cell? ⟨m, 2, none⟩ = some (.int .u8 b) ∧ w.cell? ⟨m, 3, none⟩ = some (.int .u8 x) ∧ Below w0.heap.size w0 w ∧ w0.heap.size ≤ w.heap.size
theorem HeldM.keep {m : Nat} {r f b x : Int} {w0 w w' : World} (h : HeldM m r f b x w0 w) (hb : Below w.heap.size w w') : HeldM m r f b x w0 w' := by
  obtain ⟨h0, h1, h2, h3, hB, hS⟩ := h
  exact ⟨keepc hb h0, keepc hb h1, keepc hb h2, keepc hb h3, hB.trans (hb.mono hS), Nat.le_trans hS hb.size⟩
set_option maxRecDepth 100000 in
set_option maxHeartbeats 4000000 in
theorem makeR_gen (r : Int) (p : Cl) (w : World) (hr0 : -2147483648 ≤ r) (hr1 : r ≤ 2147483647) (hp : OkC p) (hx : p.x < 64) :
    Calls Try.prog 33 #[.int .i32 r, .agg p.a] w fun e w' => ∃ A c', e = .returned (.slice A (makeP r p).length c') ∧ RowS w' A (makeP r p).length c' (makeP r p) ∧ Below w.heap.size w w' := by
  obtain ⟨pr, f, b, x⟩ := p
  have hok1 : OkC ⟨r, f, b, x⟩ := ⟨hr0, hr1, hp.f, hp.b, hp.x⟩
  have hx' : x < 64 := hx
  obtain ⟨y, hy⟩ : ∃ y, y = x + 64 := ⟨_, rfl⟩
  have hok2 : OkC ⟨r, f, b, y⟩ := ⟨hr0, hr1, hp.f, hp.b, by simp only; omega⟩
  have hok3 : OkC ⟨0, f, b, x + 128⟩ := ⟨by simp only; omega, by simp only; omega, hp.f, hp.b, by simp only; omega⟩
  have m1 : (x : Int) % 64 = (x : Int) := by omega
  have m2 : Int.tmod (x : Int) 64 = (x : Int) := by rw [Int.tmod_eq_emod_of_nonneg (by omega)]; exact m1
  have m3 : ((x : Int) + 64) % 256 = (y : Int) := by omega
  have ht : tlC ⟨r, f, b, y⟩ = ⟨0, f, b, x + 128⟩ := by
    unfold tlC
    simp only [Cl.mk.injEq, true_and]
    omega
  have HT := Lib.hid ht
  have HY := Lib.hid hy
  clear hx ht hy
  have hb0 := ((Below.refl w.heap.size w).alloc (Nat.le_refl _) (.cells #[.int .i32 pr, .int .u8 (f : Int), .int .u8 (b : Int), .int .u8 (x : Int)] 55)).alloc (by simp) (.cells #[.int .i32 r, .int .u8 (f : Int), .int .u8 (b : Int), .int .u8 (x : Int)] 55)
  have hP := Blk.new w 55 #[.int .i32 pr, .int .u8 (f : Int), .int .u8 (b : Int), .int .u8 (x : Int)]
  have q1 : (w.alloc (.cells #[.int .i32 pr, .int .u8 (f : Int), .int .u8 (b : Int), .int .u8 (x : Int)] 55)).cell? ⟨w.heap.size, 1, none⟩ = some (.int .u8 (f : Int)) := hP.cell 1
  have q2 : (w.alloc (.cells #[.int .i32 pr, .int .u8 (f : Int), .int .u8 (b : Int), .int .u8 (x : Int)] 55)).cell? ⟨w.heap.size, 2, none⟩ = some (.int .u8 (b : Int)) := hP.cell 2
  have q3 : (w.alloc (.cells #[.int .i32 pr, .int .u8 (f : Int), .int .u8 (b : Int), .int .u8 (x : Int)] 55)).cell? ⟨w.heap.size, 3, none⟩ = some (.int .u8 (x : Int)) := hP.cell 3
  have hB := Blk.new (w.alloc (.cells #[.int .i32 pr, .int .u8 (f : Int), .int .u8 (b : Int), .int .u8 (x : Int)] 55)) 55 #[.int .i32 r, .int .u8 (f : Int), .int .u8 (b : Int), .int .u8 (x : Int)]
  rw [World.size_alloc] at hB
  go_enter Try.func33, Try.ntmps33
  go_wp2_with fail
  refine (widthR_any _ _ hr0 hr1).mono ?_
  rintro e w3 ⟨rfl, rfl⟩
  go_upto_region 3 with fail
  clear q1 q2 q3 hP
  generalize (w.alloc (.cells #[.int .i32 pr, .int .u8 (f : Int), .int .u8 (b : Int), .int .u8 (x : Int)] 55)).alloc (.cells #[.int .i32 r, .int .u8 (f : Int), .int .u8 (b : Int), .int .u8 (x : Int)] 55) = w3 at hB hb0 ⊢
  have c0 : w3.cell? ⟨w.heap.size + 1, 0, none⟩ = some (.int .i32 r) := hB.cell 0
  have c1 : w3.cell? ⟨w.heap.size + 1, 1, none⟩ = some (.int .u8 (f : Int)) := hB.cell 1
  have c2 : w3.cell? ⟨w.heap.size + 1, 2, none⟩ = some (.int .u8 (b : Int)) := hB.cell 2
  have c3 : w3.cell? ⟨w.heap.size + 1, 3, none⟩ = some (.int .u8 (x : Int)) := hB.cell 3
  have f3 : w3.frozen? ⟨w.heap.size + 1, 3, none⟩ = false := hB.free 3
  have hz : w.heap.size + 1 < w3.heap.size := hB.lt
  have hwl := wid_le r
  rcases (show wid r = 0 ∨ wid r = 1 ∨ wid r = 2 by omega) with hw | hw | hw
  · have HW := Lib.hid (show makeP r ⟨pr, f, b, x⟩ = [] by unfold makeP; rw [if_neg (by omega), if_neg (by omega)])
    rw [hw]
    clear hw
    go_wp2_with fail
    go_ret
    refine ⟨none, 0, ?_, ?_, hb0⟩
    · rw [HW.out]
      rfl
    · rw [HW.out]
      exact RowS.none _
  · have HW := Lib.hid (show makeP r ⟨pr, f, b, x⟩ = [⟨r, f, b, x⟩] by unfold makeP; rw [if_pos hw])
    rw [hw]
    clear hw
    go_wp2_with fail
    go_ret
    refine ⟨some ⟨w3.heap.size, 0, none⟩, 1, ?_, ?_, hb0.alloc hb0.size _⟩
    · rw [HW.out]
      rfl
    · rw [HW.out]
      exact RowS.new (l := [⟨r, f, b, x⟩]) (fun c hc => by rw [List.mem_singleton.1 hc]; exact hok1) (by simp) (by simp) w3 _ _ rfl
  · have HW := Lib.hid (show makeP r ⟨pr, f, b, x⟩ = [⟨r, f, b, y⟩, ⟨0, f, b, x + 128⟩] by unfold makeP; rw [if_neg (by omega), if_pos hw, HY.out])
    rw [hw]
    clear hw
    have hB4 := hB.set 3 (.int .u8 (y : Int))
    have hb4 := hb0.setCell (p := ⟨w.heap.size + 1, 3, none⟩) (by simp) (.int .u8 (y : Int))
    clear hB
    go_upto_region 7 with fail
    rw [show ((x : Int) + 64) = (y : Int) by rw [HY.out]; rfl]
    generalize w3.setCell ⟨w.heap.size + 1, 3, none⟩ (.int .u8 (y : Int)) = w4 at hB4 hb4 ⊢
    have hS : HeldM (w.heap.size + 1) r f b y w w4.drew := ⟨hB4.cell 0, hB4.cell 1, hB4.cell 2, hB4.cell 3, hb4.drew, hb4.size⟩
    have htl := fun W => tailOfR_gen ⟨r, f, b, y⟩ W
    rw [HT.out] at htl
    clear hB4 hb4 c0 c1 c2 c3 f3 hb0 hz
    go_region_held3 (fun w' => w'.cell? ⟨w.heap.size + 1, 0, none⟩ = some (.int .i32 r) ∧ w'.cell? ⟨w.heap.size + 1, 1, none⟩ = some (.int .u8 (f : Int)) ∧ w'.cell? ⟨w.heap.size + 1, 2, none⟩ = some (.int .u8 (b : Int)) ∧ w'.cell? ⟨w.heap.size + 1, 3, none⟩ = some (.int .u8 (y : Int)) ∧ Below w.heap.size w w' ∧ w.heap.size ≤ w'.heap.size) (first | exact hS | exact hq | exact hq2) (first
      | (go_at_call 54; refine (htl _).mono ?_; rintro e w5 ⟨rfl, hb5⟩; have hq := HeldM.keep (by assumption) hb5; have hq2 := HeldM.keep hq ((Below.refl _ _).alloc (Nat.le_refl _) (.cells #[.int .i32 r, .int .u8 (f : Int), .int .u8 (b : Int), .int .u8 (y : Int), .int .i32 0, .int .u8 (f : Int), .int .u8 (b : Int), .int .u8 ((x + 128 : Nat) : Int)] 55))))
    go_wp2_with fail
    go_ret
    refine ⟨some ⟨w5.heap.size, 0, none⟩, 2, ?_, ?_, hq2.2.2.2.2.1⟩
    · rw [HW.out]
      rfl
    · rw [HW.out]
      exact RowS.new (l := [⟨r, f, b, y⟩, ⟨0, f, b, x + 128⟩]) (fun c hc => by
        simp only [List.mem_cons, List.not_mem_nil, or_false] at hc
        rcases hc with rfl | rfl
        · exact hok2
        · exact hok3) (by simp) (by simp) w5 _ _ rfl
end Go.Proofs.Ytpjafocgabhieaa

/- lyceumlaw16.cells: walked (for DiffTells). -/
namespace Go.Proofs.Ytpjafocgabhieaa
open Go.RowKit Go.Sort
theorem and_low (x M : Int) (m : Nat) (hM : M = (m : Nat)) (hm : m < 9223372036854775808) : ∃ k : Nat, k ≤ m ∧ bits .and .i64 x M = (k : Nat) := by
  subst hM
  have hle : (BitVec.ofInt 64 x &&& BitVec.ofInt 64 (m : Nat)).toNat ≤ m := by
    rw [BitVec.toNat_and]
    have h : (BitVec.ofInt 64 (m : Nat)).toNat = m := by
      rw [BitVec.toNat_ofInt]
      omega
    rw [h]
    exact Nat.and_le_right
  refine ⟨(BitVec.ofInt 64 x &&& BitVec.ofInt 64 (m : Nat)).toNat, hle, ?_⟩
  show IntKind.i64.wrap ((BitVec.ofInt 64 x &&& BitVec.ofInt 64 (m : Nat)).toNat : Int) = _
  rw [IntKind.wrap_i64]
  omega
abbrev charsA : Array Value := #[.int .i32 32, .int .i32 32, .int .i32 97, .int .i32 98, .int .i32 19968, .int .i32 19969, .int .i32 99, .int .i32 32, .int .i32 8364, .int .i32 128512, .int .i32 120, .int .i32 97, .int .i32 100, .int .i32 32, .int .i32 12354, .int .i32 35]
def charsL : List Int := [32, 32, 97, 98, 19968, 19969, 99, 32, 8364, 128512, 120, 97, 100, 32, 12354, 35]
theorem chars_at : ∀ k : Nat, k ≤ 15 → ∃ r, charsA.toList[k]? = some (.int .i32 r) ∧ charsL.getD k 0 = r ∧ -2147483648 ≤ r ∧ r ≤ 2147483647
  | 0, _ => ⟨_, rfl, rfl, by omega, by omega⟩
  | 1, _ => ⟨_, rfl, rfl, by omega, by omega⟩
  | 2, _ => ⟨_, rfl, rfl, by omega, by omega⟩
  | 3, _ => ⟨_, rfl, rfl, by omega, by omega⟩
  | 4, _ => ⟨_, rfl, rfl, by omega, by omega⟩
  | 5, _ => ⟨_, rfl, rfl, by omega, by omega⟩
  | 6, _ => ⟨_, rfl, rfl, by omega, by omega⟩
  | 7, _ => ⟨_, rfl, rfl, by omega, by omega⟩
  | 8, _ => ⟨_, rfl, rfl, by omega, by omega⟩
  | 9, _ => ⟨_, rfl, rfl, by omega, by omega⟩
  | 10, _ => ⟨_, rfl, rfl, by omega, by omega⟩
  | 11, _ => ⟨_, rfl, rfl, by omega, by omega⟩
  | 12, _ => ⟨_, rfl, rfl, by omega, by omega⟩
  | 13, _ => ⟨_, rfl, rfl, by omega, by omega⟩
  | 14, _ => ⟨_, rfl, rfl, by omega, by omega⟩
  | 15, _ => ⟨_, rfl, rfl, by omega, by omega⟩
  | n + 16, h => by omega
/-- The cells of a character by a number. -/
def numP (z : Int) : List Cl := makeP (charsL.getD (bits .and .i64 z 15).toNat 0) ⟨0, (bits .and .i64 (z / 16) 3).toNat, 0, (bits .and .i64 (z / 64) 1).toNat⟩
def numsP (xs : List Int) : List Cl := xs.flatMap numP
def cellsP (xs : List Int) : List Cl := numsP (xs.take 80)
theorem makeP_len (r : Int) (p : Cl) : (makeP r p).length ≤ 2 := by
  unfold makeP
  split
  · simp
  · split <;> simp
theorem makeP_ok {r : Int} {p : Cl} (hr0 : -2147483648 ≤ r) (hr1 : r ≤ 2147483647) (hp : OkC p) (hx : p.x < 64) : OkL (makeP r p) := fun c hc => by
  unfold makeP at hc
  split at hc
  · rw [List.mem_singleton.1 hc]
    exact ⟨hr0, hr1, hp.f, hp.b, hp.x⟩
  · split at hc
    · simp only [List.mem_cons, List.not_mem_nil, or_false] at hc
      rcases hc with rfl | rfl
      · exact ⟨hr0, hr1, hp.f, hp.b, by simp only; omega⟩
      · exact ⟨by simp only; omega, by simp only; omega, hp.f, hp.b, by simp only; omega⟩
    · simp at hc
theorem numsP_succ {xs : List Int} {k : Nat} (h : k < xs.length) : numsP (xs.take (k + 1)) = numsP (xs.take k) ++ numP (xs.getD k 0) := by
  unfold numsP
  rw [List.take_succ_eq_append_getElem h, List.flatMap_append]
  simp [List.getD, h]
theorem numsP_len : ∀ xs : List Int, (numsP xs).length ≤ 2 * xs.length
  | [] => by simp [numsP]
  | x :: xs => by
    have h1 := numsP_len xs
    have h2 : (numP x).length ≤ 2 := makeP_len _ _
    have h3 : numsP (x :: xs) = numP x ++ numsP xs := by simp [numsP]
    rw [h3, List.length_append, List.length_cons]
    omega
theorem numsP_ok : ∀ xs : List Int, OkL (numsP xs) := fun xs c hc => by
  obtain ⟨z, _, hz⟩ := List.mem_flatMap.1 hc
  obtain ⟨k0, hk0, hk1⟩ := and_low z 15 15 rfl (by omega)
  obtain ⟨f0, hf0, hf1⟩ := and_low (z / 16) 3 3 rfl (by omega)
  obtain ⟨a0, ha0, ha1⟩ := and_low (z / 64) 1 1 rfl (by omega)
  obtain ⟨r, _, hrg, hr0, hr1⟩ := chars_at k0 hk0
  unfold numP at hz
  rw [hk1, hf1, ha1, Int.toNat_natCast, Int.toNat_natCast, Int.toNat_natCast, hrg] at hz
  exact makeP_ok hr0 hr1 ⟨by simp only; omega, by simp only; omega, by simp only; omega, by simp only; omega, by simp only; omega⟩ (by simp only; omega) c hz
theorem own_later4 {w w' : World} {base size n : Nat} {e : TypeId} {v : Value} {xs : List Value} (h : w.ownsRow base e size v n xs) (hb : Below w.heap.size w w') : w'.ownsRow base e size v n xs :=
  h.kept (show w.grownBy w' none from ⟨hb.os, hb.tape, hb.output, hb.size, fun k hk _ => hb.block k hk⟩) (by
    cases hv : v.ownBlock with
    | none => exact .inl rfl
    | some g => exact .inr (by simp))
theorem own_new {w : World} {base B size n c : Nat} {e : TypeId} {A : Option Addr} {xs : List Value} (h : w.ownsRow base e size (.slice A n c) n xs) (hB : B ≤ base) : ∀ ad, A = some ad → B ≤ ad.block := fun ad e => by
  subst e
  rcases h.2 with ⟨e, _⟩ | ⟨g, cap, cur, e, hg, _⟩
  · cases e
  · injection e with e
    injection e with e
    subst e
    exact Nat.le_trans hB hg
set_option maxRecDepth 100000 in
set_option maxHeartbeats 4000000 in
theorem cells_gen (A : Option Addr) (n c : Nat) (xs : List Int) (w : World) (hn : xs.length = n) (hA : Ints w A xs) :
    Calls Try.prog 12 #[.slice A n c] w fun e w' => ∃ A' c' m, e = .returned (.slice A' m c') ∧ RowS w' A' m c' (cellsP xs) ∧ (∀ ad, A' = some ad → w.heap.size ≤ ad.block) ∧ Below w.heap.size w w' := by
  obtain ⟨i1, ki, kz0, kz1, kz2⟩ := info_parts Try.info55
  go_enter Try.func12, Try.ntmps12
  go_wp2_with fail
  go_loopw [4, 5] (fun s4 s5 wr => ∃ k m : Nat, k ≤ 80 ∧ k ≤ n ∧ s5 = .int .i64 (k : Nat) ∧ wr.ownsRow (w.heap.size + 1) 55 4 s4 m (rowV (numsP (xs.take k))) ∧ Blk wr w.heap.size 60 charsA ∧ Below w.heap.size w wr) (fun _ s5 _ => 80 - (intOf s5).toNat)
  case atStart => exact ⟨0, 0, by omega, by omega, rfl, World.ownsRow_nil _ _ _ _, Blk.new _ _ _, (Below.refl _ _).alloc (Nat.le_refl _) _⟩
  case round =>
    obtain ⟨k, m, h80, hk, rfl, hO, hC, hb⟩ := hrel
    by_cases hlt : k < n
    · have d1 : decide ((k : Int) < (n : Int)) = true := decide_eq_true (by omega)
      have d2 : decide (k < n) = true := decide_eq_true hlt
      by_cases h8 : k < 80
      · have d3 : decide ((k : Int) < 80) = true := decide_eq_true (by omega)
        have d4 : decide (k < 80) = true := decide_eq_true h8
        have hkx : k < xs.length := by omega
        have HM := Lib.hid (show m ≤ 160 by
          have h1 := hO.1
          have h2 := numsP_len (xs.take k)
          rw [rowV_len] at h1
          rw [List.length_take] at h2
          omega)
        have HS := Lib.hid (numsP_succ hkx)
        obtain ⟨ad, rfl, hc⟩ := (hA.below hb).at_ hkx
        generalize hz : xs.getD k 0 = z at hc
        rw [hz] at HS
        obtain ⟨k0, hk0, hk1⟩ := and_low z 15 15 rfl (by omega)
        obtain ⟨f0, hf0, hf1⟩ := and_low (z / 16) 3 3 rfl (by omega)
        obtain ⟨a0, ha0, ha1⟩ := and_low (z / 64) 1 1 rfl (by omega)
        obtain ⟨r, hr, hrg, hr0, hr1⟩ := chars_at k0 hk0
        have hN : numP z = makeP r ⟨0, f0, 0, a0⟩ := by
          unfold numP
          rw [hk1, hf1, ha1, Int.toNat_natCast, Int.toNat_natCast, Int.toNat_natCast, hrg]
        rw [hN] at HS
        have q0 : wr.cell? ⟨w.heap.size, k0, none⟩ = some (.int .i32 r) := by
          rw [hC.cell k0, ← Array.getElem?_toList]
          exact hr
        have q1 : (f0 : Int) % 256 = (f0 : Int) := by omega
        have q2 : (a0 : Int) % 256 = (a0 : Int) := by omega
        have hp : OkC ⟨0, f0, 0, a0⟩ := ⟨by simp only; omega, by simp only; omega, by simp only; omega, by simp only; omega, by simp only; omega⟩
        have hmk := fun W => makeR_gen r ⟨0, f0, 0, a0⟩ W hr0 hr1 hp (by simp only; omega)
        have hml := makeP_len r ⟨0, f0, 0, a0⟩
        have d5 : (k0 : Int) < 16 := by omega
        have d6 : decide ((k0 : Int) < 16) = true := decide_eq_true d5
        have d7 : k0 < 16 := by omega
        generalize makeP r ⟨0, f0, 0, a0⟩ = ml at HS hmk hml hN
        clear hz hk0 hf0 ha0 hr hrg hN hp
        obtain ⟨A4, c4, rfl⟩ := own_form hO
        go_upto_region 7 with fail
        have H1 := Lib.hid (show m + ml.length ≤ maxLen by unfold maxLen; have := HM.out; omega)
        have H2 := Lib.hid (show (m + ml.length) * 8 ≤ 140737488355328 by have := HM.out; omega)
        go_wp2_with (first
          | (go_at_call 33; refine (hmk _).mono ?_; rintro e w1 ⟨A1, c1, rfl, hR1, hb1⟩; have hO1 := own_later4 hO hb1; have hC1 := hC.below hb1 hC.lt; have hb2 := hb.trans (hb1.mono hb.size); have hs1 : w.heap.size + 1 ≤ w1.heap.size := Nat.le_trans (Nat.succ_le_of_lt hC.lt) hb1.size)
          | (at_builtin; refine wpList_append_src rfl (.tmp 22) (.tmp 36) 30 rfl (w.heap.size + 1) 55 i1 _ 4 8 Try.underlying30 ki kz0 kz1 kz2 rfl (by decide) _ m _ rfl hO1 A1 ml.length c1 (rowV ml) rfl (rowV_len _) hR1.src (fun h => hR1.nil' h) (rowV_one _) H1.out H2.out hs1 ?_; intro v2 w2 hO2 hg2; rw [← rowV_append, ← HS.out] at hO2; have hC2 := hC1.grown hg2 (fun e => by have := (hO1.lt _ e.symm).1; omega); have hb3 := hb2.grown hg2 hb2.size (fun q hq => by have := (hO1.lt q hq).1; omega); clear hO hC hb hO1 hC1 hb1 hb2 hg2))
        refine ⟨⟨k + 1, m + ml.length, by omega, hlt, rfl, hO2, hC2, hb3⟩, ?_⟩
        show 80 - ((k : Int) + 1).toNat < 80 - (k : Int).toNat
        omega
      · have d3 : decide ((k : Int) < 80) = false := decide_eq_false (by omega)
        have d4 : decide (k < 80) = false := decide_eq_false h8
        obtain rfl : k = 80 := by omega
        obtain ⟨A4, c4, rfl, hR⟩ := RowS.of_own (numsP_ok _) hO
        have hN := own_new hO (Nat.le_succ w.heap.size)
        clear hO hC
        go_wp2_with fail
        go_ret
        exact ⟨_, _, _, rfl, hR, hN, hb⟩
    · have d1 : decide ((k : Int) < (n : Int)) = false := decide_eq_false (by omega)
      have d2 : decide (k < n) = false := decide_eq_false hlt
      obtain rfl : k = n := by omega
      obtain ⟨A4, c4, rfl, hR⟩ := RowS.of_own (numsP_ok _) hO
      have hcl : numsP (xs.take k) = cellsP xs := by
        unfold cellsP
        rw [List.take_of_length_le (by omega), List.take_of_length_le (by omega)]
      rw [hcl] at hR
      have hN := own_new hO (Nat.le_succ w.heap.size)
      clear hO hC hcl
      go_wp2_with fail
      go_ret
      exact ⟨_, _, _, rfl, hR, hN, hb⟩
theorem cellsP_len (xs : List Int) : (cellsP xs).length ≤ 160 := by
  have h := numsP_len (xs.take 80)
  rw [List.length_take] at h
  unfold cellsP
  omega
end Go.Proofs.Ytpjafocgabhieaa

/- The document's Mend: a row of the same length, of cells that may be (for DiffTells). -/
namespace Go.Proofs.Ytpjafocgabhieaa
open Go.RowKit Go.Sort
theorem RowS.some_ad' {w : World} {A : Option Addr} {n c : Nat} {l : List Cl} (h : RowS w A n c l) (h1 : 1 ≤ n) : ∃ ad, A = some ad ∧ Cels w ad l := by
  obtain ⟨ad, e, hc⟩ := h.row (by rw [h.len]; omega)
  exact ⟨ad, e, hc⟩
theorem pair_any (ad : Addr) (n cp k : Nat) (l : List Cl) (hn : l.length = n) (hm : n ≤ 1000000) (hk : k < n) (w : World) (hR : Cels w ad l) :
    ∃ b, Calls Try.prog 65 #[.slice (some ad) n cp, .int .i64 (k : Nat)] w fun e w' => e = .returned (.bool b) ∧ Below w.heap.size w w' := by
  obtain ⟨c, hc⟩ : ∃ c, l[k]? = some c := ⟨_, List.getElem?_eq_getElem (by omega)⟩
  exact ⟨_, pairR_gen ad n cp k l w hn hm hR c hc⟩
theorem pair_ahead (ad : Addr) (n cp k : Nat) (l : List Cl) (hn : l.length = n) (hm : n ≤ 1000000) (hk : k < n) (w : World) (hR : Cels w ad l) :
    ∃ b, Calls Try.prog 65 #[.slice (some ad) n cp, .int .i64 ((k : Int) - 1)] w fun e w' => e = .returned (.bool b) ∧ Below w.heap.size w w' := by
  cases k with
  | zero => exact ⟨false, pairR_none _ _ _ _⟩
  | succ j =>
    obtain ⟨b, h⟩ := pair_any ad n cp j l hn hm (by omega) w hR
    refine ⟨b, ?_⟩
    rw [show (((j + 1 : Nat) : Int) - 1) = (j : Int) by omega]
    exact h
/-- What a round of Mend has ahead of its append. -/
def MenD (w wx : World) (g : Nat) (v : Value) (k : Nat) (l' : List Cl) : Prop := ∃ d, OkC d ∧ Blk wx g 55 d.a ∧ wx.ownsRow w.heap.size 55 4 v k (rowV l') ∧ Below w.heap.size w wx
theorem MenD.same {w wx : World} {g : Nat} {v : Value} {k : Nat} {l' : List Cl} {c : Cl} (okc : OkC c) (hN : Blk wx g 55 c.a) (hO : wx.ownsRow w.heap.size 55 4 v k (rowV l')) (hb : Below w.heap.size w wx) : MenD w wx g v k l' := ⟨c, okc, hN, hO, hb⟩
theorem MenD.stored {w wx : World} {g : Nat} {v : Value} {k : Nat} {l' : List Cl} {c : Cl} (okc : OkC c) (hN : Blk wx g 55 c.a) (hO : wx.ownsRow w.heap.size 55 4 v k (rowV l')) (hb : Below w.heap.size w wx) (hw : w.heap.size ≤ g) (hq : ∀ q, v.ownBlock = some q → w.heap.size ≤ q ∧ q < g) :
    MenD w ((((wx.setCell ⟨g, 0, none⟩ (.int .i32 32)).setCell ⟨g, 1, none⟩ (.int .u8 (c.f : Int))).setCell ⟨g, 2, none⟩ (.int .u8 (c.b : Int))).setCell ⟨g, 3, none⟩ (.int .u8 0)) g v k l' := by
  have h1 : Blk (wx.setCell ⟨g, 0, none⟩ (.int .i32 32)) g 55 #[.int .i32 32, .int .u8 (c.f : Int), .int .u8 (c.b : Int), .int .u8 (c.x : Int)] := hN.set 0 _
  have h2 : Blk ((wx.setCell ⟨g, 0, none⟩ (.int .i32 32)).setCell ⟨g, 1, none⟩ (.int .u8 (c.f : Int))) g 55 #[.int .i32 32, .int .u8 (c.f : Int), .int .u8 (c.b : Int), .int .u8 (c.x : Int)] := h1.set 1 _
  have h3 : Blk (((wx.setCell ⟨g, 0, none⟩ (.int .i32 32)).setCell ⟨g, 1, none⟩ (.int .u8 (c.f : Int))).setCell ⟨g, 2, none⟩ (.int .u8 (c.b : Int))) g 55 #[.int .i32 32, .int .u8 (c.f : Int), .int .u8 (c.b : Int), .int .u8 (c.x : Int)] := h2.set 2 _
  have h4 : Blk ((((wx.setCell ⟨g, 0, none⟩ (.int .i32 32)).setCell ⟨g, 1, none⟩ (.int .u8 (c.f : Int))).setCell ⟨g, 2, none⟩ (.int .u8 (c.b : Int))).setCell ⟨g, 3, none⟩ (.int .u8 0)) g 55 #[.int .i32 32, .int .u8 (c.f : Int), .int .u8 (c.b : Int), .int .u8 0] := h3.set 3 _
  have ho := only_set (only_set (only_set (only_set (only_refl g wx) 0 (.int .i32 32)) 1 (.int .u8 (c.f : Int))) 2 (.int .u8 (c.b : Int))) 3 (.int .u8 0)
  refine ⟨⟨32, c.f, c.b, 0⟩, ⟨by simp only; omega, by simp only; omega, okc.f, okc.b, by simp only; omega⟩, h4, hO.kept ho (.inr fun e => ?_), hb.trans (only_below ho hw hb.size)⟩
  have := (hq g e).2
  omega
set_option maxRecDepth 100000 in
set_option maxHeartbeats 8000000 in
theorem mendR_gen (A : Option Addr) (n cp : Nat) (l : List Cl) (w : World) (hm : n ≤ 1000000) (hS : RowS w A n cp l) :
    Calls Try.prog 57 #[.slice A n cp] w fun e w' => ∃ A' c' l', e = .returned (.slice A' n c') ∧ RowS w' A' n c' l' ∧ Below w.heap.size w w' := by
  obtain ⟨i1, ki, kz0, kz1, kz2⟩ := info_parts Try.info55
  have hln := hS.len
  go_enter Try.func57, Try.ntmps57
  go_wp2_with fail
  go_loopw [3, 4] (fun s3 s4 wr => ∃ (k : Nat) (l' : List Cl), k ≤ n ∧ s4 = .int .i64 (k : Nat) ∧ wr.ownsRow w.heap.size 55 4 s3 k (rowV l') ∧ OkL l' ∧ Below w.heap.size w wr) (fun _ s4 _ => n - (intOf s4).toNat)
  case atStart => exact ⟨0, [], by omega, rfl, World.ownsRow_nil _ _ _ _, (fun c hc => by cases hc), Below.refl _ _⟩
  case round =>
    obtain ⟨k, l', hk, rfl, hO, hok, hb⟩ := hrel
    by_cases hlt : k < n
    · have d1 : decide ((k : Int) < (n : Int)) = true := decide_eq_true (by omega)
      have d2 : decide (k < n) = true := decide_eq_true hlt
      obtain ⟨ad, rfl, hC⟩ := hS.some_ad' (by omega)
      obtain ⟨A3, c3', rfl⟩ := own_form hO
      obtain ⟨c, hc⟩ : ∃ c, l[k]? = some c := ⟨_, List.getElem?_eq_getElem (by omega)⟩
      obtain ⟨⟨c0, c1, c2, c3⟩, okc⟩ := (hC.below hb) k c hc
      go_upto_region 6 with fail
      have hN0 := Blk.new wr 55 #[.int .i32 c.r, .int .u8 (c.f : Int), .int .u8 (c.b : Int), .int .u8 (c.x : Int)]
      have hbn := (Below.refl wr.heap.size wr).alloc (Nat.le_refl _) (.cells #[.int .i32 c.r, .int .u8 (c.f : Int), .int .u8 (c.b : Int), .int .u8 (c.x : Int)] 55)
      have hO0 := own_later4 hO hbn
      have hb0 := hb.alloc hb.size (.cells #[.int .i32 c.r, .int .u8 (c.f : Int), .int .u8 (c.b : Int), .int .u8 (c.x : Int)] 55)
      have HQ := Lib.hid (show ∀ q, (Value.slice A3 k c3').ownBlock = some q → w.heap.size ≤ q ∧ q < wr.heap.size from fun q hq => hO.lt q hq)
      have HW := Lib.hid hb.size
      clear c0 c1 c2 c3 hO hb hbn
      generalize wr.alloc (.cells #[.int .i32 c.r, .int .u8 (c.f : Int), .int .u8 (c.b : Int), .int .u8 (c.x : Int)] 55) = w0 at hN0 hO0 hb0 ⊢
      have k0 : w0.cell? ⟨wr.heap.size, 0, none⟩ = some (.int .i32 c.r) := hN0.cell 0
      have k1 : w0.cell? ⟨wr.heap.size, 1, none⟩ = some (.int .u8 (c.f : Int)) := hN0.cell 1
      have k2 : w0.cell? ⟨wr.heap.size, 2, none⟩ = some (.int .u8 (c.b : Int)) := hN0.cell 2
      have k3 : w0.cell? ⟨wr.heap.size, 3, none⟩ = some (.int .u8 (c.x : Int)) := hN0.cell 3
      have hck := checkR_gen c okc w0
      generalize chkC c = bc at hck
      go_upto_region 7 with (go_at_call 64; refine hck.mono ?_; rintro e w1 ⟨rfl, hb1⟩)
      have hN1 := hN0.below hb1 hN0.lt
      have hO1 := own_later4 hO0 hb1
      have hb1' := hb0.trans (hb1.mono hb0.size)
      clear hck hb1 hN0 hO0 hb0 k0 k1 k2 k3
      obtain ⟨bp, hp⟩ := pair_any ad n cp k l hln hm hlt w1 (hC.below hb1')
      go_upto_region 8 with (go_at_call 65; refine hp.mono ?_; rintro e w2 ⟨rfl, hb2⟩)
      have hN2 := hN1.below hb2 hN1.lt
      have hO2 := own_later4 hO1 hb2
      have hb2' := hb1'.trans (hb2.mono hb1'.size)
      clear hp hb2 hN1 hO1 hb1'
      obtain ⟨ba, ha⟩ := pair_ahead ad n cp k l hln hm hlt w2 (hC.below hb2')
      go_upto_region 9 with (go_at_call 65; refine ha.mono ?_; rintro e w3 ⟨rfl, hb3⟩)
      have hN3 := hN2.below hb3 hN2.lt
      have hO3 := own_later4 hO2 hb3
      have hb3' := hb2'.trans (hb3.mono hb2'.size)
      clear ha hb3 hN2 hO2 hb2'
      go_cut [45] from 9 to 54 (fun s45 wx => ∃ bad, s45 = .bool bad ∧ MenD w wx wr.heap.size (.slice A3 k c3') k l')
      case first =>
        have y0 : w3.cell? ⟨wr.heap.size, 0, none⟩ = some (.int .i32 c.r) := hN3.cell 0
        have y1 : w3.cell? ⟨wr.heap.size, 1, none⟩ = some (.int .u8 (c.f : Int)) := hN3.cell 1
        have y2 : w3.cell? ⟨wr.heap.size, 2, none⟩ = some (.int .u8 (c.b : Int)) := hN3.cell 2
        have y3 : w3.cell? ⟨wr.heap.size, 3, none⟩ = some (.int .u8 (c.x : Int)) := hN3.cell 3
        have f0 := hN3.free 0
        have f1 := hN3.free 1
        have f2 := hN3.free 2
        have f3 := hN3.free 3
        have cW := fun W => wideR_gen c okc W
        have cT := fun W => tailR_gen c okc W
        generalize wideC c = bw at cW
        generalize tailC c = bt at cT
        have hcs : bp = true ∨ (bp = false ∧ ba = true) ∨ (bp = false ∧ ba = false ∧ bc = false) ∨ (bp = false ∧ ba = false ∧ bc = true ∧ bw = true) ∨ (bp = false ∧ ba = false ∧ bc = true ∧ bw = false ∧ bt = true) ∨ (bp = false ∧ ba = false ∧ bc = true ∧ bw = false ∧ bt = false) := by
          cases bp <;> cases ba <;> cases bc <;> cases bw <;> cases bt <;> simp
        rcases hcs with rfl | ⟨rfl, rfl⟩ | ⟨rfl, rfl, rfl⟩ | ⟨rfl, rfl, rfl, rfl⟩ | ⟨rfl, rfl, rfl, rfl, rfl⟩ | ⟨rfl, rfl, rfl, rfl, rfl⟩
        all_goals
          go_wp2_with (first
            | (go_at_call 49; refine (cW _).mono ?_; rintro e w4 ⟨rfl, hb4⟩; have hN4 := hN3.below hb4 hN3.lt; have hO4 := own_later4 hO3 hb4; have hb4' := hb3'.trans (hb4.mono hb3'.size); have z0 : w4.cell? ⟨wr.heap.size, 0, none⟩ = some (.int .i32 c.r) := hN4.cell 0; have z1 : w4.cell? ⟨wr.heap.size, 1, none⟩ = some (.int .u8 (c.f : Int)) := hN4.cell 1; have z2 : w4.cell? ⟨wr.heap.size, 2, none⟩ = some (.int .u8 (c.b : Int)) := hN4.cell 2; have z3 : w4.cell? ⟨wr.heap.size, 3, none⟩ = some (.int .u8 (c.x : Int)) := hN4.cell 3; have g0 := hN4.free 0; have g1 := hN4.free 1; have g2 := hN4.free 2; have g3 := hN4.free 3)
            | (go_at_call 66; refine (cT _).mono ?_; rintro e w5 ⟨rfl, hb5⟩; have hN5 := hN4.below hb5 hN4.lt; have hO5 := own_later4 hO4 hb5; have hb5' := hb4'.trans (hb5.mono hb4'.size); have x0 : w5.cell? ⟨wr.heap.size, 0, none⟩ = some (.int .i32 c.r) := hN5.cell 0; have x1 : w5.cell? ⟨wr.heap.size, 1, none⟩ = some (.int .u8 (c.f : Int)) := hN5.cell 1; have x2 : w5.cell? ⟨wr.heap.size, 2, none⟩ = some (.int .u8 (c.b : Int)) := hN5.cell 2; have x3 : w5.cell? ⟨wr.heap.size, 3, none⟩ = some (.int .u8 (c.x : Int)) := hN5.cell 3; have q0 := hN5.free 0; have q1 := hN5.free 1; have q2 := hN5.free 2; have q3 := hN5.free 3))
          go_meet
          first
            | with_reducible exact ⟨_, rfl, MenD.same okc hN5 hO5 hb5'⟩
            | with_reducible exact ⟨_, rfl, MenD.same okc hN4 hO4 hb4'⟩
            | with_reducible exact ⟨_, rfl, MenD.same okc hN3 hO3 hb3'⟩
      case rest =>
      obtain ⟨bad, rfl, e, oke, hN4, hO4, hb4⟩ := hcut
      rename World => w4
      clear hN3 hO3 hb3' okc
      go_upto_if 45 with fail
      go_cut [] from 9 to 54 (fun wx => MenD w wx wr.heap.size (.slice A3 k c3') k l')
      case first =>
        have y0 : w4.cell? ⟨wr.heap.size, 0, none⟩ = some (.int .i32 e.r) := hN4.cell 0
        have y1 : w4.cell? ⟨wr.heap.size, 1, none⟩ = some (.int .u8 (e.f : Int)) := hN4.cell 1
        have y2 : w4.cell? ⟨wr.heap.size, 2, none⟩ = some (.int .u8 (e.b : Int)) := hN4.cell 2
        have y3 : w4.cell? ⟨wr.heap.size, 3, none⟩ = some (.int .u8 (e.x : Int)) := hN4.cell 3
        have f0 := hN4.free 0
        have f1 := hN4.free 1
        have f2 := hN4.free 2
        have f3 := hN4.free 3
        cases bad <;>
        · go_wp2_with fail
          go_meet
          first
            | with_reducible exact MenD.same oke hN4 hO4 hb4
            | with_reducible exact MenD.stored oke hN4 hO4 hb4 HW.out HQ.out
      case rest =>
      clear hN4 hO4 hb4
      obtain ⟨d, okd, hN5, hO5, hb5⟩ := hcut
      rename World => w5
      have hlk : l'.length = k := by
        have h1 := hO5.1
        rw [rowV_len] at h1
        omega
      have z0 : w5.cell? ⟨wr.heap.size, 0, none⟩ = some (.int .i32 d.r) := hN5.cell 0
      have z1 : w5.cell? ⟨wr.heap.size, 1, none⟩ = some (.int .u8 (d.f : Int)) := hN5.cell 1
      have z2 : w5.cell? ⟨wr.heap.size, 2, none⟩ = some (.int .u8 (d.b : Int)) := hN5.cell 2
      have z3 : w5.cell? ⟨wr.heap.size, 3, none⟩ = some (.int .u8 (d.x : Int)) := hN5.cell 3
      have hbn := (Below.refl w5.heap.size w5).alloc (Nat.le_refl _) (.cells #[.int .i32 d.r, .int .u8 (d.f : Int), .int .u8 (d.b : Int), .int .u8 (d.x : Int)] 55)
      have hO7 := own_later4 hO5 hbn
      have hb7 := hb5.trans (hbn.mono hb5.size)
      have hsrc : Src (w5.alloc (.cells #[.int .i32 d.r, .int .u8 (d.f : Int), .int .u8 (d.b : Int), .int .u8 (d.x : Int)] 55)) (some ⟨w5.heap.size, 0, none⟩) (rowV [d]) := fun _ => ⟨_, rfl, news_all w5 _ _⟩
      have H1 := Lib.hid (show k + 1 ≤ maxLen by unfold maxLen; omega)
      have H2 := Lib.hid (show (k + 1) * 8 ≤ 140737488355328 by omega)
      have H3 := Lib.hid (show rowV l' ++ rowV [d] = rowV (l' ++ [d]) from (rowV_append _ _).symm)
      have hok' : OkL (l' ++ [d]) := fun x hx => by
        rcases List.mem_append.1 hx with h | h
        · exact hok x h
        · rw [List.mem_singleton.1 h]; exact okd
      clear hN5 hbn hO5 hb5 hok
      go_wp2_with (at_builtin; refine wpList_append_src rfl (.tmp 51) (.tmp 53) 30 rfl w.heap.size 55 i1 _ 4 8 Try.underlying30 ki kz0 kz1 kz2 rfl (by decide) _ k _ rfl hO7 (some ⟨w5.heap.size, 0, none⟩) 1 1 (rowV [d]) rfl (rowV_len _) hsrc (fun h => by cases h) (rowV_one _) H1.out H2.out hb7.size ?_; intro v6 w6 hO6 hg6; rw [H3.out] at hO6; have hb6 := hb7.grown hg6 hb7.size (fun q hq => (hO7.lt q hq).1); clear hO7 hg6 hb7)
      go_roundw
      case rel =>
        exact ⟨k + 1, l' ++ [d], hlt, rfl, hO6, hok', hb6⟩
      case measure =>
        show n - ((k : Int) + 1).toNat < n - (k : Int).toNat
        omega
    · have d1 : decide ((k : Int) < (n : Int)) = false := decide_eq_false (by omega)
      have d2 : decide (k < n) = false := decide_eq_false hlt
      obtain rfl : k = n := by omega
      obtain ⟨A4, c4, rfl, hR⟩ := RowS.of_own hok hO
      clear hO
      go_wp2_with fail
      go_ret
      exact ⟨_, _, _, rfl, hR, hb⟩
end Go.Proofs.Ytpjafocgabhieaa

/- The document's New of a grid: walked (for DiffTells). -/
namespace Go.Proofs.Ytpjafocgabhieaa
open Go.RowKit Go.Sort
theorem own_far {w : World} {base size n : Nat} {e : TypeId} {v : Value} {xs : List Value} (h : w.ownsRow base e size v n xs) (p : Addr) (hp : p.block < base) (u : Value) : (w.setCell p u).ownsRow base e size v n xs := ownsRow_setCell_other h (fun e => by have := (h.lt _ e).1; omega) u
abbrev grA (x y : Int) (A : Option Addr) (n c : Nat) : Array Value := #[.int .i64 x, .int .i64 y, .slice A n c]
def blanks (k : Nat) : List Cl := List.replicate k blankC
theorem blanks_ok (k : Nat) : OkL (blanks k) := fun c hc => by
  rw [List.eq_of_mem_replicate hc]
  exact ⟨by decide, by decide, by decide, by decide, by decide⟩
theorem blanks_succ (k : Nat) : rowV (blanks k) ++ rowV [blankC] = rowV (blanks (k + 1)) := by
  rw [← rowV_append]
  unfold blanks
  rw [List.replicate_succ']
set_option maxRecDepth 100000 in
set_option maxHeartbeats 8000000 in
theorem newGR_gen (wn hn n : Nat) (w : World) (hw : 1 ≤ wn) (hw2 : wn ≤ 12) (hh : 1 ≤ hn) (hh2 : hn ≤ 6) (hnw : n = wn * hn) :
    Calls Try.prog 14 #[.int .i64 (wn : Nat), .int .i64 (hn : Nat)] w fun e w' => ∃ A c l, e = .returned (grv wn hn A n c) ∧ RowS w' A n c l ∧ (∀ ad, A = some ad → w.heap.size ≤ ad.block) ∧ Below w.heap.size w w' := by
  obtain ⟨i1, ki, kz0, kz1, kz2⟩ := info_parts Try.info55
  have hsz : sizeP (wn : Int) (hn : Int) = true := by
    unfold sizeP
    simp only [Bool.and_eq_true, decide_eq_true_eq]
    omega
  obtain ⟨hmul, _⟩ := mul_facts (show wn ≤ 200 by omega) (show hn ≤ 60 by omega) hnw
  have hn72 : n ≤ 72 := by
    rw [hnw]
    exact Nat.mul_le_mul hw2 hh2
  have HM := Lib.hid hmul
  have hso := sizeR_any wn hn (w.alloc (.cells #[.int .i64 0, .int .i64 0, .slice none 0 0] 32))
  rw [hsz] at hso
  clear hmul hsz hnw
  go_enter Try.func14, Try.ntmps14
  go_wp2_with (go_at_call 36; refine hso.mono ?_; rintro e w1 ⟨rfl, rfl⟩)
  have hb0 := ((Below.refl w.heap.size w).alloc (Nat.le_refl _) (.cells #[.int .i64 0, .int .i64 0, .slice none 0 0] 32)).alloc (by simp) (.cells (grA wn hn none 0 0) 32)
  have hB0 := Blk.new (w.alloc (.cells #[.int .i64 0, .int .i64 0, .slice none 0 0] 32)) 32 (grA wn hn none 0 0)
  have hR0 := (Blk.new w 32 #[.int .i64 0, .int .i64 0, .slice none 0 0]).alloc (.cells (grA wn hn none 0 0) 32)
  rw [World.size_alloc] at hB0
  have hm := HM.out
  go_loopw [7] (fun s7 wr => ∃ (k : Nat) (A : Option Addr) (c : Nat), k ≤ n ∧ s7 = .int .i64 (k : Nat) ∧ Blk wr (w.heap.size + 1) 32 (grA wn hn A k c) ∧ Blk wr w.heap.size 32 #[.int .i64 0, .int .i64 0, .slice none 0 0] ∧ wr.ownsRow (w.heap.size + 2) 55 4 (.slice A k c) k (rowV (blanks k)) ∧ Below w.heap.size w wr) (fun s7 _ => n - (intOf s7).toNat)
  case atStart => exact ⟨0, none, 0, by omega, rfl, hB0, hR0, World.ownsRow_nil _ _ _ _, hb0⟩
  case round =>
    clear hb0 hB0 hR0
    obtain ⟨k, A, c, hk, rfl, hB, hR, hO, hb⟩ := hrel
    by_cases hlt : k < n
    · have d1 : decide ((k : Int) < (n : Int)) = true := decide_eq_true (by omega)
      have d2 : decide (k < n) = true := decide_eq_true hlt
      have H1 := Lib.hid (show k + 1 ≤ maxLen by unfold maxLen; omega)
      have H2 := Lib.hid (show (k + 1) * 8 ≤ 140737488355328 by omega)
      have b2 : wr.cell? ⟨w.heap.size + 1, 2, none⟩ = some (.slice A k c) := hB.cell 2
      have f2 := hB.free 2
      go_upto_region 8 with fail
      clear b2 f2
      have hBd := hB.drew
      have b2 : wr.drew.cell? ⟨w.heap.size + 1, 2, none⟩ = some (.slice A k c) := hBd.cell 2
      have f2 := hBd.free 2
      have hbl := blankR_gen wr.drew
      have hOd := hO.drew
      have hbd := hb.drew
      have hRd := hR.drew
      clear hO hb hR hB
      go_region_law (first
        | (go_simp; go_at_call 37; refine hbl.mono ?_; rintro e w2 ⟨rfl, hb2⟩; have hB2 := hBd.below hb2 hBd.lt; have y2 : w2.cell? ⟨w.heap.size + 1, 2, none⟩ = some (.slice A k c) := hB2.cell 2; have g2 := hB2.free 2; have z2 : (w2.alloc (.cells #[.int .i32 blankC.r, .int .u8 (blankC.f : Int), .int .u8 (blankC.b : Int), .int .u8 (blankC.x : Int)] 55)).cell? ⟨w.heap.size + 1, 2, none⟩ = some (.slice A k c) := (hB2.alloc _).cell 2)
        | (refine step_append_src rfl (.tmp 25) (.tmp 27) 30 rfl (w.heap.size + 2) 55 i1 _ 4 8 Try.underlying30 ki kz0 kz1 kz2 rfl (by decide) (.slice A k c) k (rowV (blanks k)) (by rfl) ((own_later4 hOd hb2).alloc (.cells #[.int .i32 blankC.r, .int .u8 (blankC.f : Int), .int .u8 (blankC.b : Int), .int .u8 (blankC.x : Int)] 55)) (some ⟨w2.heap.size, 0, none⟩) 1 1 (rowV [blankC]) (by rfl) rfl (fun _ => ⟨_, rfl, news_all w2 _ _⟩) (fun h => by cases h) (rowV_one _) H1.out H2.out (by have := hb2.size; have := hBd.lt; simp at *; omega) ?_; intro v3 w3 ho3 hg3; obtain ⟨A3, c3, rfl⟩ := own_form ho3; have hne : some (w.heap.size + 1) ≠ (Value.slice A k c).ownBlock := (fun e => by have := (hOd.lt _ e.symm).1; omega); have hB3 := (hB2.alloc (.cells #[.int .i32 blankC.r, .int .u8 (blankC.f : Int), .int .u8 (blankC.b : Int), .int .u8 (blankC.x : Int)] 55)).grown hg3 hne; have x2 : w3.cell? ⟨w.heap.size + 1, 2, none⟩ = some (.slice A k c) := hB3.cell 2; have x3 := hB3.free 2))
      all_goals
        have hB4 : Blk (w3.setCell ⟨w.heap.size + 1, 2, none⟩ (.slice A3 (k + 1) c3)) (w.heap.size + 1) 32 (grA wn hn A3 (k + 1) c3) := hB3.set 2 _
        have ho4 := own_far ho3 ⟨w.heap.size + 1, 2, none⟩ (by simp) (.slice A3 (k + 1) c3)
        have hR4 := (((hRd.below hb2 hRd.lt).alloc (.cells #[.int .i32 blankC.r, .int .u8 (blankC.f : Int), .int .u8 (blankC.b : Int), .int .u8 (blankC.x : Int)] 55)).grown hg3 (fun e => by have := (hOd.lt _ e.symm).1; omega)).far (p := ⟨w.heap.size + 1, 2, none⟩) (by simp) (.slice A3 (k + 1) c3)
        have hb3 := ((hbd.trans (hb2.mono hbd.size)).alloc (Nat.le_trans hbd.size hb2.size) (.cells #[.int .i32 blankC.r, .int .u8 (blankC.f : Int), .int .u8 (blankC.b : Int), .int .u8 (blankC.x : Int)] 55))
        have hb4 := (hb3.grown hg3 hb3.size (fun q hq => by have := (hOd.lt q hq).1; omega)).setCell (p := ⟨w.heap.size + 1, 2, none⟩) (by simp) (.slice A3 (k + 1) c3)
        rw [blanks_succ] at ho4
        clear hB3 x2 x3 hg3 ho3 hRd hOd hbd hb2 hb3 hB2 y2 g2 z2 hBd b2 f2 hbl
        generalize w3.setCell ⟨w.heap.size + 1, 2, none⟩ (.slice A3 (k + 1) c3) = w4 at hB4 ho4 hR4 hb4 ⊢
        go_wp2_with fail
        go_roundw
        case rel => exact ⟨k + 1, A3, c3, hlt, by go_num, hB4, hR4, ho4, hb4⟩
        case measure => simp [intOf]; omega
    · have d1 : decide ((k : Int) < (n : Int)) = false := decide_eq_false (by omega)
      have d2 : decide (k < n) = false := decide_eq_false hlt
      obtain rfl : k = n := by omega
      have b0 : wr.cell? ⟨w.heap.size + 1, 0, none⟩ = some (.int .i64 (wn : Int)) := hB.cell 0
      have b1 : wr.cell? ⟨w.heap.size + 1, 1, none⟩ = some (.int .i64 (hn : Int)) := hB.cell 1
      have b2 : wr.cell? ⟨w.heap.size + 1, 2, none⟩ = some (.slice A k c) := hB.cell 2
      have r0 : wr.cell? ⟨w.heap.size, 0, none⟩ = some (.int .i64 0) := hR.cell 0
      have r1 : wr.cell? ⟨w.heap.size, 1, none⟩ = some (.int .i64 0) := hR.cell 1
      have r2 : wr.cell? ⟨w.heap.size, 2, none⟩ = some (.slice none 0 0) := hR.cell 2
      have f0 := hR.free 0
      have f1 := hR.free 1
      have f2 := hR.free 2
      go_wp2_with fail
      have hR1 : Blk (wr.setCell ⟨w.heap.size, 0, none⟩ (.int .i64 (wn : Int))) w.heap.size 32 #[.int .i64 (wn : Int), .int .i64 0, .slice none 0 0] := hR.set 0 _
      have hR2 : Blk ((wr.setCell ⟨w.heap.size, 0, none⟩ (.int .i64 (wn : Int))).setCell ⟨w.heap.size, 1, none⟩ (.int .i64 (hn : Int))) w.heap.size 32 #[.int .i64 (wn : Int), .int .i64 (hn : Int), .slice none 0 0] := hR1.set 1 _
      have hR3 : Blk (((wr.setCell ⟨w.heap.size, 0, none⟩ (.int .i64 (wn : Int))).setCell ⟨w.heap.size, 1, none⟩ (.int .i64 (hn : Int))).setCell ⟨w.heap.size, 2, none⟩ (.slice A k c)) w.heap.size 32 (grA wn hn A k c) := hR2.set 2 _
      have hO3 := own_far (own_far (own_far hO ⟨w.heap.size, 0, none⟩ (by simp) (.int .i64 (wn : Int))) ⟨w.heap.size, 1, none⟩ (by simp) (.int .i64 (hn : Int))) ⟨w.heap.size, 2, none⟩ (by simp) (.slice A k c)
      have hb3 := ((hb.setCell (p := ⟨w.heap.size, 0, none⟩) (by simp) (.int .i64 (wn : Int))).setCell (p := ⟨w.heap.size, 1, none⟩) (by simp) (.int .i64 (hn : Int))).setCell (p := ⟨w.heap.size, 2, none⟩) (by simp) (.slice A k c)
      generalize ((wr.setCell ⟨w.heap.size, 0, none⟩ (.int .i64 (wn : Int))).setCell ⟨w.heap.size, 1, none⟩ (.int .i64 (hn : Int))).setCell ⟨w.heap.size, 2, none⟩ (.slice A k c) = w5 at hR3 hO3 hb3 ⊢
      obtain ⟨A', c', e, hRS⟩ := RowS.of_own (blanks_ok k) hO3
      injection e with e1 _ e2
      subst e1 e2
      have d0 : w5.cell? ⟨w.heap.size, 0, none⟩ = some (.int .i64 (wn : Int)) := hR3.cell 0
      have d1 : w5.cell? ⟨w.heap.size, 1, none⟩ = some (.int .i64 (hn : Int)) := hR3.cell 1
      have d2 : w5.cell? ⟨w.heap.size, 2, none⟩ = some (.slice A k c) := hR3.cell 2
      refine bodyPost_ret (v := grv wn hn A k c) ?_ rfl ⟨A, c, blanks k, rfl, hRS, own_new hO3 (Nat.le_add_right _ 2), hb3⟩
      simp [results, Try.results14, go_sem, d0, d1, d2]
end Go.Proofs.Ytpjafocgabhieaa

/- The document's all (grid): walked (for DiffTells). -/
namespace Go.Proofs.Ytpjafocgabhieaa
open Go.RowKit Go.Sort
/-- A grid that is being made: its variable, the result's variable, its row of cells. -/
structure GrI (w wr : World) (x y : Int) (A : Option Addr) (k c : Nat) : Prop where
  b : Blk wr (w.heap.size + 1) 32 (grA x y A k c)
  r : Blk wr w.heap.size 32 (grA 0 0 none 0 0)
  o : ∃ l', OkL l' ∧ wr.ownsRow (w.heap.size + 2) 55 4 (.slice A k c) k (rowV l')
  below : Below w.heap.size w wr
theorem GrI.later {w wr w2 : World} {x y : Int} {A : Option Addr} {k c : Nat} (h : GrI w wr x y A k c) (hb : Below wr.heap.size wr w2) : GrI w w2 x y A k c := by
  obtain ⟨hB, hR, ⟨l', ok, hO⟩, hb0⟩ := h
  exact ⟨hB.below hb hB.lt, hR.below hb hR.lt, ⟨l', ok, own_later4 hO hb⟩, hb0.trans (hb.mono hb0.size)⟩
theorem RowS.sub {w : World} {ad : Addr} {n c : Nat} {l : List Cl} (h : RowS w (some ad) n c l) (p k : Nat) (hp : p + k ≤ n) (hk : 1 ≤ k) : RowS w (some (ad.add (p * 4))) k (c - p) ((l.drop p).take k) := by
  have h1 := h.len
  have h2 := h.cap
  have h3 := h.cm
  refine ⟨by rw [List.length_take, List.length_drop]; omega, by omega, by omega, fun _ => ?_, fun e => by cases e⟩
  obtain ⟨ad', e, hC⟩ := h.row (by omega)
  injection e with e
  subst e
  exact ⟨_, rfl, hC.sub p k⟩
theorem Cels.far {w : World} {ad : Addr} {l : List Cl} (h : Cels w ad l) (p : Addr) (hp : ad.block ≠ p.block) (u : Value) : Cels (w.setCell p u) ad l := fun k c hc => by
  obtain ⟨⟨h0, h1, h2, h3⟩, ok⟩ := h k c hc
  have hk : ∀ q : Addr, q.block = ad.block → (w.setCell p u).cell? q = w.cell? q := fun q hq => World.cell?_of_block (Below.heap_setCell w p u q.block (by rw [hq]; exact hp))
  have hb : (ad.add (k * 4)).block = ad.block := block_add _ _
  exact ⟨⟨(hk _ hb).trans h0, (hk ⟨(ad.add (k * 4)).block, (ad.add (k * 4)).off + 1, none⟩ hb).trans h1, (hk ⟨(ad.add (k * 4)).block, (ad.add (k * 4)).off + 2, none⟩ hb).trans h2, (hk ⟨(ad.add (k * 4)).block, (ad.add (k * 4)).off + 3, none⟩ hb).trans h3⟩, ok⟩
/-- A row that does not lie in block G. -/
def Off (A : Option Addr) (n G : Nat) : Prop := 1 ≤ n → ∀ ad, A = some ad → ad.block ≠ G
theorem RowS.off {w : World} {A : Option Addr} {n c : Nat} {l : List Cl} (h : RowS w A n c l) {G : Nat} (hG : w.heap.size ≤ G) : Off A n G := fun h1 ad e => by
  obtain ⟨ad', e', hC⟩ := h.some_ad' h1
  rw [e] at e'
  injection e' with e'
  subst e'
  obtain ⟨c, hc⟩ : ∃ c, l[0]? = some c := ⟨_, List.getElem?_eq_getElem (by rw [h.len]; omega)⟩
  have := World.block_lt_of_cell? w _ (hC 0 c hc).1.c0
  rw [block_add] at this
  omega
theorem Off.new {A : Option Addr} {n G B : Nat} (h : ∀ ad, A = some ad → B ≤ ad.block) (hG : G < B) : Off A n G := fun _ ad e => by
  have := h ad e
  omega
theorem RowS.far {w : World} {A : Option Addr} {n c : Nat} {l : List Cl} (h : RowS w A n c l) (p : Addr) (hp : Off A n p.block) (u : Value) : RowS (w.setCell p u) A n c l := by
  obtain ⟨h1, h2, h3, h4, h5⟩ := h
  refine ⟨h1, h2, h3, fun h0 => ?_, h5⟩
  obtain ⟨ad, e, hC⟩ := h4 h0
  exact ⟨ad, e, hC.far p (hp (by omega) ad e) u⟩
set_option maxRecDepth 100000 in
set_option maxHeartbeats 8000000 in
theorem allR_gen (wn hn n : Nat) (ar : Addr) (cr : Nat) (ad : Addr) (c : Nat) (l : List Cl) (w : World) (hw : 1 ≤ wn) (hw2 : wn ≤ 200) (hh2 : hn ≤ 60) (hnw : n = wn * hn) (hS : RowS w (some ad) n c l)
    (hrows : ∀ y, y < hn → ∃ b, w.cell? (ar.add y) = some (.bool b)) :
    Calls Try.prog 38 #[.int .i64 (wn : Nat), .int .i64 (hn : Nat), .slice (some ar) hn cr, .slice (some ad) n c] w fun e w' => ∃ A c l, e = .returned (grv wn hn A n c) ∧ RowS w' A n c l ∧ (∀ ad, A = some ad → w.heap.size ≤ ad.block) ∧ Below w.heap.size w w' := by
  obtain ⟨i1, ki, kz0, kz1, kz2⟩ := info_parts Try.info55
  have HS := Lib.hid hS
  have HR := Lib.hid hrows
  have HN := Lib.hid hnw
  have hnc := hS.cap
  have hcm := hS.cm
  have hbw := ((Below.refl w.heap.size w).alloc (Nat.le_refl _) (.cells (grA 0 0 none 0 0) 32)).alloc (by simp) (.cells (grA wn hn none 0 0) 32)
  have hB0 := Blk.new (w.alloc (.cells (grA 0 0 none 0 0) 32)) 32 (grA wn hn none 0 0)
  have hR0 := (Blk.new w 32 (grA 0 0 none 0 0)).alloc (.cells (grA wn hn none 0 0) 32)
  rw [World.size_alloc] at hB0
  have hG0 : GrI w ((w.alloc (.cells (grA 0 0 none 0 0) 32)).alloc (.cells (grA wn hn none 0 0) 32)) wn hn none 0 0 := ⟨hB0, hR0, ⟨[], (fun c hc => by cases hc), World.ownsRow_nil _ _ _ _⟩, hbw⟩
  clear hS hrows hnw hbw hB0 hR0
  go_enter Try.func38, Try.ntmps38
  go_wp2_with fail
  go_loopw [10] (fun s10 wr => ∃ (y yw : Nat) (A : Option Addr) (c' : Nat), y ≤ hn ∧ yw = y * wn ∧ s10 = .int .i64 (y : Nat) ∧ GrI w wr wn hn A yw c') (fun s10 _ => hn - (intOf s10).toNat)
  case atStart => exact ⟨0, 0, none, 0, by omega, by omega, rfl, hG0⟩
  case round =>
    clear hG0
    obtain ⟨y, yw, A, c', hy, hyw, rfl, hG⟩ := hrel
    by_cases hlt : y < hn
    · have d1 : decide ((y : Int) < (hn : Int)) = true := decide_eq_true (by omega)
      have d2 : decide (y < hn) = true := decide_eq_true hlt
      obtain ⟨yw', ye, hyw', hye, hle, hn12, f1, f2, f3⟩ := row_facts hw hw2 hh2 HN.out hlt
      obtain rfl : yw = yw' := by rw [hyw, hyw']
      have F1 := Lib.hid f1
      have F2 := Lib.hid f2
      have HYW := Lib.hid hyw
      have hye' : ye = yw + wn := hye
      clear f1 f2 f3 hyw hyw' hye
      have s1 : (yw : Int) ≤ (ye : Int) := by omega
      have s3 : decide ((yw : Int) ≤ (ye : Int)) = true := decide_eq_true s1
      have s2 : (ye : Int) ≤ (c : Int) := by omega
      have s4 : decide ((ye : Int) ≤ (c : Int)) = true := decide_eq_true s2
      have s0 : yw ≤ ye := by omega
      have s6 : ye ≤ c := by omega
      have s7 : ¬ c = yw := by omega
      have Hyx := Lib.hid (show ye - yw = wn by omega)
      have HYE := Lib.hid hye'
      obtain ⟨b, hb⟩ := HR.out y hlt
      have hb' : wr.cell? (ar.add y) = some (.bool b) := keepc hG.below hb
      have hrow := (HS.out.below hG.below).sub yw wn (by omega) hw
      clear hb
      have HLE := Lib.hid (show ye ≤ n ∧ n ≤ 12000 ∧ n ≤ c ∧ c ≤ maxLen ∧ hn ≤ 60 ∧ wn ≤ 200 from ⟨hle, hn12, hnc, hcm, hh2, hw2⟩)
      have HW := Lib.hid hw
      have HL2 := Lib.hid (show yw + wn ≤ 12000 by omega)
      clear hye' hle hn12 hnc hcm hh2 hw2 hw hy
      have f1 := F1.out
      have f2 := F2.out
      go_upto_region 6 with fail
      clear f1 f2
      go_upto_if 33 with fail
      obtain ⟨hle, hn12, hnc, hcm, hh2, hw2⟩ := HLE.out
      have hy60 : y < 60 := by omega
      have hw := HW.out
      have hwm := mendR_gen (some (ad.add (yw * 4))) wn (c - yw) _ wr (by omega) hrow
      rw [Hyx.out]
      clear HLE s1 s2 s3 s4 s0 s6 s7 hb' hle hn12 hnc hcm hh2
      go_cut [11] from 15 to 40 (fun s11 wx => ∃ A5 c5 l5, s11 = .slice A5 wn c5 ∧ RowS wx A5 wn c5 l5 ∧ GrI w wx wn hn A yw c')
      case first =>
        cases b
        · go_wp2_with fail
          go_meet
          exact ⟨_, _, _, rfl, hrow, hG⟩
        · go_wp2_with (go_at_call 57; refine hwm.mono ?_; rintro e w2 ⟨A5, c5, l5, rfl, hR5, hb5⟩)
          go_meet
          exact ⟨_, _, _, rfl, hR5, hG.later hb5⟩
      case rest =>
      obtain ⟨A5, c5, l5, rfl, hR5, hG5⟩ := hcut
      rename World => w5
      clear hwm hrow hG
      obtain ⟨hB, hR, ⟨l', ok, hO⟩, hb⟩ := hG5
      have b2 : w5.cell? ⟨w.heap.size + 1, 2, none⟩ = some (.slice A yw c') := hB.cell 2
      have g2 := hB.free 2
      have H1 := Lib.hid (show yw + wn ≤ maxLen by have := HL2.out; unfold maxLen; omega)
      have H2 := Lib.hid (show (yw + wn) * 8 ≤ 140737488355328 by have := HL2.out; omega)
      go_wp2_with (at_builtin; refine wpList_append_src rfl (.tmp 37) (.tmp 38) 30 rfl (w.heap.size + 2) 55 i1 _ 4 8 Try.underlying30 ki kz0 kz1 kz2 rfl (by decide) _ yw _ rfl hO A5 wn c5 (rowV l5) rfl (by rw [rowV_len, hR5.len]) hR5.src (fun h => hR5.nil' h) (rowV_one _) H1.out H2.out hB.lt ?_; intro v6 w6 hO6 hg6; rw [← rowV_append] at hO6; obtain ⟨A6, c6, rfl⟩ := own_form hO6; have hB6 := hB.grown hg6 (fun e => by have := (hO.lt _ e.symm).1; omega); have hR6 := hR.grown hg6 (fun e => by have := (hO.lt _ e.symm).1; omega); have hb6 := hb.grown hg6 hb.size (fun q hq => by have := (hO.lt q hq).1; omega); have z2 : w6.cell? ⟨w.heap.size + 1, 2, none⟩ = some (.slice A yw c') := hB6.cell 2; have y2 := hB6.free 2; clear hB hR hO hb b2 g2 hg6)
      have hB7 : Blk (w6.setCell ⟨w.heap.size + 1, 2, none⟩ (.slice A6 (yw + wn) c6)) (w.heap.size + 1) 32 (grA wn hn A6 (yw + wn) c6) := hB6.set 2 _
      have hG7 : GrI w (w6.setCell ⟨w.heap.size + 1, 2, none⟩ (.slice A6 (yw + wn) c6)) wn hn A6 (yw + wn) c6 := ⟨hB7, hR6.far (by simp) _, ⟨l' ++ l5, (fun x hx => by
        rcases List.mem_append.1 hx with h | h
        · exact ok x h
        · exact hR5.ok x h), own_far hO6 _ (by simp) _⟩, hb6.setCell (by simp) _⟩
      go_roundw
      case rel => exact ⟨y + 1, yw + wn, A6, c6, hlt, (by rw [HYW.out, Nat.succ_mul]), by go_num, hG7⟩
      case measure =>
        show hn - ((y : Int) + 1).toNat < hn - (y : Int).toNat
        omega
    · have d1 : decide ((y : Int) < (hn : Int)) = false := decide_eq_false (by omega)
      have d2 : decide (y < hn) = false := decide_eq_false hlt
      obtain rfl : y = hn := by omega
      obtain rfl : yw = n := by rw [hyw, HN.out, Nat.mul_comm]
      obtain ⟨hB, hR, ⟨l', ok, hO⟩, hb⟩ := hG
      have b0 : wr.cell? ⟨w.heap.size + 1, 0, none⟩ = some (.int .i64 (wn : Int)) := hB.cell 0
      have b1 : wr.cell? ⟨w.heap.size + 1, 1, none⟩ = some (.int .i64 (y : Int)) := hB.cell 1
      have b2 : wr.cell? ⟨w.heap.size + 1, 2, none⟩ = some (.slice A yw c') := hB.cell 2
      have r0 : wr.cell? ⟨w.heap.size, 0, none⟩ = some (.int .i64 0) := hR.cell 0
      have r1 : wr.cell? ⟨w.heap.size, 1, none⟩ = some (.int .i64 0) := hR.cell 1
      have r2 : wr.cell? ⟨w.heap.size, 2, none⟩ = some (.slice none 0 0) := hR.cell 2
      have f0 := hR.free 0
      have f1 := hR.free 1
      have f2 := hR.free 2
      clear hyw HN
      go_wp2_with fail
      have hR1 : Blk (wr.setCell ⟨w.heap.size, 0, none⟩ (.int .i64 (wn : Int))) w.heap.size 32 #[.int .i64 (wn : Int), .int .i64 0, .slice none 0 0] := hR.set 0 _
      have hR2 : Blk ((wr.setCell ⟨w.heap.size, 0, none⟩ (.int .i64 (wn : Int))).setCell ⟨w.heap.size, 1, none⟩ (.int .i64 (y : Int))) w.heap.size 32 #[.int .i64 (wn : Int), .int .i64 (y : Int), .slice none 0 0] := hR1.set 1 _
      have hR3 : Blk (((wr.setCell ⟨w.heap.size, 0, none⟩ (.int .i64 (wn : Int))).setCell ⟨w.heap.size, 1, none⟩ (.int .i64 (y : Int))).setCell ⟨w.heap.size, 2, none⟩ (.slice A yw c')) w.heap.size 32 (grA wn y A yw c') := hR2.set 2 _
      have hO3 := own_far (own_far (own_far hO ⟨w.heap.size, 0, none⟩ (by simp) (.int .i64 (wn : Int))) ⟨w.heap.size, 1, none⟩ (by simp) (.int .i64 (y : Int))) ⟨w.heap.size, 2, none⟩ (by simp) (.slice A yw c')
      have hb3 := ((hb.setCell (p := ⟨w.heap.size, 0, none⟩) (by simp) (.int .i64 (wn : Int))).setCell (p := ⟨w.heap.size, 1, none⟩) (by simp) (.int .i64 (y : Int))).setCell (p := ⟨w.heap.size, 2, none⟩) (by simp) (.slice A yw c')
      generalize ((wr.setCell ⟨w.heap.size, 0, none⟩ (.int .i64 (wn : Int))).setCell ⟨w.heap.size, 1, none⟩ (.int .i64 (y : Int))).setCell ⟨w.heap.size, 2, none⟩ (.slice A yw c') = w5 at hR3 hO3 hb3 ⊢
      obtain ⟨A', c'', e, hRS⟩ := RowS.of_own ok hO3
      injection e with e1 _ e2
      subst e1 e2
      have d0 : w5.cell? ⟨w.heap.size, 0, none⟩ = some (.int .i64 (wn : Int)) := hR3.cell 0
      have d1 : w5.cell? ⟨w.heap.size, 1, none⟩ = some (.int .i64 (y : Int)) := hR3.cell 1
      have d2 : w5.cell? ⟨w.heap.size, 2, none⟩ = some (.slice A yw c') := hR3.cell 2
      refine bodyPost_ret (v := grv wn y A yw c') ?_ rfl ⟨A, c', l', rfl, hRS, own_new hO3 (Nat.le_add_right _ 2), hb3⟩
      simp [results, Try.results38, go_sem, d0, d1, d2]
end Go.Proofs.Ytpjafocgabhieaa

/- Rows of cells that may be written: laws (for DiffTells). -/
namespace Go.Proofs.Ytpjafocgabhieaa
open Go.RowKit Go.Sort
/-- A row of cells of the call's own, that may be written. -/
structure RowW (w : World) (g n c : Nat) (l : List Cl) : Prop where
  len : l.length = n
  cap : n ≤ c
  cm : c ≤ maxLen
  blk : ∃ cs, Blk w g 55 cs
  row : Cels w ⟨g, 0, none⟩ l
theorem RowW.s {w : World} {g n c : Nat} {l : List Cl} (h : RowW w g n c l) : RowS w (some ⟨g, 0, none⟩) n c l := ⟨h.len, h.cap, h.cm, fun _ => ⟨_, rfl, h.row⟩, fun e => by cases e⟩
theorem RowW.of_own {w : World} {base n : Nat} {g c : Nat} {l : List Cl} (hok : OkL l) (h : w.ownsRow base 55 4 (.slice (some ⟨g, 0, none⟩) n c) n (rowV l)) : RowW w g n c l := by
  obtain ⟨A', c', e, hR⟩ := RowS.of_own hok h
  injection e with e1 _ e2
  subst e1 e2
  obtain ⟨ad, e, hC⟩ : ∃ ad, some (⟨g, 0, none⟩ : Addr) = some ad ∧ Cels w ad l := by
    rcases Nat.eq_zero_or_pos l.length with h0 | h0
    · refine ⟨_, rfl, fun k c hc => ?_⟩
      rw [List.eq_nil_of_length_eq_zero h0] at hc
      cases hc
    · exact hR.row h0
  injection e with e
  subst e
  rcases h.2 with ⟨e, _⟩ | ⟨g', cap, cur, e, _, hb, _⟩
  · cases e
  · injection e with e _ _
    injection e with e
    injection e with e
    subst e
    exact ⟨hR.len, hR.cap, hR.cm, ⟨cur, hb⟩, hC⟩
theorem RowW.lt {w : World} {g n c : Nat} {l : List Cl} (h : RowW w g n c l) : g < w.heap.size := h.blk.elim fun _ hb => hb.lt
theorem RowW.below {w w' : World} {g n c : Nat} {l : List Cl} (h : RowW w g n c l) (hb : Below w.heap.size w w') : RowW w' g n c l := by
  obtain ⟨h1, h2, h3, ⟨cs, h4⟩, h5⟩ := h
  exact ⟨h1, h2, h3, ⟨cs, h4.below hb h4.lt⟩, h5.below hb⟩
theorem at_add (g k : Nat) : ((⟨g, 0, none⟩ : Addr).add k) = ⟨g, k, none⟩ := by
  unfold Addr.add
  split <;> simp_all
theorem RowW.cell {w : World} {g n c : Nat} {l : List Cl} (h : RowW w g n c l) {k : Nat} {d : Cl} (hk : l[k]? = some d) : w.cell? ⟨g, k * 4, none⟩ = some (.int .i32 d.r) ∧ w.cell? ⟨g, k * 4 + 1, none⟩ = some (.int .u8 (d.f : Int)) ∧ w.cell? ⟨g, k * 4 + 2, none⟩ = some (.int .u8 (d.b : Int)) ∧ w.cell? ⟨g, k * 4 + 3, none⟩ = some (.int .u8 (d.x : Int)) ∧ OkC d := by
  obtain ⟨⟨h0, h1, h2, h3⟩, ok⟩ := h.row k d hk
  rw [at_add] at h0 h1 h2 h3
  exact ⟨h0, h1, h2, h3, ok⟩
theorem RowW.free {w : World} {g n c : Nat} {l : List Cl} (h : RowW w g n c l) (k : Nat) : w.frozen? ⟨g, k, none⟩ = false := h.blk.elim fun _ hb => hb.free k
/-- A cell stored whole. -/
abbrev putC (w : World) (g k : Nat) (d : Cl) : World := (((w.setCell ⟨g, k * 4, none⟩ (.int .i32 d.r)).setCell ⟨g, k * 4 + 1, none⟩ (.int .u8 (d.f : Int))).setCell ⟨g, k * 4 + 2, none⟩ (.int .u8 (d.b : Int))).setCell ⟨g, k * 4 + 3, none⟩ (.int .u8 (d.x : Int))
theorem set_at {w : World} {g : Nat} {t : TypeId} {cs : Array Value} (h : Blk w g t cs) (i j : Nat) (u : Value) (hj : j < cs.size) : (w.setCell ⟨g, i, none⟩ u).cell? ⟨g, j, none⟩ = if i = j then some u else w.cell? ⟨g, j, none⟩ := by
  rw [(h.set i u).cell j, h.cell j, Array.getElem?_setIfInBounds]
  by_cases e : i = j
  · subst e
    simp [hj]
  · simp [e]
theorem only_putC (w : World) (g k : Nat) (d : Cl) : Only g w (putC w g k d) := only_set (only_set (only_set (only_set (only_refl g w) _ _) _ _) _ _) _ _
theorem RowW.steps {w : World} {g n c : Nat} {l : List Cl} (h : RowW w g n c l) {k : Nat} {e : Cl} (he : l[k]? = some e) (d : Cl) :
    ((w.setCell ⟨g, k * 4, none⟩ (.int .i32 d.r)).cell? ⟨g, k * 4 + 1, none⟩ = some (.int .u8 (e.f : Int)) ∧ (w.setCell ⟨g, k * 4, none⟩ (.int .i32 d.r)).frozen? ⟨g, k * 4 + 1, none⟩ = false) ∧
    (((w.setCell ⟨g, k * 4, none⟩ (.int .i32 d.r)).setCell ⟨g, k * 4 + 1, none⟩ (.int .u8 (d.f : Int))).cell? ⟨g, k * 4 + 2, none⟩ = some (.int .u8 (e.b : Int)) ∧ ((w.setCell ⟨g, k * 4, none⟩ (.int .i32 d.r)).setCell ⟨g, k * 4 + 1, none⟩ (.int .u8 (d.f : Int))).frozen? ⟨g, k * 4 + 2, none⟩ = false) ∧
    ((((w.setCell ⟨g, k * 4, none⟩ (.int .i32 d.r)).setCell ⟨g, k * 4 + 1, none⟩ (.int .u8 (d.f : Int))).setCell ⟨g, k * 4 + 2, none⟩ (.int .u8 (d.b : Int))).cell? ⟨g, k * 4 + 3, none⟩ = some (.int .u8 (e.x : Int)) ∧ (((w.setCell ⟨g, k * 4, none⟩ (.int .i32 d.r)).setCell ⟨g, k * 4 + 1, none⟩ (.int .u8 (d.f : Int))).setCell ⟨g, k * 4 + 2, none⟩ (.int .u8 (d.b : Int))).frozen? ⟨g, k * 4 + 3, none⟩ = false) := by
  obtain ⟨_, q1, q2, q3, _⟩ := h.cell he
  obtain ⟨_, _, _, ⟨cs, h4⟩, _⟩ := h
  have e1 := h4.set (k * 4) (.int .i32 d.r)
  have e2 := e1.set (k * 4 + 1) (.int .u8 (d.f : Int))
  have e3 := e2.set (k * 4 + 2) (.int .u8 (d.b : Int))
  have hs : k * 4 + 3 < cs.size := by
    rw [h4.cell] at q3
    exact (Array.getElem?_eq_some_iff.1 q3).1
  refine ⟨⟨?_, e1.free _⟩, ⟨?_, e2.free _⟩, ⟨?_, e3.free _⟩⟩
  · rw [set_at h4 _ _ _ (by omega), if_neg (by omega)]
    exact q1
  · rw [set_at e1 _ _ _ (by simp; omega), if_neg (by omega), set_at h4 _ _ _ (by omega), if_neg (by omega)]
    exact q2
  · rw [set_at e2 _ _ _ (by simp; omega), if_neg (by omega), set_at e1 _ _ _ (by simp; omega), if_neg (by omega), set_at h4 _ _ _ (by omega), if_neg (by omega)]
    exact q3
theorem RowW.put {w : World} {g n c : Nat} {l : List Cl} (h : RowW w g n c l) {k : Nat} (hk : k < n) {d : Cl} (ok : OkC d) : RowW (putC w g k d) g n c (l.set k d) := by
  obtain ⟨h1, h2, h3, ⟨cs, h4⟩, h5⟩ := h
  have e1 := h4.set (k * 4) (.int .i32 d.r)
  have e2 := e1.set (k * 4 + 1) (.int .u8 (d.f : Int))
  have e3 := e2.set (k * 4 + 2) (.int .u8 (d.b : Int))
  have e4 := e3.set (k * 4 + 3) (.int .u8 (d.x : Int))
  refine ⟨by rw [List.length_set]; exact h1, h2, h3, ⟨_, e4⟩, fun i e he => ?_⟩
  have hi : i < l.length := by
    have := (List.getElem?_eq_some_iff.1 he).1
    rwa [List.length_set] at this
  have hold : ∀ j, j < 4 → i * 4 + j < cs.size := fun j hj => by
    obtain ⟨d', hd'⟩ : ∃ d', l[i]? = some d' := ⟨_, List.getElem?_eq_getElem hi⟩
    obtain ⟨⟨q0, q1, q2, q3⟩, _⟩ := h5 i d' hd'
    rw [at_add] at q0 q1 q2 q3
    rw [h4.cell] at q0 q1 q2 q3
    have := (Array.getElem?_eq_some_iff.1 q3).1
    simp only at this
    omega
  have hall : ∀ j, j < 4 → (putC w g k d).cell? ⟨g, i * 4 + j, none⟩ = if i = k then (cvs d)[j]? else w.cell? ⟨g, i * 4 + j, none⟩ := fun j hj => by
    have b0 := hold j hj
    have s1 := set_at h4 (k * 4) (i * 4 + j) (.int .i32 d.r) b0
    have s2 := set_at e1 (k * 4 + 1) (i * 4 + j) (.int .u8 (d.f : Int)) (by simpa using b0)
    have s3 := set_at e2 (k * 4 + 2) (i * 4 + j) (.int .u8 (d.b : Int)) (by simpa using b0)
    have s4 := set_at e3 (k * 4 + 3) (i * 4 + j) (.int .u8 (d.x : Int)) (by simpa using b0)
    unfold putC
    rw [s4, s3, s2, s1]
    by_cases e : i = k
    · subst e
      rw [if_pos rfl]
      rcases (show j = 0 ∨ j = 1 ∨ j = 2 ∨ j = 3 by omega) with rfl | rfl | rfl | rfl <;> simp [cvs]
    · rw [if_neg e, if_neg (by omega), if_neg (by omega), if_neg (by omega), if_neg (by omega)]
  by_cases e' : i = k
  · subst e'
    rw [List.getElem?_set_self hi] at he
    injection he with he
    subst he
    refine ⟨⟨?_, ?_, ?_, ?_⟩, ok⟩ <;> rw [at_add]
    · exact (hall 0 (by omega)).trans (by rw [if_pos rfl]; rfl)
    · exact (hall 1 (by omega)).trans (by rw [if_pos rfl]; rfl)
    · exact (hall 2 (by omega)).trans (by rw [if_pos rfl]; rfl)
    · exact (hall 3 (by omega)).trans (by rw [if_pos rfl]; rfl)
  · rw [List.getElem?_set_ne (fun h => e' h.symm)] at he
    obtain ⟨⟨q0, q1, q2, q3⟩, oke⟩ := h5 i e he
    rw [at_add] at q0 q1 q2 q3
    refine ⟨⟨?_, ?_, ?_, ?_⟩, oke⟩ <;> rw [at_add]
    · exact (hall 0 (by omega)).trans (by rw [if_neg e']; exact q0)
    · exact (hall 1 (by omega)).trans (by rw [if_neg e']; exact q1)
    · exact (hall 2 (by omega)).trans (by rw [if_neg e']; exact q2)
    · exact (hall 3 (by omega)).trans (by rw [if_neg e']; exact q3)
end Go.Proofs.Ytpjafocgabhieaa
