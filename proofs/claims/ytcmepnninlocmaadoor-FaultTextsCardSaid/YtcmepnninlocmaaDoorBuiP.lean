/- built, walked: the pile behind the steps. -/
import Derived.Test.YtcmepnninlocmaaDoorStL
import Derived.Test.YtcmepnninlocmaaDoorSrcL2
import Derived.Maps.AppendAt
import Derived.Deep.Cut
import Derived.Deep.CutRange
import Derived.Deep.CutBlock
import Derived.Deep.RegionHeld3
namespace Go.Proofs.YtcmepnninlocmaaDoor
open Go.RowKit
abbrev opC (kd cd pl : Int) (s : ByteArray) (far : Bool) : Array Value := #[.int .i64 kd, .int .i64 cd, .int .i64 pl, .string s, .bool far]
/-- The slice at A has n steps. -/
def OpsAt (w : World) (A : Option Addr) (n : Nat) : Prop := ∀ i, i < n → ∃ ad, A = some ad ∧ ∃ (kd cd pl : Int) (s : ByteArray) (far : Bool), Fit64 cd ∧ Fit64 pl ∧ s.size ≤ maxLen ∧ ∀ j u, (opC kd cd pl s far)[j]? = some u → w.cell? ((ad.add (i * 5)).add j) = some u
theorem OpsAt.below {w w' : World} {A : Option Addr} {n : Nat} (h : OpsAt w A n) {B : Nat} (hb : Below B w w') (hB : w.heap.size ≤ B) : OpsAt w' A n := by
  intro i hi
  obtain ⟨ad, he, kd, cd, pl, s, far, f1, f2, f3, hc⟩ := h i hi
  refine ⟨ad, he, kd, cd, pl, s, far, f1, f2, f3, fun j u hj => ?_⟩
  have h1 := hc j u hj
  have h2 := World.block_lt_of_cell? w _ h1
  exact (hb.cell (by omega)).trans h1
/-- The two piles, of one length. -/
def PileAt (w : World) (B : Nat) (va vb : Value) (N pt : Nat) : Prop := ∃ (vs : List Value) (es : List E5) (fs : List (Option Ft)), vs.length = N ∧ es.length = N ∧ St w B va vb vs es fs ∧ pot fs ≤ pt
theorem PileAt.below {w w' : World} {B : Nat} {va vb : Value} {N pt : Nat} (h : PileAt w B va vb N pt) (hb : Below w.heap.size w w') : PileAt w' B va vb N pt := by
  obtain ⟨vs, es, fs, h1, h2, h3, h4⟩ := h
  exact ⟨vs, es, fs, h1, h2, h3.below hb, h4⟩
theorem PileAt.more {w : World} {B : Nat} {va vb : Value} {N pt pt' : Nat} (h : PileAt w B va vb N pt) (hp : pt ≤ pt') : PileAt w B va vb N pt' := by
  obtain ⟨vs, es, fs, h1, h2, h3, h4⟩ := h
  exact ⟨vs, es, fs, h1, h2, h3, Nat.le_trans h4 hp⟩
theorem and_low (x M : Int) (m : Nat) (hM : M = (m : Nat)) (hm : m < 9223372036854775808) : ∃ k : Nat, k ≤ m ∧ bits .and .i64 x M = (k : Nat) := by
  subst hM
  have hle : (BitVec.ofInt 64 x &&& BitVec.ofInt 64 (m : Nat)).toNat ≤ m := by
    rw [BitVec.toNat_and]
    have h : (BitVec.ofInt 64 (m : Nat)).toNat = m := by
      rw [BitVec.toNat_ofInt]
      omega
    rw [h]
    exact Nat.and_le_right
  refine ⟨(BitVec.ofInt 64 x &&& BitVec.ofInt 64 (m : Nat)).toNat, hle, ?_⟩
  show IntKind.i64.wrap ((BitVec.ofInt 64 x &&& BitVec.ofInt 64 (m : Nat)).toNat : Int) = _
  rw [IntKind.wrap_i64]
  omega
theorem isErr_one {v : Value} (h : IsErr v) : v.oneCell' = true := by
  rcases h with rfl | ⟨T, x, rfl⟩ <;> rfl
theorem news_one (w : World) (v : Value) (t : TypeId) : ∀ j u, ([v] : List Value)[j]? = some u → (w.alloc (.cells #[v] t)).cell? ((⟨w.heap.size, 0, none⟩ : Addr).add j) = some u := fun j u hj => by
  have h0 : j = 0 := by
    have := (List.getElem?_eq_some_iff.1 hj).1
    simp at this
    exact this
  subst h0
  simp at hj
  subst hj
  simp [Addr.add]
theorem news_all (w : World) (cs : Array Value) (t : TypeId) : ∀ j u, cs.toList[j]? = some u → (w.alloc (.cells cs t)).cell? ((⟨w.heap.size, 0, none⟩ : Addr).add j) = some u := fun j u hj => by
  have h := World.cell?_alloc_mark w cs t (0, 0) j
  rw [show ((⟨w.heap.size, 0, none⟩ : Addr).add j) = ⟨w.heap.size, j, none⟩ from by unfold Addr.add; split <;> simp_all]
  rw [h]
  simpa using hj
theorem pot_push (fs : List (Option Ft)) (F : Option Ft) : pot (fs ++ [F]) = pot fs + ((txtO F).length + 2) := by simp [pot]
theorem pot_set : ∀ (fs : List (Option Ft)) (i : Nat) (F G : Option Ft), fs[i]? = some G → pot (fs.set i F) + (txtO G).length = pot fs + (txtO F).length
  | [], i, F, G, h => by simp at h
  | x :: fs, 0, F, G, h => by
    simp at h
    subst h
    simp [pot]
    omega
  | x :: fs, i + 1, F, G, h => by
    have := pot_set fs i F G (by simpa using h)
    simp [pot] at this ⊢
    omega
theorem newO_len (c : Int) (h : Fit64 c) : (txtO (newO c)).length ≤ 40 := by
  unfold newO
  split
  · simp [txtO]
  · show (Ft.txt (.code c)).length ≤ 40
    simp only [Ft.txt]
    exact (errL_len c h).2
theorem atO_len (F : Option Ft) (n : Int) (h : Fit64 n) : (txtO (atO F n)).length ≤ (txtO F).length + 30 := by
  cases F with
  | none => simp [atO, txtO]
  | some F =>
    have := Lib.itoa_length_le n h.1 h.2
    show (Ft.txt (.placed F n)).length ≤ F.txt.length + 30
    simp only [Ft.txt, List.length_append]
    simp
    omega
theorem inO_len (F : Option Ft) (s : ByteArray) (h : s.size ≤ 8) : (txtO (inO F s)).length ≤ (txtO F).length + 30 := by
  cases F with
  | none => simp [inO, txtO]
  | some F =>
    have hs : s.data.toList.length = s.size := rfl
    show (Ft.txt (.worded F s)).length ≤ F.txt.length + 30
    simp only [Ft.txt, List.length_append]
    simp
    have : s.data.size = s.size := rfl
    omega
theorem at_o_some {o p : Option Nat} {F : Ft} {v : Value} (n : Int) (w : World) (hn : Fit64 n) (h2 : In2 w o p) (hF : FtO (hide2 w o p) (some F) v) :
    Calls Tryd.prog 10 #[v, .int .i64 n] w fun e w' => ∃ T x, e = .returned (.iface T x) ∧ FtO (hide2 w' o p) (some (.placed F n)) (.iface T x) ∧ Below w.heap.size w w' :=
  (at_o n w hn h2 hF).mono fun e w' ⟨⟨v', he, hF'⟩, hb⟩ => by
    have hF2 : FtAt (hide2 w' o p) (.placed F n) v' := hF'
    obtain ⟨T, x, rfl⟩ := FtAt.isErr hF2
    exact ⟨T, x, he, hF', hb⟩
theorem own_shape {w : World} {B : Nat} {e : TypeId} {size n c : Nat} {A : Option Addr} {xs : List Value} (h : w.ownsRow B e size (.slice A n c) n xs) : (A = none ∧ n = 0 ∧ c = 0) ∨ ∃ g, A = some ⟨g, 0, none⟩ ∧ n ≤ c := by
  rcases h.2 with ⟨h1, h2⟩ | ⟨g, cap, cur, h1, _, _, h4, _⟩
  · injection h1 with h1 _ h3
    exact .inl ⟨h1, h2, h3⟩
  · injection h1 with h1 _ h3
    exact .inr ⟨g, h1, by omega⟩
theorem FtOs.drop {w : World} {fs : List (Option Ft)} {vs : List Value} (h : FtOs w fs vs) (q : Nat) : FtOs w (fs.drop q) (vs.drop q) := ⟨by rw [List.length_drop, List.length_drop, h.1], fun i F v h1 h2 => h.2 (q + i) F v (by rw [List.getElem?_drop] at h1; exact h1) (by rw [List.getElem?_drop] at h2; exact h2)⟩
theorem e5_drop : ∀ (es : List E5) (q : Nat), (es.drop q).flatMap e5 = (es.flatMap e5).drop (q * 5)
  | es, 0 => by simp
  | [], q + 1 => by simp
  | x :: es, q + 1 => by
    rw [List.drop_succ_cons, List.flatMap_cons, e5_drop es q, show (q + 1) * 5 = (e5 x).length + q * 5 from by show _ = 5 + q * 5; omega, List.drop_append]
    simp
theorem own_empty (w : World) (e : TypeId) (size : Nat) : (w.alloc (.cells #[] e)).ownsRow w.heap.size e size (.slice (some ⟨w.heap.size, 0, none⟩) 0 0) 0 [] := ⟨by simp, .inr ⟨w.heap.size, 0, #[], rfl, Nat.le_refl _, heap_alloc_new w _, Nat.le_refl _, Nat.zero_le _, by simp, by simp⟩⟩
theorem FtOs.errs {w : World} {fs : List (Option Ft)} {vs : List Value} (h : FtOs w fs vs) : ∀ v ∈ vs, IsErr v := fun v hv => by
  obtain ⟨i, hi, hiv⟩ := List.mem_iff_getElem.1 hv
  have hfi : i < fs.length := by rw [h.1]; exact hi
  exact (h.2 i fs[i] v (List.getElem?_eq_getElem hfi) (by rw [List.getElem?_eq_getElem hi, hiv])).isErr
theorem add_zero' (g q : Nat) : ((⟨g, 0, none⟩ : Addr).add q) = ⟨g, q, none⟩ := by
  unfold Addr.add
  by_cases h : q = 0 <;> simp [h]
theorem add_any (g q i : Nat) : ((⟨g, q, none⟩ : Addr).add i) = ⟨g, q + i, none⟩ := by
  unfold Addr.add
  by_cases h : i = 0 <;> simp [h]
/-- What the last of a pile is, and where. -/
theorem St.last {w : World} {B j : Nat} {Aa Ab : Option Addr} {ca cb : Nat} {vs : List Value} {es : List E5} {fs : List (Option Ft)} (h : St w B (.slice Aa (j + 1) ca) (.slice Ab (j + 1) cb) vs es fs) (hv : vs.length = j + 1) (he : es.length = j + 1) :
    ∃ (ga gb : Nat) (v : Value) (F : Option Ft) (kd c p : Int) (s : ByteArray) (A : Option Addr) (n cc : Nat), Aa = some ⟨ga, 0, none⟩ ∧ Ab = some ⟨gb, 0, none⟩ ∧ fs[j]? = some F ∧ FtO (hide2 w (some ga) (some gb)) F v ∧
      w.cell? ⟨ga, j, none⟩ = some v ∧ w.frozen? ⟨ga, j, none⟩ = false ∧
      w.cell? ⟨gb, j * 5, none⟩ = some (.int .i64 kd) ∧ w.cell? ⟨gb, j * 5 + 1, none⟩ = some (.int .i64 c) ∧ w.cell? ⟨gb, j * 5 + 2, none⟩ = some (.int .i64 p) ∧ w.cell? ⟨gb, j * 5 + 3, none⟩ = some (.string s) ∧ w.cell? ⟨gb, j * 5 + 4, none⟩ = some (.slice A n cc) ∧ (∀ q, w.frozen? ⟨gb, q, none⟩ = false) ∧ ga < w.heap.size ∧ gb < w.heap.size ∧ ga ≠ gb ∧ B ≤ ga ∧ B ≤ gb := by
  have ha := h.a
  have hb := h.b
  have hform : ∀ {e : TypeId} {size n c : Nat} {A : Option Addr} {xs : List Value}, w.ownsRow B e size (.slice A n c) n xs → n ≠ 0 → ∃ g, A = some ⟨g, 0, none⟩ := fun h0 hn => by
    rcases h0.2 with ⟨_, h1⟩ | ⟨g', cap, cur, h1, _⟩
    · exact absurd h1 hn
    · injection h1 with h1
      exact ⟨g', h1⟩
  rw [hv] at ha
  rw [he] at hb
  obtain ⟨ga, rfl⟩ := hform ha (by omega)
  obtain ⟨gb, rfl⟩ := hform hb (by omega)
  obtain ⟨v, hvj⟩ : ∃ v, vs[j]? = some v := ⟨_, List.getElem?_eq_getElem (by omega)⟩
  obtain ⟨F, hFj⟩ : ∃ F, fs[j]? = some F := ⟨_, List.getElem?_eq_getElem (by rw [h.f.1]; omega)⟩
  obtain ⟨⟨kd, c, p, s, A, n, cc⟩, hx⟩ : ∃ x, es[j]? = some x := ⟨_, List.getElem?_eq_getElem (by omega)⟩
  obtain ⟨cura, hBa⟩ := own_blk ha
  obtain ⟨curb, hBb⟩ := own_blk hb
  have hadd : ∀ g q : Nat, ((⟨g, 0, none⟩ : Addr).add q) = ⟨g, q, none⟩ := fun g q => by unfold Addr.add; split <;> simp_all
  have hca := ha.cells (g := ga) rfl j v hvj
  rw [hadd] at hca
  have hcb : ∀ q u, (e5 (kd, c, p, s, A, n, cc))[q]? = some u → w.cell? ⟨gb, j * 5 + q, none⟩ = some u := fun q u hq => by
    have h1 := hb.cells (g := gb) rfl (j * 5 + q) u (e5_at es j _ hx q u hq)
    rwa [hadd] at h1
  refine ⟨ga, gb, v, F, kd, c, p, s, A, n, cc, rfl, rfl, hFj, h.f.2 j F v hFj hvj, hca, hBa.free j, hcb 0 _ rfl, hcb 1 _ rfl, hcb 2 _ rfl, hcb 3 _ rfl, hcb 4 _ rfl, fun q => hBb.free q, (ha.lt ga rfl).2, (hb.lt gb rfl).2, ?_, (ha.lt ga rfl).1, (hb.lt gb rfl).1⟩
  intro e
  exact own_ne ha hb (by decide) (show (Value.slice (some ⟨ga, 0, none⟩) (j + 1) ca).ownBlock = some ga from rfl) (by rw [e]; rfl)
theorem txts_le : ∀ (es : List Ft) (k : Nat), (txts k es).length ≤ (es.map fun e => e.txt.length + 2).sum
  | [], k => by simp [txts]
  | e :: es, k => by
    have ih := txts_le es (k + 1)
    simp only [txts, List.length_append, List.map_cons, List.sum_cons]
    have : (if 0 < k then ([59, 32] : List UInt8) else []).length ≤ 2 := by split <;> simp
    omega
theorem pot_kept : ∀ fs : List (Option Ft), ((fs.filterMap id).map fun e => e.txt.length + 2).sum ≤ pot fs
  | [] => by simp [pot]
  | none :: fs => by
    have ih := pot_kept fs
    simp [pot] at ih ⊢
    omega
  | some F :: fs => by
    have ih := pot_kept fs
    simp [pot, txtO] at ih ⊢
    omega
theorem joinO_txt (fs : List (Option Ft)) : (txtO (joinO fs)).length ≤ pot fs := by
  have h := pot_kept fs
  unfold joinO
  cases hf : fs.filterMap id with
  | nil => simp [txtO]
  | cons F es =>
    rw [hf] at h
    cases es with
    | nil =>
      simp at h
      show F.txt.length ≤ _
      omega
    | cons G es =>
      have h2 := txts_le (F :: G :: es) 0
      show (Ft.txt (.row (F :: G :: es))).length ≤ _
      unfold Ft.txt
      omega
theorem pot_split (fs : List (Option Ft)) (q : Nat) : pot (fs.take q) + pot (fs.drop q) = pot fs := by
  unfold pot
  rw [← List.sum_append, ← List.map_append, List.take_append_drop]
theorem joinO_len (fs : List (Option Ft)) (q : Nat) : pot (fs.take q ++ [joinO (fs.drop q)]) ≤ pot fs + 2 := by
  have h1 := joinO_txt (fs.drop q)
  have h2 := pot_split fs q
  rw [pot_push]
  omega
theorem e5_take : ∀ (es : List E5) (q : Nat), (es.take q).flatMap e5 = (es.flatMap e5).take (q * 5)
  | es, 0 => by simp
  | [], q + 1 => by simp
  | x :: es, q + 1 => by
    rw [List.take_succ_cons, List.flatMap_cons, List.flatMap_cons, e5_take es q, show (q + 1) * 5 = (e5 x).length + q * 5 from by show _ = 5 + q * 5; omega, List.take_length_add_append]
def bL : Code → Code | .seq a _ => a | c => c
noncomputable def bR : Code → Code | .seq _ b => b | c => c
noncomputable def bB : Code → Code | .block _ b => b | c => c
noncomputable def bO : Code → Code | .loop b => b | c => c
/-- The code of built's choice. -/
noncomputable def brCode : Code := (bR (bR (bR (bR (bR (bR (bR (bB (bL (bR (bO (bB (bR (bL (bR (bR (bR (match Tryd.f6.body with | some c => c | none => .skip))))))))))))))))))
end Go.Proofs.YtcmepnninlocmaaDoor
