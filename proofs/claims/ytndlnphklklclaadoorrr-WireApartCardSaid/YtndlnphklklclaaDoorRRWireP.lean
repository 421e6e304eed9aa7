/- Messages that may be, their bytes, and that no two have the same: the plain law. -/
import Derived.Test.YtndlnphklklclaaDoorRRNumsP
import Derived.Test.YtndlnphklklclaaDoorRROpenC
namespace Go.Proofs.YtndlnphklklclaaDoorRR
open Crc Nums
/-- A message. -/
structure Mg where
  kind : Int
  gen : Int
  seq : Int
  key : Bool
  body : ByteArray
  path : ByteArray
  node : Int
  nonce : Int
abbrev Mg.v (m : Mg) : Array Value := #[.int .i64 m.kind, .int .i64 m.gen, .int .i64 m.seq, .bool m.key, .string m.body, .string m.path, .int .i64 m.node, .int .i64 m.nonce]
def PathOk (p : ByteArray) : Prop := p.size ≤ 16 ∧ ∀ (i : Nat) (h : i < p.size), p[i].toNat < 16
/-- A message that may be, as 'made' makes them. -/
inductive MgOk : Mg → Prop
  | none (k : Int) (hk : k = 1 ∨ k = 7) : MgOk ⟨k, 0, 0, false, ⟨#[]⟩, ⟨#[]⟩, 0, 0⟩
  | path (k : Int) (p : ByteArray) (hk : k = 2 ∨ k = 4) (hp : PathOk p) : MgOk ⟨k, 0, 0, false, ⟨#[]⟩, p, 0, 0⟩
  | refuse (n : Nat) (hn : n ≤ 15) : MgOk ⟨3, 0, 0, false, ⟨#[]⟩, ⟨#[]⟩, n, 0⟩
  | alive (g s : Int) (key : Bool) (hg : -1 ≤ g ∧ g ≤ 1073741824) (hs : -1 ≤ s ∧ s ≤ 1073741824) : MgOk ⟨5, g, s, key, ⟨#[]⟩, ⟨#[]⟩, 0, 0⟩
  | frame (g s : Int) (key : Bool) (b : ByteArray) (hg : 0 ≤ g ∧ g ≤ 1073741824) (hs : 0 ≤ s ∧ s ≤ 1073741824) (hb : b.size ≤ 60) : MgOk ⟨6, g, s, key, b, ⟨#[]⟩, 0, 0⟩
  | hand (k : Int) (p : ByteArray) (n c : Nat) (hk : k = 8 ∨ k = 9) (hp : PathOk p) (hn : n ≤ 15) (hc : c ≤ 1048576) : MgOk ⟨k, 0, 0, false, ⟨#[]⟩, p, n, c⟩
def txt (s : ByteArray) : List UInt8 := vb (2 * s.size) ++ s.data.toList
def keyN (b : Bool) : Int := if b then 1 else 0
/-- What a message's kind asks for. -/
def restP (m : Mg) : List UInt8 :=
  if m.kind = 8 ∨ m.kind = 9 then putL [m.node, m.nonce] ++ txt m.path
  else if m.kind = 2 ∨ m.kind = 4 then txt m.path
  else if m.kind = 3 then putL [m.node]
  else if m.kind = 5 then putL [m.gen, m.seq, keyN m.key]
  else if m.kind = 6 then putL [m.gen, m.seq, keyN m.key] ++ txt m.body
  else []
def bodyP (m : Mg) : List UInt8 := putL [m.kind] ++ restP m
theorem vb_inj : ∀ (u u' : Nat) (r r' : List UInt8), vb u ++ r = vb u' ++ r' → u = u' ∧ r = r' := by
  intro u
  induction u using Nat.strongRecOn with
  | _ u ih =>
    intro u' r r' h
    by_cases h1 : u < 128
    · by_cases h2 : u' < 128
      · rw [vb_small h1, vb_small h2] at h
        simp only [List.cons_append, List.nil_append, List.cons.injEq] at h
        have h3 := congrArg UInt8.toNat h.1
        simp only [UInt8.toNat_ofNat'] at h3
        exact ⟨by omega, h.2⟩
      · rw [vb_small h1, vb_great h2] at h
        simp only [List.cons_append, List.nil_append, List.cons.injEq] at h
        have h3 := congrArg UInt8.toNat h.1
        simp only [UInt8.toNat_ofNat'] at h3
        omega
    · by_cases h2 : u' < 128
      · rw [vb_great h1, vb_small h2] at h
        simp only [List.cons_append, List.nil_append, List.cons.injEq] at h
        have h3 := congrArg UInt8.toNat h.1
        simp only [UInt8.toNat_ofNat'] at h3
        omega
      · rw [vb_great h1, vb_great h2] at h
        simp only [List.cons_append, List.cons.injEq] at h
        have h3 := congrArg UInt8.toNat h.1
        simp only [UInt8.toNat_ofNat'] at h3
        obtain ⟨h4, h5⟩ := ih (u / 128) (by omega) (u' / 128) r r' h.2
        exact ⟨by omega, h5⟩
theorem zz_inj {a b : Int} (h : zz a = zz b) : a = b := by
  unfold zz at h
  split at h <;> split at h <;> omega
theorem put_inj {a b : Int} {r r' : List UInt8} (h : putL [a] ++ r = putL [b] ++ r') : a = b ∧ r = r' := by
  rw [putL_one, putL_one] at h
  obtain ⟨h1, h2⟩ := vb_inj _ _ _ _ h
  exact ⟨zz_inj h1, h2⟩
theorem txt_inj {a b : ByteArray} {r r' : List UInt8} (h : txt a ++ r = txt b ++ r') : a = b ∧ r = r' := by
  unfold txt at h
  rw [List.append_assoc, List.append_assoc] at h
  obtain ⟨h1, h2⟩ := vb_inj _ _ _ _ h
  have h3 : a.data.toList.length = b.data.toList.length := by
    show a.size = b.size
    omega
  obtain ⟨h4, h5⟩ := List.append_inj h2 h3
  exact ⟨ByteArray.ext (Array.ext' h4), h5⟩
theorem keyN_inj {a b : Bool} (h : keyN a = keyN b) : a = b := by
  cases a <;> cases b <;> simp [keyN] at h ⊢
theorem put2 (a b : Int) (r : List UInt8) : putL [a, b] ++ r = putL [a] ++ (putL [b] ++ r) := by
  rw [show putL [a, b] = putL [a] ++ putL [b] from putL_append [a] [b], List.append_assoc]
theorem put3 (a b c : Int) (r : List UInt8) : putL [a, b, c] ++ r = putL [a] ++ (putL [b] ++ (putL [c] ++ r)) := by
  rw [show putL [a, b, c] = putL [a] ++ (putL [b] ++ putL [c]) from by rw [← putL_append, ← putL_append]; rfl, List.append_assoc, List.append_assoc]
theorem rest_inj {a b : Mg} (ha : MgOk a) (hb : MgOk b) (hk : a.kind = b.kind) (h : restP a = restP b) : a = b := by
  cases ha with
  | none k h1 =>
    cases hb <;> simp only at hk <;> first | (subst hk; rfl) | (exfalso; omega)
  | path k p h1 =>
    cases hb with
    | path k' p' h2 =>
      simp only at hk
      subst hk
      have hr : ∀ q : ByteArray, restP ⟨k, 0, 0, false, ⟨#[]⟩, q, 0, 0⟩ = txt q := fun q => by
        unfold restP
        simp only
        rw [if_neg (by omega), if_pos h1]
      rw [hr, hr] at h
      obtain ⟨h3, _⟩ := txt_inj (show txt p ++ [] = txt p' ++ [] by rw [h])
      rw [h3]
    | _ => simp only at hk; exfalso; omega
  | refuse n h1 =>
    cases hb with
    | refuse n' h2 =>
      have hr : ∀ q : Nat, restP ⟨3, 0, 0, false, ⟨#[]⟩, ⟨#[]⟩, q, 0⟩ = putL [(q : Int)] := fun q => by
        unfold restP
        simp
      rw [hr, hr] at h
      obtain ⟨h3, _⟩ := put_inj (show putL [(n : Int)] ++ [] = putL [(n' : Int)] ++ [] by rw [h])
      rw [h3]
    | _ => simp only at hk; exfalso; omega
  | alive g s key h1 h2 =>
    cases hb with
    | alive g' s' key' h3 h4 =>
      have hr : ∀ (g s : Int) (key : Bool), restP ⟨5, g, s, key, ⟨#[]⟩, ⟨#[]⟩, 0, 0⟩ = putL [g, s, keyN key] ++ [] := fun g s key => by
        unfold restP
        simp
      rw [hr, hr, put3, put3] at h
      obtain ⟨h5, h⟩ := put_inj h
      obtain ⟨h6, h⟩ := put_inj h
      obtain ⟨h7, _⟩ := put_inj h
      rw [h5, h6, keyN_inj h7]
    | _ => simp only at hk; exfalso; omega
  | frame g s key bo h1 h2 h2' =>
    cases hb with
    | frame g' s' key' bo' h3 h4 h4' =>
      have hr : ∀ (g s : Int) (key : Bool) (b : ByteArray), restP ⟨6, g, s, key, b, ⟨#[]⟩, 0, 0⟩ = putL [g, s, keyN key] ++ txt b := fun g s key b => by
        unfold restP
        simp
      rw [hr, hr, put3, put3] at h
      obtain ⟨h5, h⟩ := put_inj h
      obtain ⟨h6, h⟩ := put_inj h
      obtain ⟨h7, h⟩ := put_inj h
      obtain ⟨h8, _⟩ := txt_inj (show txt bo ++ [] = txt bo' ++ [] by rw [h])
      rw [h5, h6, keyN_inj h7, h8]
    | _ => simp only at hk; exfalso; omega
  | hand k p n c h1 =>
    cases hb with
    | hand k' p' n' c' h2 =>
      simp only at hk
      subst hk
      have hr : ∀ (q : ByteArray) (n c : Nat), restP ⟨k, 0, 0, false, ⟨#[]⟩, q, n, c⟩ = putL [(n : Int), (c : Int)] ++ txt q := fun q n c => by
        unfold restP
        simp only
        rw [if_pos h1]
      rw [hr, hr, put2, put2] at h
      obtain ⟨h5, h⟩ := put_inj h
      obtain ⟨h6, h⟩ := put_inj h
      obtain ⟨h8, _⟩ := txt_inj (show txt p ++ [] = txt p' ++ [] by rw [h])
      rw [h5, h6, h8]
    | _ => simp only at hk; exfalso; omega
theorem body_inj {a b : Mg} (ha : MgOk a) (hb : MgOk b) (h : bodyP a = bodyP b) : a = b := by
  unfold bodyP at h
  obtain ⟨h1, h2⟩ := put_inj h
  exact rest_inj ha hb h1 h2
def bodyB (m : Mg) : ByteArray := ⟨(bodyP m).toArray⟩
/-- The packet of a message. -/
def packB (m : Mg) : ByteArray := bodyB m ++ sumB (crc (bodyB m).data.toList)
theorem pack_inj {a b : Mg} (ha : MgOk a) (hb : MgOk b) (h : packB a = packB b) : a = b := by
  unfold packB at h
  have h1 := congrArg ByteArray.size h
  rw [ByteArray.size_append, ByteArray.size_append, sumB_size, sumB_size] at h1
  have h2 := ext_left (bodyB a) (sumB (crc (bodyB a).data.toList))
  have h3 := ext_left (bodyB b) (sumB (crc (bodyB b).data.toList))
  rw [h, show (bodyB a).size = (bodyB b).size from by omega, h3] at h2
  have h4 := congrArg (fun x : ByteArray => x.data.toList) h2
  simp only [bodyB] at h4
  exact body_inj ha hb h4.symm
theorem pack_size (m : Mg) : 5 ≤ (packB m).size := by
  unfold packB
  rw [ByteArray.size_append, sumB_size]
  have h1 : (bodyB m).size = (bodyP m).length := by simp [bodyB, ByteArray.size]
  have h2 := vb_pos (zz m.kind)
  rw [h1]
  unfold bodyP
  rw [putL_one, List.length_append]
  omega
theorem txt_len (s : ByteArray) (h : s.size ≤ 60) : (txt s).length ≤ 70 := by
  unfold txt
  have h1 : (vb (2 * s.size)).length ≤ 1 := by
    rw [vb_small (by omega)]
    simp
  rw [List.length_append]
  have h2 : s.data.toList.length = s.size := rfl
  omega
theorem body_size {m : Mg} (h : MgOk m) : (bodyB m).size ≤ 200 := by
  have hsz : (bodyB m).size = (bodyP m).length := by simp [bodyB, ByteArray.size]
  have hp : ∀ l : List Int, (∀ n ∈ l, -9223372036854775808 ≤ n ∧ n ≤ 9223372036854775807) → (putL l).length ≤ 10 * l.length := putL_len
  rw [hsz]
  clear hsz
  unfold bodyP
  rw [List.length_append]
  have hk : (putL [m.kind]).length ≤ 10 := hp [m.kind] (fun n hn => by
    simp at hn
    subst hn
    cases h <;> simp only <;> omega)
  have hr : (restP m).length ≤ 100 := by
    unfold restP
    cases h with
    | none k h1 => simp only; rw [if_neg (by omega), if_neg (by omega), if_neg (by omega), if_neg (by omega), if_neg (by omega)]; simp
    | path k p h1 hp' =>
      have := txt_len p (by have := hp'.1; omega)
      simp only
      rw [if_neg (by omega), if_pos h1]
      omega
    | refuse n h1 =>
      have := hp [(n : Int)] (fun x hx => by simp at hx; omega)
      simp at this ⊢
      omega
    | alive g s key h1 h2 =>
      have := hp [g, s, keyN key] (fun x hx => by
        simp at hx
        rcases hx with rfl | rfl | rfl
        · omega
        · omega
        · cases key <;> simp [keyN])
      simp at this ⊢
      omega
    | frame g s key b h1 h2 h3 =>
      have := hp [g, s, keyN key] (fun x hx => by
        simp at hx
        rcases hx with rfl | rfl | rfl
        · omega
        · omega
        · cases key <;> simp [keyN])
      have := txt_len b h3
      simp at *
      omega
    | hand k p n c h1 hp' h2 h3 =>
      have := hp [(n : Int), (c : Int)] (fun x hx => by
        simp at hx
        rcases hx with rfl | rfl <;> omega)
      have := txt_len p (by have := hp'.1; omega)
      simp only
      rw [if_pos h1, List.length_append]
      simp at *
      omega
  omega
end Go.Proofs.YtndlnphklklclaaDoorRR
