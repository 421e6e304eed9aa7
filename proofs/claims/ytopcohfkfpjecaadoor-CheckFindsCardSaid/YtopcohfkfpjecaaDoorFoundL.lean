/- What was spoilt is found: the plain law (what was wrapped has one sum). -/
import Derived.Test.YtopcohfkfpjecaaDoorOpenL
import Derived.Test.YtopcohfkfpjecaaDoorTurnL
namespace Go.Proofs.YtopcohfkfpjecaaDoor
open Go.RowKit Crc
theorem byte_nat (n : Nat) : (UInt8.ofNat n).toNat = n % 256 := by simp
/-- What was wrapped has one sum, whatever it is. -/
theorem residue (y : List UInt8) : crc (y ++ sumL (crc y)) = eight (eight (eight (eight ones))) ^^^ ones := by
  have hlt := crc_lt y
  have hw := word_eq (crc y % 256) (crc y / 256 % 256) (crc y / 65536 % 256) (crc y / 16777216 % 256) (by omega) (by omega) (by omega)
  have hs : crc y % 256 + crc y / 256 % 256 * 256 + crc y / 65536 % 256 * 65536 + crc y / 16777216 % 256 * 16777216 = crc y := by omega
  rw [hs] at hw
  have h1 : run ones (y ++ sumL (crc y)) = eight (eight (eight (eight ones))) := by
    rw [run_append]
    unfold sumL
    rw [run_cons, run_cons, run_cons, run_cons, run_nil, byte_nat, byte_nat, byte_nat, byte_nat, four, hw]
    unfold crc
    rw [← Nat.xor_assoc, Nat.xor_self, Nat.zero_xor]
  show run ones (y ++ sumL (crc y)) ^^^ ones = _
  rw [h1]
theorem turn_zero (l : List UInt8) (k : Nat) (bs : List UInt8) (hb : bs.length = 4) (hk : k + 4 ≤ l.length) (h : (bs.take 4).all (· == 0) = true) : turn l k bs 4 = l := by
  obtain ⟨p, m, rfl, rfl⟩ : ∃ p m, l = p ++ m ∧ k = p.length := ⟨l.take k, l.drop k, (List.take_append_drop k l).symm, by rw [List.length_take]; omega⟩
  rw [List.length_append] at hk
  obtain ⟨a, b, c, d, q, rfl⟩ := four_more (show 4 ≤ m.length by omega)
  obtain ⟨e, f, g, i, r, rfl⟩ := four_more (show 4 ≤ bs.length by omega)
  obtain rfl : r = [] := by simpa using hb
  rw [List.append_nil, ← List.append_assoc, turn4]
  simp at h
  obtain ⟨rfl, rfl, rfl, rfl⟩ := h
  simp
theorem found (a : ByteArray) (h : a.size ≤ 4096) (l : List UInt8) (hl : l = (a ++ sumB (crc a.data.toList)).data.toList) (k : Nat) (bs : List UInt8) (hb : bs.length = 4) (hk : k + 4 ≤ l.length) :
    openP ⟨(turn l k bs 4).toArray⟩ = if (bs.take 4).all (· == 0) = true then (a, 0) else (ByteArray.empty, 17) := by
  have hlen : l.length = a.size + 4 := by
    rw [hl]
    show (a ++ sumB (crc a.data.toList)).size = _
    rw [ByteArray.size_append, sumB_size]
  by_cases h0 : (bs.take 4).all (· == 0) = true
  · rw [if_pos h0, turn_zero l k bs hb hk h0, hl, ba_of]
    exact open_wrap a h
  · rw [if_neg h0]
    have hcmp := compare l k bs hb hk
    have htl := turn_len l k bs 4
    generalize turn l k bs 4 = t at hcmp htl ⊢
    have hts : (⟨t.toArray⟩ : ByteArray).size = a.size + 4 := by
      show t.toArray.size = _
      rw [List.size_toArray, htl, hlen]
    unfold openP
    rw [hts, show a.size + 4 - 4 = a.size from by omega, if_neg (by omega), if_neg (by omega)]
    rw [if_neg]
    intro he
    have he2 := congrArg (fun b : ByteArray => b.data.toList) he
    have hy : ((⟨t.toArray⟩ : ByteArray).extract 0 a.size).data.toList = t.take a.size := by simp
    have hz : ((⟨t.toArray⟩ : ByteArray).extract a.size (a.size + 4)).data.toList = t.drop a.size := by
      simp
      rw [List.take_of_length_le (by rw [List.length_drop]; omega)]
    simp only [hz, hy] at he2
    have ht : t = t.take a.size ++ sumL (crc (t.take a.size)) := by
      conv => lhs; rw [← List.take_append_drop a.size t, he2]
      rfl
    have hl2 : l = a.data.toList ++ sumL (crc a.data.toList) := by
      rw [hl, ba_data]
      rfl
    have e1 : crc t = crc l := by rw [ht, hl2, residue, residue]
    rw [e1, beq_self_eq_true] at hcmp
    exact h0 hcmp.symm
end Go.Proofs.YtopcohfkfpjecaaDoor
