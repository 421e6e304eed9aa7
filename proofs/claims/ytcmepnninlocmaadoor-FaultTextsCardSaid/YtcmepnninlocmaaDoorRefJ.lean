/- The document's Join of faults, walked. -/
import Derived.Test.YtcmepnninlocmaaDoorRefE
namespace Go.Proofs.YtcmepnninlocmaaDoor
open Go.RowKit
theorem src_new (w : World) (cs : Array Value) (t : TypeId) : Src (w.alloc (.cells cs t)) (some ⟨w.heap.size, 0, none⟩) cs.toList := fun _ => ⟨_, rfl, fun j u hj => by
  have h := World.cell?_alloc_mark w cs t (0, 0) j
  rw [show ((⟨w.heap.size, 0, none⟩ : Addr).add j) = ⟨w.heap.size, j, none⟩ from by unfold Addr.add; split <;> simp_all]
  rw [h]
  simpa using hj⟩
abbrev zero5 : Array Value := #[.int .i64 0, .int .i64 0, .int .i64 0, .string ⟨#[]⟩, .slice none 0 0]
set_option maxRecDepth 100000 in
set_option maxHeartbeats 2000000 in
theorem refJoin_any (A : Option Addr) (n c : Nat) (l : List E5) (w : World) (hn : l.length = n) (hn1 : n ≤ 100000) (hA : Src w A (l.flatMap e5)) :
    Calls Tryd.prog 18 #[.slice A n c] w fun e w' => RetE e ∧ Below w.heap.size w w' := by
  subst hn
  obtain ⟨i0, hi, hz0, hz1, hz2⟩ := info_parts (show (Tryd.prog.info? 45).map (fun i => (i.zero, i.size, i.bytes)) = some (some (.agg #[.int .i64 0, .int .i64 0, .int .i64 0, .string ByteArray.empty, .slice none 0 0]), 5, 64) from by kernel_rfl)
  go_enter Tryd.func18, Tryd.ntmps18
  go_wp2
  have hB0 := Blk.new w 45 zero5
  have hb0 : Below w.heap.size w (w.alloc (.cells zero5 45)) := (Below.refl _ _).alloc (Nat.le_refl _) _
  have hlt0 : w.heap.size < (w.alloc (.cells zero5 45)).heap.size := by simp
  go_loopw [3, 4] (fun s3 i wr => ∃ (k : Nat) (l' : List E5), k ≤ l.length ∧ l'.length ≤ k ∧ i = .int .i64 (k : Nat) ∧ wr.ownsRow (w.heap.size + 1) 45 5 s3 l'.length (l'.flatMap e5) ∧ Blk wr w.heap.size 45 zero5 ∧ Below w.heap.size w wr) (fun _ i _ => l.length - (intOf i).toNat)
  case atStart => exact ⟨0, [], by omega, Nat.le_refl _, rfl, ⟨rfl, .inl ⟨rfl, rfl⟩⟩, hB0, hb0⟩
  case round =>
    obtain ⟨k, l', hk, hl', rfl, hO, hB, hbr⟩ := hrel
    obtain ⟨Ak, ck, hform⟩ := own_form hO
    have hBl := hB.lt
    clear hB0 hb0 hlt0
    by_cases hlt : k < l.length
    · obtain ⟨x, hx⟩ : ∃ x, l[k]? = some x := ⟨_, List.getElem?_eq_getElem hlt⟩
      obtain ⟨ad, rfl, hcs⟩ := hA (by rw [e5_len]; omega)
      have hc : ∀ j u, (e5 x)[j]? = some u → wr.cell? ((ad.add (k * 5)).add j) = some u := fun j u hj => by
        have h1 := hcs _ u (e5_at l k x hx j u hj)
        rw [← Go.Deep.add_add] at h1
        exact (hbr.cell (World.block_lt_of_cell? w _ h1)).trans h1
      obtain ⟨kd, cd, p, s, A', n', cc⟩ := x
      have c0 : wr.cell? (ad.add (k * 5)) = some (.int .i64 kd) := hc 0 _ rfl
      have c1 : wr.cell? ⟨(ad.add (k * 5)).block, (ad.add (k * 5)).off + 1, none⟩ = some (.int .i64 cd) := hc 1 _ rfl
      have c2 : wr.cell? ⟨(ad.add (k * 5)).block, (ad.add (k * 5)).off + 2, none⟩ = some (.int .i64 p) := hc 2 _ rfl
      have c3 : wr.cell? ⟨(ad.add (k * 5)).block, (ad.add (k * 5)).off + 3, none⟩ = some (.string s) := hc 3 _ rfl
      have c4 : wr.cell? ⟨(ad.add (k * 5)).block, (ad.add (k * 5)).off + 4, none⟩ = some (.slice A' n' cc) := hc 4 _ rfl
      by_cases h0 : kd = 0
      · have hd : (kd != 0) = false := by simp [h0]
        clear hform
        go_wp2_with fail
        go_roundw
        case rel => exact ⟨k + 1, l', by omega, by omega, by go_num, hO, hB, hbr⟩
        case measure => simp [intOf]; omega
      · have hd : (kd != 0) = true := by simpa using h0
        have hsrc := src_new wr #[.int .i64 kd, .int .i64 cd, .int .i64 p, .string s, .slice A' n' cc] 45
        have hOa := hO.alloc (.cells #[.int .i64 kd, .int .i64 cd, .int .i64 p, .string s, .slice A' n' cc] 45)
        have fin : ∀ (v' : Value) (w3 : World), w3.ownsRow (w.heap.size + 1) 45 5 v' (l'.length + 1) (l'.flatMap e5 ++ [.int .i64 kd, .int .i64 cd, .int .i64 p, .string s, .slice A' n' cc]) → (wr.alloc (.cells #[.int .i64 kd, .int .i64 cd, .int .i64 p, .string s, .slice A' n' cc] 45)).grownBy w3 u3.ownBlock →
            w3.ownsRow (w.heap.size + 1) 45 5 v' (l' ++ [(kd, cd, p, s, A', n', cc)]).length ((l' ++ [(kd, cd, p, s, A', n', cc)]).flatMap e5) ∧ Blk w3 w.heap.size 45 zero5 ∧ Below w.heap.size w w3 := fun v' w3 h1 h2 => by
          refine ⟨by rw [List.flatMap_append, List.length_append]; exact h1, ?_, ?_⟩
          · exact (hB.alloc _).grown h2 (fun e => by have := (hO.lt _ e.symm).1; omega)
          · exact (hbr.alloc hbr.size _).grown h2 (by simp; have := hbr.size; omega) (fun q hq => by have := (hO.lt q hq).1; omega)
        have FIN := Lib.hid fin
        clear fin hform
        go_wp2_with (at_builtin; refine wpList_append_src rfl (.tmp 17) (.tmp 22) 25 rfl (w.heap.size + 1) 45 i0 (.agg #[.int .i64 0, .int .i64 0, .int .i64 0, .string ByteArray.empty, .slice none 0 0]) 5 64 Tryd.underlying25 hi hz0 hz1 hz2 rfl (by decide) u3 l'.length (l'.flatMap e5) rfl hOa _ _ _ [.int .i64 kd, .int .i64 cd, .int .i64 p, .string s, .slice A' n' cc] rfl rfl hsrc (fun h => by cases h) (fun u hu => by simp at hu; rcases hu with rfl | rfl | rfl | rfl | rfl <;> rfl) ?c1 ?c2 ?c3 ?_)
        case c1 => unfold maxLen; omega
        case c2 => omega
        case c3 => first | omega | (simp; omega) | (rw [World.size_alloc]; omega)
        intro v' w3 hown' hgrow
        obtain ⟨hO3, hB3, hb3⟩ := FIN.out v' w3 hown' hgrow
        go_wp2_with fail
        go_roundw
        case rel => exact ⟨k + 1, l' ++ [(kd, cd, p, s, A', n', cc)], by omega, by simp; omega, by go_num, hO3, hB3, hb3⟩
        case measure => simp [intOf]; omega
    · have z0 : wr.cell? ⟨w.heap.size, 0, none⟩ = some (.int .i64 0) := hB.cell 0
      have z1 : wr.cell? ⟨w.heap.size, 1, none⟩ = some (.int .i64 0) := hB.cell 1
      have z2 : wr.cell? ⟨w.heap.size, 2, none⟩ = some (.int .i64 0) := hB.cell 2
      have z3 : wr.cell? ⟨w.heap.size, 3, none⟩ = some (.string ⟨#[]⟩) := hB.cell 3
      have z4 : wr.cell? ⟨w.heap.size, 4, none⟩ = some (.slice none 0 0) := hB.cell 4
      have f0 := hB.free 0
      have f1 := hB.free 1
      have f2 := hB.free 2
      have f3 := hB.free 3
      have f4 := hB.free 4
      have hsrc := Src.of_own (hform ▸ hO)
      subst hform
      rcases l' with _ | ⟨x, _ | ⟨x2, l'⟩⟩
      · have hD := ((((hB.set 0 (.int .i64 0)).set 1 (.int .i64 0)).set 2 (.int .i64 0)).set 3 (.string ⟨#[]⟩)).set 4 (.slice none 0 0)
        have d0 := hD.cell 0
        have d1 := hD.cell 1
        have d2 := hD.cell 2
        have d3 := hD.cell 3
        have d4 := hD.cell 4
        simp at d0 d1 d2 d3 d4
        go_wp2_with fail
        refine bodyPost_ret (v := .agg #[.int .i64 0, .int .i64 0, .int .i64 0, .string ⟨#[]⟩, .slice none 0 0]) ?_ rfl ⟨⟨_, _, _, _, _, _, _, rfl⟩, ?_⟩
        · simp [results, Tryd.results18, go_sem, d0, d1, d2, d3, d4]
        · exact ((((hbr.setCell (by simp) _).setCell (by simp) _).setCell (by simp) _).setCell (by simp) _).setCell (by simp) _
      · obtain ⟨ad, rfl, hc⟩ := hsrc (by simp [e5])
        obtain ⟨kd, cd, p, s, A', n', cc⟩ := x
        have c0 : wr.cell? ad = some (.int .i64 kd) := by simpa [Addr.add] using hc 0 _ rfl
        have c1 : wr.cell? ⟨ad.block, ad.off + 1, none⟩ = some (.int .i64 cd) := by simpa [Addr.add] using hc 1 _ rfl
        have c2 : wr.cell? ⟨ad.block, ad.off + 2, none⟩ = some (.int .i64 p) := by simpa [Addr.add] using hc 2 _ rfl
        have c3 : wr.cell? ⟨ad.block, ad.off + 3, none⟩ = some (.string s) := by simpa [Addr.add] using hc 3 _ rfl
        have c4 : wr.cell? ⟨ad.block, ad.off + 4, none⟩ = some (.slice A' n' cc) := by simpa [Addr.add] using hc 4 _ rfl
        have hD := ((((hB.set 0 (.int .i64 kd)).set 1 (.int .i64 cd)).set 2 (.int .i64 p)).set 3 (.string s)).set 4 (.slice A' n' cc)
        have d0 := hD.cell 0
        have d1 := hD.cell 1
        have d2 := hD.cell 2
        have d3 := hD.cell 3
        have d4 := hD.cell 4
        simp at d0 d1 d2 d3 d4
        go_wp2_with fail
        refine bodyPost_ret (v := .agg #[.int .i64 kd, .int .i64 cd, .int .i64 p, .string s, .slice A' n' cc]) ?_ rfl ⟨⟨_, _, _, _, _, _, _, rfl⟩, ?_⟩
        · simp [results, Tryd.results18, go_sem, d0, d1, d2, d3, d4]
        · exact ((((hbr.setCell (by simp) _).setCell (by simp) _).setCell (by simp) _).setCell (by simp) _).setCell (by simp) _
      · obtain ⟨m, hm⟩ : ∃ m, m = (x :: x2 :: l').length := ⟨_, rfl⟩
        have hm2 : 2 ≤ m := by rw [hm]; simp
        rw [← hm]
        have t0 : ((m : Int) == 0) = false := by simp; omega
        have t1 : ((m : Int) == 1) = false := by simp; omega
        clear hsrc hO hm
        have hD := ((((hB.set 0 (.int .i64 4)).set 1 (.int .i64 0)).set 2 (.int .i64 0)).set 3 (.string ⟨#[]⟩)).set 4 (.slice Ak m ck)
        have d0 := hD.cell 0
        have d1 := hD.cell 1
        have d2 := hD.cell 2
        have d3 := hD.cell 3
        have d4 := hD.cell 4
        simp at d0 d1 d2 d3 d4
        go_wp2_with fail
        refine bodyPost_ret (v := .agg #[.int .i64 4, .int .i64 0, .int .i64 0, .string ⟨#[]⟩, .slice Ak m ck]) ?_ rfl ⟨⟨_, _, _, _, _, _, _, rfl⟩, ?_⟩
        · simp [results, Tryd.results18, go_sem, d0, d1, d2, d3, d4]
        · exact ((((hbr.setCell (by simp) _).setCell (by simp) _).setCell (by simp) _).setCell (by simp) _).setCell (by simp) _
end Go.Proofs.YtcmepnninlocmaaDoor
