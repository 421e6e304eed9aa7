/- Take, in bounds, walked. (Types and functions by this seat's numbers.) -/
import Derived.Test.YtfficdloekfpcaaTakeF
import Derived.Test.YtfficdloekfpcaaChgW
namespace Go.Proofs.Ytfficdloekfpcaa
open Go.RowKit Go.Maps
set_option maxRecDepth 100000 in
set_option maxHeartbeats 2000000 in
theorem take_any (m nn : Nat) (room lost : Int) (ps : List (Int × Int × ByteArray)) (f : Int → Int → Int) (i : Nat) (a c : Int) (s : ByteArray) (w : World) (h : NetAt w m nn room ps lost f)
    (hi : i < ps.length) (hp : ps[i]? = some (a, c, s)) (hnn : nn + 10 < 1000000) (hps : ps.length < 1000000) (ha : 0 ≤ a ∧ a < 16) (hc : 0 ≤ c ∧ c < 16) (hf0 : 0 < f a c ∧ f a c < 1000000) :
    Calls Try.prog 9 #[.pointer (some ⟨m + 1, 0, none⟩), .int .i64 (i : Nat)] w fun e w' => e = .returned (.tuple #[.agg #[.int .i64 a, .int .i64 c, .string s], .bool true]) ∧ NetAt w' m (nn + 2) room (ps.eraseIdx i) lost (setF f a c (f a c - 1)) ∧ Below m w w' := by
  obtain ⟨A, cap, hB, hM, hO⟩ := h
  obtain ⟨g, rfl⟩ : ∃ g, A = some ⟨g, 0, none⟩ := by
    rcases hO.2 with ⟨_, h⟩ | ⟨g', cap', cur, h1, _⟩
    · omega
    · injection h1 with h1
      exact ⟨g', h1⟩
  have hgl := (hO.lt g rfl)
  have hltB := hB.lt
  obtain ⟨H, hH⟩ : ∃ H, H = w.heap.size := ⟨_, rfl⟩
  go_enter Try.func9, Try.ntmps9
  go_upto_region 2 with fail
  have hN4 := (((Blk.new w 23 #[.pointer (some ⟨m + 1, 0, none⟩)]).alloc (.cells #[.int .i64 (i : Nat)] 3)).alloc (.cells #[.int .i64 0, .int .i64 0, .string ⟨#[]⟩] 27)).alloc (.cells #[.int .i64 0, .int .i64 0, .string ⟨#[]⟩] 27)
  have hI4 := ((Blk.new (w.alloc (.cells #[.pointer (some ⟨m + 1, 0, none⟩)] 23)) 3 #[.int .i64 (i : Nat)]).alloc (.cells #[.int .i64 0, .int .i64 0, .string ⟨#[]⟩] 27)).alloc (.cells #[.int .i64 0, .int .i64 0, .string ⟨#[]⟩] 27)
  have hR4 := (Blk.new ((w.alloc (.cells #[.pointer (some ⟨m + 1, 0, none⟩)] 23)).alloc (.cells #[.int .i64 (i : Nat)] 3)) 27 #[.int .i64 0, .int .i64 0, .string ⟨#[]⟩]).alloc (.cells #[.int .i64 0, .int .i64 0, .string ⟨#[]⟩] 27)
  have hT4 := Blk.new (((w.alloc (.cells #[.pointer (some ⟨m + 1, 0, none⟩)] 23)).alloc (.cells #[.int .i64 (i : Nat)] 3)).alloc (.cells #[.int .i64 0, .int .i64 0, .string ⟨#[]⟩] 27)) 27 #[.int .i64 0, .int .i64 0, .string ⟨#[]⟩]
  simp only [World.size_alloc] at hN4 hI4 hR4 hT4
  have hB4 := (((hB.alloc (.cells #[.pointer (some ⟨m + 1, 0, none⟩)] 23)).alloc (.cells #[.int .i64 (i : Nat)] 3)).alloc (.cells #[.int .i64 0, .int .i64 0, .string ⟨#[]⟩] 27)).alloc (.cells #[.int .i64 0, .int .i64 0, .string ⟨#[]⟩] 27)
  have hM4 := (((hM.alloc (.cells #[.pointer (some ⟨m + 1, 0, none⟩)] 23)).alloc (.cells #[.int .i64 (i : Nat)] 3)).alloc (.cells #[.int .i64 0, .int .i64 0, .string ⟨#[]⟩] 27)).alloc (.cells #[.int .i64 0, .int .i64 0, .string ⟨#[]⟩] 27)
  have hO4 := (((hO.alloc (.cells #[.pointer (some ⟨m + 1, 0, none⟩)] 23)).alloc (.cells #[.int .i64 (i : Nat)] 3)).alloc (.cells #[.int .i64 0, .int .i64 0, .string ⟨#[]⟩] 27)).alloc (.cells #[.int .i64 0, .int .i64 0, .string ⟨#[]⟩] 27)
  have hb4 : Below m w ((((w.alloc (.cells #[.pointer (some ⟨m + 1, 0, none⟩)] 23)).alloc (.cells #[.int .i64 (i : Nat)] 3)).alloc (.cells #[.int .i64 0, .int .i64 0, .string ⟨#[]⟩] 27)).alloc (.cells #[.int .i64 0, .int .i64 0, .string ⟨#[]⟩] 27)) := ((((Below.refl m w).alloc (by omega) _).alloc (by simp; omega) _).alloc (by simp; omega) _).alloc (by simp; omega) _
  generalize (((w.alloc (.cells #[.pointer (some ⟨m + 1, 0, none⟩)] 23)).alloc (.cells #[.int .i64 (i : Nat)] 3)).alloc (.cells #[.int .i64 0, .int .i64 0, .string ⟨#[]⟩] 27)).alloc (.cells #[.int .i64 0, .int .i64 0, .string ⟨#[]⟩] 27) = w4 at hN4 hI4 hR4 hT4 hB4 hM4 hO4 hb4 ⊢
  have n4 : w4.cell? ⟨w.heap.size, 0, none⟩ = some (.pointer (some ⟨m + 1, 0, none⟩)) := hN4.cell 0
  have i4 : w4.cell? ⟨w.heap.size + 1, 0, none⟩ = some (.int .i64 (i : Nat)) := hI4.cell 0
  go_wp2_with fail
  refine (change_take m g cap (w.heap.size + 1 + 1 + 1) w.heap.size (w.heap.size + 1) room lost ps.length i w4 _ hB4 hi (takeFn_any m nn g cap (w.heap.size + 1 + 1 + 1) w.heap.size (w.heap.size + 1) (w.heap.size + 1 + 1) room lost ps f i a c s _ _ _ w4 hB4 hM4 hO4 hT4 hN4 hI4 _ _ _ hR4 (by omega) (by omega) (by omega) (by omega) hi hp hnn hps ha hc hf0)).mono ?_
  rintro e w5 ⟨rfl, ⟨hBA, hMA, hOA⟩, hT5, hR5, hb5⟩
  clear n4 i4
  have t0 := hT5.cell 0
  have t1 := hT5.cell 1
  have t2 := hT5.cell 2
  have r0 := hR5.cell 0
  have r1 := hR5.cell 1
  have r2 := hR5.cell 2
  have f0 := hR5.free 0
  have f1 := hR5.free 1
  have f2 := hR5.free 2
  go_wp2_with fail
  have hD := ((hR5.set 0 (.int .i64 a)).set 1 (.int .i64 c)).set 2 (.string s)
  have d0 := hD.cell 0
  have d1 := hD.cell 1
  have d2 := hD.cell 2
  simp at d0 d1 d2
  have hgR : g ≠ w.heap.size + 1 + 1 := by omega
  refine bodyPost_ret (v := .tuple #[.agg #[.int .i64 a, .int .i64 c, .string s], .bool true]) ?_ rfl ⟨rfl, ⟨some ⟨g, 0, none⟩, cap, ?_, ?_, ?_⟩, ?_⟩
  · simp [results, Try.results9, go_sem, d0, d1, d2]
  · exact ((hBA.far (by simp; omega) _).far (by simp; omega) _).far (by simp; omega) _
  · exact ((hMA.far (by simp; omega) _).far (by simp; omega) _).far (by simp; omega) _
  · exact ownsRow_setCell_other (ownsRow_setCell_other (ownsRow_setCell_other hOA (fun e => by injection e with e; simp at e; omega) _) (fun e => by injection e with e; simp at e; omega) _) (fun e => by injection e with e; simp at e; omega) _
  · exact (((hb4.trans hb5).setCell (by simp; omega) _).setCell (by simp; omega) _).setCell (by simp; omega) _
end Go.Proofs.Ytfficdloekfpcaa
