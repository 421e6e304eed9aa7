/- WireApart: walked. -/
import Derived.Test.YtndlnphklklclaaDoorRRWByt
import Derived.Test.YtndlnphklklclaaDoorRRWMade
namespace Go.Proofs.YtndlnphklklclaaDoorRR
open Go.RowKit Nums Crc
/-- The example's message. -/
abbrev ref3 : Mg := ⟨3, 0, 0, false, ⟨#[]⟩, ⟨#[]⟩, 3, 0⟩
theorem ref3_body : bodyB ref3 = ⟨#[6, 6]⟩ := by
  have h : bodyP ref3 = [6, 6] := by
    simp [bodyP, restP]
    rw [putL_one, show zz 3 = 6 from rfl, vb_small (by omega)]
    rfl
  unfold bodyB
  rw [h]
theorem ref3_open : openP (packB ref3) = (⟨#[6, 6]⟩, 0) := by
  unfold packB
  rw [ref3_body]
  exact open_wrap ⟨#[6, 6]⟩ (by decide)
theorem pack_len {m : Mg} (h : MgOk m) : (packB m).size ≤ maxLen := by
  have h1 := body_size h
  unfold packB maxLen
  rw [ByteArray.size_append, sumB_size]
  omega
set_option maxRecDepth 100000 in
set_option maxHeartbeats 2000000 in
theorem awake_any (w : World) : Calls Tryd.prog 4 #[] w fun e w' => e = .returned (.bool true) ∧ Below w.heap.size w w' := by
  have hok : MgOk ref3 := MgOk.refuse 3 (by decide)
  have hby := bytes_any ref3 hok w
  have hop := fun W => open_at (packB ref3) W (pack_len hok) ⟨#[6, 6]⟩ 0 .nilIface ref3_open errV0
  generalize packB ref3 = P at hby hop
  go_enter Tryd.func4, Tryd.ntmps4
  go_upto_region 2 with (go_at_call 7; refine hby.mono ?_; rintro e w1 ⟨rfl, hb1⟩)
  go_upto_region 3 with (go_at_call 9; refine (hop _).mono ?_; rintro e w2 ⟨rfl, hb2⟩)
  have hb := hb1.trans (hb2.mono hb1.size)
  clear hb1 hb2 hby hop
  go_wp2_with (go_at_call 8; refine (code_nil _).mono ?_; rintro e w3 ⟨rfl, hb3⟩)
  rename_i w3' hb3'
  go_ret
  exact ⟨rfl, hb.trans ((hb3'.trans (hb3.mono hb3'.size)).mono hb.size)⟩
/-- What the last test reads. -/
def Two (B gx gy : Nat) (X Y : Mg) (w0 w : World) : Prop := Blk w gx 25 X.v ∧ Blk w gy 25 Y.v ∧ Below B w0 w ∧ B ≤ w.heap.size
theorem Two.keep {B gx gy : Nat} {X Y : Mg} {w0 w w' : World} (h : Two B gx gy X Y w0 w) (hb : Below w.heap.size w w') : Two B gx gy X Y w0 w' :=
  ⟨h.1.below hb h.1.lt, h.2.1.below hb h.2.1.lt, h.2.2.1.trans (hb.mono h.2.2.2), Nat.le_trans h.2.2.2 hb.size⟩
theorem Two.alloc {B gx gy : Nat} {X Y : Mg} {w0 w : World} (h : Two B gx gy X Y w0 w) (o : Obj) : Two B gx gy X Y w0 (w.alloc o) :=
  ⟨h.1.alloc o, h.2.1.alloc o, h.2.2.1.alloc h.2.2.2 o, Nat.le_trans h.2.2.2 (by simp)⟩
theorem blk8 {w : World} {g : Nat} {X : Mg} (h : Blk w g 25 X.v) : w.cell? ⟨g, 0, none⟩ = some (.int .i64 X.kind) ∧ w.cell? ⟨g, 1, none⟩ = some (.int .i64 X.gen) ∧ w.cell? ⟨g, 2, none⟩ = some (.int .i64 X.seq) ∧ w.cell? ⟨g, 3, none⟩ = some (.bool X.key) ∧ w.cell? ⟨g, 4, none⟩ = some (.string X.body) ∧ w.cell? ⟨g, 5, none⟩ = some (.string X.path) ∧ w.cell? ⟨g, 6, none⟩ = some (.int .i64 X.node) ∧ w.cell? ⟨g, 7, none⟩ = some (.int .i64 X.nonce) :=
  ⟨h.cell 0, h.cell 1, h.cell 2, h.cell 3, h.cell 4, h.cell 5, h.cell 6, h.cell 7⟩
set_option maxRecDepth 100000 in
set_option maxHeartbeats 4000000 in
theorem wireApart_walk (a b : Mg) (w : World) : Calls Tryd.prog 3 #[.agg a.v, .agg b.v] w fun e w' => e = .returned (.bool true) ∧ Below w.heap.size w w' := by
  have hT : Two w.heap.size w.heap.size (w.heap.size + 1) a b w ((w.alloc (.cells a.v 25)).alloc (.cells b.v 25)) := by
    have hB := Blk.new (w.alloc (.cells a.v 25)) 25 b.v
    rw [World.size_alloc] at hB
    exact ⟨(Blk.new w 25 a.v).alloc _, hB, ((Below.refl w.heap.size w).alloc (Nat.le_refl _) _).alloc (by simp) _, by simp; omega⟩
  go_enter Tryd.func3, Tryd.ntmps3
  go_upto_region 1 with fail
  generalize (w.alloc (.cells a.v 25)).alloc (.cells b.v 25) = w1 at hT ⊢
  have hawk := awake_any w1
  go_upto_region 2 with (go_at_call 4; refine hawk.mono ?_; rintro e w2 ⟨rfl, hb2⟩)
  have hT2 := hT.keep hb2
  clear hT hb2 hawk
  generalize hM : w.heap.size = M at hT2 ⊢
  have HM := Lib.hid hM
  clear hM
  obtain ⟨a0, a1, a2, a3, a4, a5, a6, a7⟩ := blk8 hT2.1
  go_upto_region 3 with (first | (go_at_call 6; refine (less_any a _).mono ?_; rintro e w3 ⟨rfl, hb3⟩) | (go_at_call 5; refine (made_any (lessP a) _).mono ?_; rintro e w4 ⟨X, hX, rfl, hb4⟩))
  have hT4 := ((hT2.keep hb3).keep hb4).alloc (.cells #[.int .i64 X.kind, .int .i64 X.gen, .int .i64 X.seq, .bool X.key, .string X.body, .string X.path, .int .i64 X.node, .int .i64 X.nonce] 25)
  have hX4 : Blk (w4.alloc (.cells #[.int .i64 X.kind, .int .i64 X.gen, .int .i64 X.seq, .bool X.key, .string X.body, .string X.path, .int .i64 X.node, .int .i64 X.nonce] 25)) w4.heap.size 25 X.v := Blk.new w4 25 X.v
  clear a0 a1 a2 a3 a4 a5 a6 a7 hT2 hb3 hb4
  generalize w4.alloc (.cells #[.int .i64 X.kind, .int .i64 X.gen, .int .i64 X.seq, .bool X.key, .string X.body, .string X.path, .int .i64 X.node, .int .i64 X.nonce] 25) = w5 at hT4 hX4 ⊢
  generalize w4.heap.size = gx at hX4 ⊢
  obtain ⟨b0, b1, b2, b3, b4, b5, b6, b7⟩ := blk8 hT4.2.1
  go_upto_region 4 with (first | (go_at_call 6; refine (less_any b _).mono ?_; rintro e w6 ⟨rfl, hb6⟩) | (go_at_call 5; refine (made_any (lessP b) _).mono ?_; rintro e w7 ⟨Y, hY, rfl, hb7⟩))
  have hT7 := (hT4.keep hb6).keep hb7
  have hX7 := (hX4.below hb6 hX4.lt).below hb7 (hX4.below hb6 hX4.lt).lt
  have hTT : Two M gx w7.heap.size X Y w (w7.alloc (.cells #[.int .i64 Y.kind, .int .i64 Y.gen, .int .i64 Y.seq, .bool Y.key, .string Y.body, .string Y.path, .int .i64 Y.node, .int .i64 Y.nonce] 25)) :=
    ⟨hX7.alloc _, Blk.new w7 25 Y.v, hT7.2.2.1.alloc hT7.2.2.2 _, Nat.le_trans hT7.2.2.2 (by simp)⟩
  clear b0 b1 b2 b3 b4 b5 b6 b7 hT4 hX4 hb6 hb7 hT7 hX7
  generalize w7.alloc (.cells #[.int .i64 Y.kind, .int .i64 Y.gen, .int .i64 Y.seq, .bool Y.key, .string Y.body, .string Y.path, .int .i64 Y.node, .int .i64 Y.nonce] 25) = w8 at hTT ⊢
  generalize w7.heap.size = gy at hTT ⊢
  have hbX := bytes_any X hX w8
  obtain ⟨x0, x1, x2, x3, x4, x5, x6, x7⟩ := blk8 hTT.1
  go_upto_region 5 with (go_at_call 7; refine hbX.mono ?_; rintro e w9 ⟨rfl, hb9⟩)
  have hT9 := hTT.keep hb9
  clear x0 x1 x2 x3 x4 x5 x6 x7 hbX hTT hb9
  have hbY := bytes_any Y hY w9
  obtain ⟨y0, y1, y2, y3, y4, y5, y6, y7⟩ := blk8 hT9.2.1
  go_upto_region 6 with (go_at_call 7; refine hbY.mono ?_; rintro e w10 ⟨rfl, hb10⟩)
  have hT10 := hT9.keep hb10
  clear y0 y1 y2 y3 y4 y5 y6 y7 hbY hT9 hb10
  have hlen := pack_size X
  by_cases hXY : X = Y
  · subst hXY
    clear hY
    generalize packB X = P at hlen ⊢
    have hl1 : decide ((5 : Int) ≤ (P.size : Int)) = true := decide_eq_true (by omega)
    have hl2 : decide (5 ≤ P.size) = true := decide_eq_true hlen
    go_wp2_with (go_at_call 8; refine (code_nil _).mono ?_; rintro e w11 ⟨rfl, hb11⟩; have hq := Two.keep (by assumption) hb11; obtain ⟨x0, x1, x2, x3, x4, x5, x6, x7⟩ := blk8 hq.1; obtain ⟨y0, y1, y2, y3, y4, y5, y6, y7⟩ := blk8 hq.2.1)
    go_ret
    exact ⟨rfl, by rw [HM.out]; exact hq.2.2.1⟩
  · have hne : packB X ≠ packB Y := fun h => hXY (pack_inj hX hY h)
    have hnl : ((packB X).toList == (packB Y).toList) = false := by
      rw [beq_eq_false_iff_ne]
      exact fun h => hne ((same_bytes _ _).1 h)
    generalize packB X = P at hlen hnl ⊢
    generalize packB Y = Q at hnl ⊢
    have hl1 : decide ((5 : Int) ≤ (P.size : Int)) = true := decide_eq_true (by omega)
    have hl2 : decide (5 ≤ P.size) = true := decide_eq_true hlen
    go_wp2_with (go_at_call 8; refine (code_nil _).mono ?_; rintro e w11 ⟨rfl, hb11⟩; have hq := Two.keep (by assumption) hb11; obtain ⟨x0, x1, x2, x3, x4, x5, x6, x7⟩ := blk8 hq.1; obtain ⟨y0, y1, y2, y3, y4, y5, y6, y7⟩ := blk8 hq.2.1)
    all_goals first
      | (go_ret; exact ⟨rfl, by rw [HM.out]; exact hq.2.2.1⟩)
      | (exfalso; apply hXY; cases X; cases Y; simp_all; constructor <;> (apply (same_bytes _ _).1; assumption))
end Go.Proofs.YtndlnphklklclaaDoorRR
