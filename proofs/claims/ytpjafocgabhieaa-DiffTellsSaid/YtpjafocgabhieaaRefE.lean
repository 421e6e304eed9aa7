/- The document's Right: walked (for DiffTells). -/
import Derived.Test.YtpjafocgabhieaaRefD
namespace Go.Proofs.Ytpjafocgabhieaa
open Go.RowKit Go.Sort
set_option maxRecDepth 100000 in
set_option maxHeartbeats 8000000 in
theorem rightR_gen (A : Option Addr) (n cp : Nat) (l : List Cl) (w : World) (hn : l.length = n) (hm : n ≤ 1000000) (hR : RowC w A l) :
    Calls Try.prog 47 #[.slice A n cp] w fun e w' => e = .returned (.bool (refRight l)) ∧ Below w.heap.size w w' := by
  go_enter Try.func47, Try.ntmps47
  go_wp2_with fail
  go_loopw [3] (fun s3 wr => ∃ k : Nat, k ≤ n ∧ s3 = .int .i64 (k : Nat) ∧ RowKit.Hid (∀ j, j < k → refOk l j = true) ∧ Below w.heap.size w wr) (fun s3 _ => n - (intOf s3).toNat)
  case atStart => exact ⟨0, by omega, rfl, Lib.hid (fun j hj => absurd hj (Nat.not_lt_zero j)), Below.refl _ _⟩
  case round =>
    obtain ⟨k, hk, rfl, HD, hbr⟩ := hrel
    by_cases hlt : k < n
    · obtain ⟨ad, rfl, hCw⟩ := hR (by omega)
      obtain ⟨c, hc⟩ : ∃ c, l[k]? = some c := ⟨_, List.getElem?_eq_getElem (by omega)⟩
      have hCr := hCw.below hbr
      obtain ⟨hca, hok⟩ := hCr k c hc
      have HK := Lib.hid (fun (W' : World) (hW : Below wr.heap.size wr W') => (show W'.cell? (ad.add (k * 4)) = some (.int .i32 c.r) ∧ W'.cell? ⟨(ad.add (k * 4)).block, (ad.add (k * 4)).off + 1, none⟩ = some (.int .u8 (c.f : Int)) ∧ W'.cell? ⟨(ad.add (k * 4)).block, (ad.add (k * 4)).off + 2, none⟩ = some (.int .u8 (c.b : Int)) ∧ W'.cell? ⟨(ad.add (k * 4)).block, (ad.add (k * 4)).off + 3, none⟩ = some (.int .u8 (c.x : Int)) from ⟨(hca.below hW).c0, (hca.below hW).c1, (hca.below hW).c2, (hca.below hW).c3⟩))
      have HR := Lib.hid hCr
      have hC := fun W => checkR_gen c hok W
      have hW := fun W => wideR_gen c hok W
      have hT := fun W => tailR_gen c hok W
      have hP : ∀ W' : World, Below wr.heap.size wr W' → Calls Try.prog 65 #[.slice (some ad) n cp, .int .i64 (k : Nat)] W' fun e w' => e = .returned (.bool (refPair l k)) ∧ Below W'.heap.size W' w' := fun W' hW' => pairR_gen ad n cp k l W' hn hm (HR.out.below hW') c hc
      have HO := Lib.hid (show refOk l k = (chkC c && (!wideC c || refPair l k) && (!tailC c || (decide (1 ≤ k) && refPair l (k - 1)))) by
        unfold refOk
        rw [hc])
      have HN := Lib.hid (fun (h : refOk l k = false) => (show refRight l = false by
        rw [Bool.eq_false_iff]
        intro h1
        rw [refRight_iff] at h1
        rw [h1 k (by omega)] at h
        cases h))
      have HY := Lib.hid (fun (h : refOk l k = true) => (show RowKit.Hid (∀ j, j < k + 1 → refOk l j = true) from Lib.hid (fun j hj => by
        rcases Nat.lt_or_ge j k with h1 | h1
        · exact HD.out j h1
        · rw [show j = k by omega]
          exact h)))
      have e1 : decide ((k : Int) < (n : Int)) = true := decide_eq_true (by omega)
      have e2 : decide (k < n) = true := decide_eq_true hlt
      obtain ⟨z0, z1, z2, z3⟩ := hca
      have q0 : Below wr.heap.size wr wr := Below.refl _ _
      clear hCw hCr hR HD hc
      generalize refPair l k = P at *
      generalize chkC c = K at *
      generalize wideC c = Wd at *
      generalize tailC c = T at *
      cases K with
      | false =>
        have HO := Lib.hid (show refOk l k = false by rw [HO.out]; simp)
        go_wp2_with (first
          | (go_at_call 64; refine (hC _).mono ?_; rintro e w1 ⟨rfl, hb1⟩; have q1 : Below wr.heap.size wr _ := later (by assumption) hb1; obtain ⟨z0, z1, z2, z3⟩ := HK.out _ q1)
          | (go_at_call 49; refine (hW _).mono ?_; rintro e w1 ⟨rfl, hb1⟩; have q1 : Below wr.heap.size wr _ := later (by assumption) hb1; obtain ⟨z0, z1, z2, z3⟩ := HK.out _ q1)
          | (go_at_call 66; refine (hT _).mono ?_; rintro e w1 ⟨rfl, hb1⟩; have q1 : Below wr.heap.size wr _ := later (by assumption) hb1; obtain ⟨z0, z1, z2, z3⟩ := HK.out _ q1)
          | (go_at_call 65; with_reducible refine (hP _ (by assumption)).mono ?_; rintro e w1 ⟨rfl, hb1⟩; have q1 : Below wr.heap.size wr _ := later (by assumption) hb1; obtain ⟨z0, z1, z2, z3⟩ := HK.out _ q1)
          | (go_at_call 65; refine (hQ _ (by assumption)).mono ?_; rintro e w1 ⟨rfl, hb1⟩; have q1 : Below wr.heap.size wr _ := later (by assumption) hb1; obtain ⟨z0, z1, z2, z3⟩ := HK.out _ q1))
        go_ret
        exact ⟨ret_bool (HN.out (by first | exact HO.out | (rw [HO.out]; rfl))).symm, hbr.trans ((by assumption : Below wr.heap.size wr _).mono hbr.size)⟩
      | true =>
        cases Wd with
        | false =>
          have HO := Lib.hid (show refOk l k = (!T || (decide (1 ≤ k) && refPair l (k - 1))) by rw [HO.out]; simp)
          cases T with
          | false =>
            go_wp2_with (first
              | (go_at_call 64; refine (hC _).mono ?_; rintro e w1 ⟨rfl, hb1⟩; have q1 : Below wr.heap.size wr _ := later (by assumption) hb1; obtain ⟨z0, z1, z2, z3⟩ := HK.out _ q1)
              | (go_at_call 49; refine (hW _).mono ?_; rintro e w1 ⟨rfl, hb1⟩; have q1 : Below wr.heap.size wr _ := later (by assumption) hb1; obtain ⟨z0, z1, z2, z3⟩ := HK.out _ q1)
              | (go_at_call 66; refine (hT _).mono ?_; rintro e w1 ⟨rfl, hb1⟩; have q1 : Below wr.heap.size wr _ := later (by assumption) hb1; obtain ⟨z0, z1, z2, z3⟩ := HK.out _ q1)
              | (go_at_call 65; refine (hQ _ (by assumption)).mono ?_; rintro e w1 ⟨rfl, hb1⟩; have q1 : Below wr.heap.size wr _ := later (by assumption) hb1; obtain ⟨z0, z1, z2, z3⟩ := HK.out _ q1))
            go_round
            case rel => exact ⟨k + 1, hlt, by go_num, HY.out (by first | exact HO.out | (rw [HO.out]; rfl)), hbr.trans ((by assumption : Below wr.heap.size wr _).mono hbr.size)⟩
            case measure => simp [intOf]; omega
          | true =>
            by_cases hk0 : k = 0
            · have i1 : wrap64 ((k : Int) - 1) = (k : Int) - 1 := by
                unfold wrap64
                omega
              have hQ : ∀ W' : World, Below wr.heap.size wr W' → Calls Try.prog 65 #[.slice (some ad) n cp, .int .i64 ((k : Int) - 1)] W' fun e w' => e = .returned (.bool false) ∧ Below W'.heap.size W' w' := fun W' _ => by
                rw [show (k : Int) - 1 = -1 by omega]
                exact pairR_none (some ad) n cp W'
              have HO := Lib.hid (show refOk l k = false by rw [HO.out, hk0]; simp)
              clear hk0
              go_wp2_with (first
                | (go_at_call 64; refine (hC _).mono ?_; rintro e w1 ⟨rfl, hb1⟩; have q1 : Below wr.heap.size wr _ := later (by assumption) hb1; obtain ⟨z0, z1, z2, z3⟩ := HK.out _ q1)
                | (go_at_call 49; refine (hW _).mono ?_; rintro e w1 ⟨rfl, hb1⟩; have q1 : Below wr.heap.size wr _ := later (by assumption) hb1; obtain ⟨z0, z1, z2, z3⟩ := HK.out _ q1)
                | (go_at_call 66; refine (hT _).mono ?_; rintro e w1 ⟨rfl, hb1⟩; have q1 : Below wr.heap.size wr _ := later (by assumption) hb1; obtain ⟨z0, z1, z2, z3⟩ := HK.out _ q1)
                | (go_at_call 65; refine (hQ _ (by assumption)).mono ?_; rintro e w1 ⟨rfl, hb1⟩; have q1 : Below wr.heap.size wr _ := later (by assumption) hb1; obtain ⟨z0, z1, z2, z3⟩ := HK.out _ q1))
              go_ret
              exact ⟨ret_bool (HN.out (by first | exact HO.out | (rw [HO.out]; rfl))).symm, hbr.trans ((by assumption : Below wr.heap.size wr _).mono hbr.size)⟩
            · have i1 : wrap64 ((k : Int) - 1) = (k : Int) - 1 := by
                unfold wrap64
                omega
              obtain ⟨cq, hcq⟩ : ∃ cq, l[k - 1]? = some cq := ⟨_, List.getElem?_eq_getElem (by omega)⟩
              have hQ : ∀ W' : World, Below wr.heap.size wr W' → Calls Try.prog 65 #[.slice (some ad) n cp, .int .i64 ((k : Int) - 1)] W' fun e w' => e = .returned (.bool (refPair l (k - 1))) ∧ Below W'.heap.size W' w' := fun W' hW' => by
                rw [show (k : Int) - 1 = ((k - 1 : Nat) : Int) by omega]
                exact pairR_gen ad n cp (k - 1) l W' hn hm (HR.out.below hW') cq hcq
              have HO := Lib.hid (show refOk l k = refPair l (k - 1) by rw [HO.out, decide_eq_true (show 1 ≤ k by omega)]; simp)
              generalize refPair l (k - 1) = Q at *
              clear hcq
              cases Q with
              | false =>
                go_wp2_with (first
                  | (go_at_call 64; refine (hC _).mono ?_; rintro e w1 ⟨rfl, hb1⟩; have q1 : Below wr.heap.size wr _ := later (by assumption) hb1; obtain ⟨z0, z1, z2, z3⟩ := HK.out _ q1)
                  | (go_at_call 49; refine (hW _).mono ?_; rintro e w1 ⟨rfl, hb1⟩; have q1 : Below wr.heap.size wr _ := later (by assumption) hb1; obtain ⟨z0, z1, z2, z3⟩ := HK.out _ q1)
                  | (go_at_call 66; refine (hT _).mono ?_; rintro e w1 ⟨rfl, hb1⟩; have q1 : Below wr.heap.size wr _ := later (by assumption) hb1; obtain ⟨z0, z1, z2, z3⟩ := HK.out _ q1)
                  | (go_at_call 65; refine (hQ _ (by assumption)).mono ?_; rintro e w1 ⟨rfl, hb1⟩; have q1 : Below wr.heap.size wr _ := later (by assumption) hb1; obtain ⟨z0, z1, z2, z3⟩ := HK.out _ q1))
                go_ret
                exact ⟨ret_bool (HN.out (by first | exact HO.out | (rw [HO.out]; rfl))).symm, hbr.trans ((by assumption : Below wr.heap.size wr _).mono hbr.size)⟩
              | true =>
                go_wp2_with (first
                  | (go_at_call 64; refine (hC _).mono ?_; rintro e w1 ⟨rfl, hb1⟩; have q1 : Below wr.heap.size wr _ := later (by assumption) hb1; obtain ⟨z0, z1, z2, z3⟩ := HK.out _ q1)
                  | (go_at_call 49; refine (hW _).mono ?_; rintro e w1 ⟨rfl, hb1⟩; have q1 : Below wr.heap.size wr _ := later (by assumption) hb1; obtain ⟨z0, z1, z2, z3⟩ := HK.out _ q1)
                  | (go_at_call 66; refine (hT _).mono ?_; rintro e w1 ⟨rfl, hb1⟩; have q1 : Below wr.heap.size wr _ := later (by assumption) hb1; obtain ⟨z0, z1, z2, z3⟩ := HK.out _ q1)
                  | (go_at_call 65; refine (hQ _ (by assumption)).mono ?_; rintro e w1 ⟨rfl, hb1⟩; have q1 : Below wr.heap.size wr _ := later (by assumption) hb1; obtain ⟨z0, z1, z2, z3⟩ := HK.out _ q1))
                go_round
                case rel => exact ⟨k + 1, hlt, by go_num, HY.out (by first | exact HO.out | (rw [HO.out]; rfl)), hbr.trans ((by assumption : Below wr.heap.size wr _).mono hbr.size)⟩
                case measure => simp [intOf]; omega
        | true =>
          cases P with
          | false =>
            have HO := Lib.hid (show refOk l k = false by rw [HO.out]; simp)
            go_wp2_with (first
              | (go_at_call 64; refine (hC _).mono ?_; rintro e w1 ⟨rfl, hb1⟩; have q1 : Below wr.heap.size wr _ := later (by assumption) hb1; obtain ⟨z0, z1, z2, z3⟩ := HK.out _ q1)
              | (go_at_call 49; refine (hW _).mono ?_; rintro e w1 ⟨rfl, hb1⟩; have q1 : Below wr.heap.size wr _ := later (by assumption) hb1; obtain ⟨z0, z1, z2, z3⟩ := HK.out _ q1)
              | (go_at_call 66; refine (hT _).mono ?_; rintro e w1 ⟨rfl, hb1⟩; have q1 : Below wr.heap.size wr _ := later (by assumption) hb1; obtain ⟨z0, z1, z2, z3⟩ := HK.out _ q1)
              | (go_at_call 65; with_reducible refine (hP _ (by assumption)).mono ?_; rintro e w1 ⟨rfl, hb1⟩; have q1 : Below wr.heap.size wr _ := later (by assumption) hb1; obtain ⟨z0, z1, z2, z3⟩ := HK.out _ q1)
              | (go_at_call 65; refine (hQ _ (by assumption)).mono ?_; rintro e w1 ⟨rfl, hb1⟩; have q1 : Below wr.heap.size wr _ := later (by assumption) hb1; obtain ⟨z0, z1, z2, z3⟩ := HK.out _ q1))
            go_ret
            exact ⟨ret_bool (HN.out (by first | exact HO.out | (rw [HO.out]; rfl))).symm, hbr.trans ((by assumption : Below wr.heap.size wr _).mono hbr.size)⟩
          | true =>
            have HO := Lib.hid (show refOk l k = (!T || (decide (1 ≤ k) && refPair l (k - 1))) by rw [HO.out]; simp)
            cases T with
            | false =>
              go_wp2_with (first
                | (go_at_call 64; refine (hC _).mono ?_; rintro e w1 ⟨rfl, hb1⟩; have q1 : Below wr.heap.size wr _ := later (by assumption) hb1; obtain ⟨z0, z1, z2, z3⟩ := HK.out _ q1)
                | (go_at_call 49; refine (hW _).mono ?_; rintro e w1 ⟨rfl, hb1⟩; have q1 : Below wr.heap.size wr _ := later (by assumption) hb1; obtain ⟨z0, z1, z2, z3⟩ := HK.out _ q1)
                | (go_at_call 66; refine (hT _).mono ?_; rintro e w1 ⟨rfl, hb1⟩; have q1 : Below wr.heap.size wr _ := later (by assumption) hb1; obtain ⟨z0, z1, z2, z3⟩ := HK.out _ q1)
                | (go_at_call 65; with_reducible refine (hP _ (by assumption)).mono ?_; rintro e w1 ⟨rfl, hb1⟩; have q1 : Below wr.heap.size wr _ := later (by assumption) hb1; obtain ⟨z0, z1, z2, z3⟩ := HK.out _ q1)
                | (go_at_call 65; refine (hQ _ (by assumption)).mono ?_; rintro e w1 ⟨rfl, hb1⟩; have q1 : Below wr.heap.size wr _ := later (by assumption) hb1; obtain ⟨z0, z1, z2, z3⟩ := HK.out _ q1))
              go_round
              case rel => exact ⟨k + 1, hlt, by go_num, HY.out (by first | exact HO.out | (rw [HO.out]; rfl)), hbr.trans ((by assumption : Below wr.heap.size wr _).mono hbr.size)⟩
              case measure => simp [intOf]; omega
            | true =>
              by_cases hk0 : k = 0
              · have i1 : wrap64 ((k : Int) - 1) = (k : Int) - 1 := by
                  unfold wrap64
                  omega
                have hQ : ∀ W' : World, Below wr.heap.size wr W' → Calls Try.prog 65 #[.slice (some ad) n cp, .int .i64 ((k : Int) - 1)] W' fun e w' => e = .returned (.bool false) ∧ Below W'.heap.size W' w' := fun W' _ => by
                  rw [show (k : Int) - 1 = -1 by omega]
                  exact pairR_none (some ad) n cp W'
                have HO := Lib.hid (show refOk l k = false by rw [HO.out, hk0]; simp)
                clear hk0
                go_wp2_with (first
                  | (go_at_call 64; refine (hC _).mono ?_; rintro e w1 ⟨rfl, hb1⟩; have q1 : Below wr.heap.size wr _ := later (by assumption) hb1; obtain ⟨z0, z1, z2, z3⟩ := HK.out _ q1)
                  | (go_at_call 49; refine (hW _).mono ?_; rintro e w1 ⟨rfl, hb1⟩; have q1 : Below wr.heap.size wr _ := later (by assumption) hb1; obtain ⟨z0, z1, z2, z3⟩ := HK.out _ q1)
                  | (go_at_call 66; refine (hT _).mono ?_; rintro e w1 ⟨rfl, hb1⟩; have q1 : Below wr.heap.size wr _ := later (by assumption) hb1; obtain ⟨z0, z1, z2, z3⟩ := HK.out _ q1)
                  | (go_at_call 65; with_reducible refine (hP _ (by assumption)).mono ?_; rintro e w1 ⟨rfl, hb1⟩; have q1 : Below wr.heap.size wr _ := later (by assumption) hb1; obtain ⟨z0, z1, z2, z3⟩ := HK.out _ q1)
                  | (go_at_call 65; refine (hQ _ (by assumption)).mono ?_; rintro e w1 ⟨rfl, hb1⟩; have q1 : Below wr.heap.size wr _ := later (by assumption) hb1; obtain ⟨z0, z1, z2, z3⟩ := HK.out _ q1))
                go_ret
                exact ⟨ret_bool (HN.out (by first | exact HO.out | (rw [HO.out]; rfl))).symm, hbr.trans ((by assumption : Below wr.heap.size wr _).mono hbr.size)⟩
              · have i1 : wrap64 ((k : Int) - 1) = (k : Int) - 1 := by
                  unfold wrap64
                  omega
                obtain ⟨cq, hcq⟩ : ∃ cq, l[k - 1]? = some cq := ⟨_, List.getElem?_eq_getElem (by omega)⟩
                have hQ : ∀ W' : World, Below wr.heap.size wr W' → Calls Try.prog 65 #[.slice (some ad) n cp, .int .i64 ((k : Int) - 1)] W' fun e w' => e = .returned (.bool (refPair l (k - 1))) ∧ Below W'.heap.size W' w' := fun W' hW' => by
                  rw [show (k : Int) - 1 = ((k - 1 : Nat) : Int) by omega]
                  exact pairR_gen ad n cp (k - 1) l W' hn hm (HR.out.below hW') cq hcq
                have HO := Lib.hid (show refOk l k = refPair l (k - 1) by rw [HO.out, decide_eq_true (show 1 ≤ k by omega)]; simp)
                generalize refPair l (k - 1) = Q at *
                clear hcq
                cases Q with
                | false =>
                  go_wp2_with (first
                    | (go_at_call 64; refine (hC _).mono ?_; rintro e w1 ⟨rfl, hb1⟩; have q1 : Below wr.heap.size wr _ := later (by assumption) hb1; obtain ⟨z0, z1, z2, z3⟩ := HK.out _ q1)
                    | (go_at_call 49; refine (hW _).mono ?_; rintro e w1 ⟨rfl, hb1⟩; have q1 : Below wr.heap.size wr _ := later (by assumption) hb1; obtain ⟨z0, z1, z2, z3⟩ := HK.out _ q1)
                    | (go_at_call 66; refine (hT _).mono ?_; rintro e w1 ⟨rfl, hb1⟩; have q1 : Below wr.heap.size wr _ := later (by assumption) hb1; obtain ⟨z0, z1, z2, z3⟩ := HK.out _ q1)
                    | (go_at_call 65; with_reducible refine (hP _ (by assumption)).mono ?_; rintro e w1 ⟨rfl, hb1⟩; have q1 : Below wr.heap.size wr _ := later (by assumption) hb1; obtain ⟨z0, z1, z2, z3⟩ := HK.out _ q1)
                    | (go_at_call 65; refine (hQ _ (by assumption)).mono ?_; rintro e w1 ⟨rfl, hb1⟩; have q1 : Below wr.heap.size wr _ := later (by assumption) hb1; obtain ⟨z0, z1, z2, z3⟩ := HK.out _ q1))
                  go_ret
                  exact ⟨ret_bool (HN.out (by first | exact HO.out | (rw [HO.out]; rfl))).symm, hbr.trans ((by assumption : Below wr.heap.size wr _).mono hbr.size)⟩
                | true =>
                  go_wp2_with (first
                    | (go_at_call 64; refine (hC _).mono ?_; rintro e w1 ⟨rfl, hb1⟩; have q1 : Below wr.heap.size wr _ := later (by assumption) hb1; obtain ⟨z0, z1, z2, z3⟩ := HK.out _ q1)
                    | (go_at_call 49; refine (hW _).mono ?_; rintro e w1 ⟨rfl, hb1⟩; have q1 : Below wr.heap.size wr _ := later (by assumption) hb1; obtain ⟨z0, z1, z2, z3⟩ := HK.out _ q1)
                    | (go_at_call 66; refine (hT _).mono ?_; rintro e w1 ⟨rfl, hb1⟩; have q1 : Below wr.heap.size wr _ := later (by assumption) hb1; obtain ⟨z0, z1, z2, z3⟩ := HK.out _ q1)
                    | (go_at_call 65; with_reducible refine (hP _ (by assumption)).mono ?_; rintro e w1 ⟨rfl, hb1⟩; have q1 : Below wr.heap.size wr _ := later (by assumption) hb1; obtain ⟨z0, z1, z2, z3⟩ := HK.out _ q1)
                    | (go_at_call 65; refine (hQ _ (by assumption)).mono ?_; rintro e w1 ⟨rfl, hb1⟩; have q1 : Below wr.heap.size wr _ := later (by assumption) hb1; obtain ⟨z0, z1, z2, z3⟩ := HK.out _ q1))
                  go_round
                  case rel => exact ⟨k + 1, hlt, by go_num, HY.out (by first | exact HO.out | (rw [HO.out]; rfl)), hbr.trans ((by assumption : Below wr.heap.size wr _).mono hbr.size)⟩
                  case measure => simp [intOf]; omega
    · have e1 : decide ((k : Int) < (n : Int)) = false := decide_eq_false (by omega)
      have e2 : decide (k < n) = false := decide_eq_false hlt
      have HE := Lib.hid (show refRight l = true from (refRight_iff l).2 (fun j hj => HD.out j (by omega)))
      clear hR
      go_wp2_with fail
      go_ret
      exact ⟨ret_bool HE.out.symm, hbr⟩
end Go.Proofs.Ytpjafocgabhieaa
