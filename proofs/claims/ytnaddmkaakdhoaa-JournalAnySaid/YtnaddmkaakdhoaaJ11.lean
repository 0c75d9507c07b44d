/-
  The walks of Go functions of this claim: each function's call comes to what the plain function of its name says.
  Written by a program of this claim's own (drive.py) over the kit's generator.
-/
import Derived.Test.YtnaddmkaakdhoaaJ0
import Derived.Test.YtnaddmkaakdhoaaJ26
import Derived.Test.YtnaddmkaakdhoaaJD
import Derived.Test.YtnaddmkaakdhoaaX23b
namespace Go.Proofs.Ytnaddmkaakdhoaa.J
open Go.RowKit Go.Proofs.YtnaddmkaakdhoaaW.PrintWords Go.Proofs.YtnaddmkaakdhoaaW.PrintLast Go.Proofs.YtnaddmkaakdhoaaW.PrintMore
attribute [local go_sem] max2_int min2_int max_two min_two max_three min_three max_four min_four   -- for this text's walks alone
set_option linter.unusedVariables false
set_option linter.unusedSimpArgs false

/-! ### corporalaw40_JournalAny: function 11 -/
def corporalaw40_JournalAny.f (k : Nat) (a0 : ByteArray) : Option (Bool) := if (a0.size : Int) > 300 then (some true) else ((journal_Scan.f a0).bind fun bt101 => ((journal_EncodeAll.f k bt101.1).bind fun bt106 => (if bt106.2 = 0 then (if bt101.2.1 = (bt106.1.size : Int) then (if bt101.2.1 ≤ (a0.size : Int) then (if 0 ≤ bt101.2.1 then (if (a0.extract 0 (bt101.2.1 : Int).toNat).toList = bt106.1.toList then (if ((bt101.2.2 == 0) == (bt101.2.1 == (a0.size : Int))) = true then ((corporalaw40_known.f k).bind fun t108 => (some t108)) else (some false)) else (some false)) else (none)) else (some false)) else (some false)) else (some false))))
theorem corporalaw40_JournalAny.mono : ∀ a0 k, LeO (corporalaw40_JournalAny.f k a0) (corporalaw40_JournalAny.f (k + 1) a0) := by
  intro a0 k
  unfold corporalaw40_JournalAny.f
  repeat' first
      | (with_reducible exact corporalaw40_known.mono _)
      | (with_reducible exact journal_EncodeAll.mono _ _)
      | (with_reducible exact LeO.refl _)
      | (with_reducible exact LeO.none _)
      | (with_reducible refine LeO.ite ?_ ?_)
      | (with_reducible refine LeO.bind ?_ (fun _ => ?_))
      | exact corporalaw40_known.mono _
      | exact journal_EncodeAll.mono _ _
      | exact LeO.none _
      | refine LeO.ite ?_ ?_
      | refine LeO.bind ?_ (fun _ => ?_)
set_option maxHeartbeats 8000000 in
set_option maxRecDepth 100000 in
theorem corporalaw40_JournalAny.calls (k : Nat) (a0 : ByteArray) (r : Bool) (w : World) (h : corporalaw40_JournalAny.f k a0 = some r) :
    Calls Try.prog 11 #[.string a0] w fun e w' => e = .returned (.bool r) ∧ Below w.heap.size w w' := by
  have HB := Aside0.mk (Below.refl w.heap.size w)
  have H : (if (a0.size : Int) > 300 then (some true) else ((journal_Scan.f a0).bind fun bt101 => ((journal_EncodeAll.f k bt101.1).bind fun bt106 => (if bt106.2 = 0 then (if bt101.2.1 = (bt106.1.size : Int) then (if bt101.2.1 ≤ (a0.size : Int) then (if 0 ≤ bt101.2.1 then (if (a0.extract 0 (bt101.2.1 : Int).toNat).toList = bt106.1.toList then (if ((bt101.2.2 == 0) == (bt101.2.1 == (a0.size : Int))) = true then ((corporalaw40_known.f k).bind fun t108 => (some t108)) else (some false)) else (some false)) else (none)) else (some false)) else (some false)) else (some false))))) = some r := h
  clear h
  by_cases c2 : (a0.size : Int) > 300
  · rw [if_pos c2] at H
    have c2b0 : decide (300 < (a0.size : Int)) = true := decide_eq_true c2
    have c2b1 : decide (300 < a0.size) = true := decide_eq_true (by omega)
    clear c2
    obtain rfl := Option.some.inj H
    go_enter Try.func11, Try.ntmps11
    go_wp2
    go_ret
    exact ⟨by first | rfl | (simp [errW_none, errW_some] <;> rfl) | (simp [*, errW_none, errW_some] <;> rfl), by repeat (first | (with_reducible first | exact HB.out | apply below_alloc | apply pw_below_drewN | apply below_drew1) | exact HB.out)⟩
  · rw [if_neg c2] at H
    have c2b0 : decide (300 < (a0.size : Int)) = false := decide_eq_false c2
    have c2b1 : decide (300 < a0.size) = false := decide_eq_false (by omega)
    clear c2
    replace H := Option.bind_eq_some_iff.mp H
    obtain ⟨⟨t101, t102, t103⟩, A30, H⟩ := H
    replace H : ((journal_EncodeAll.f k t101).bind fun bt106 => (if bt106.2 = 0 then (if t102 = (bt106.1.size : Int) then (if t102 ≤ (a0.size : Int) then (if 0 ≤ t102 then (if (a0.extract 0 (t102 : Int).toNat).toList = bt106.1.toList then (if ((t103 == 0) == (t102 == (a0.size : Int))) = true then ((corporalaw40_known.f k).bind fun t108 => (some t108)) else (some false)) else (some false)) else (none)) else (some false)) else (some false)) else (some false))) = some r := H
    have A3 := Aside0.mk A30
    clear A30
    replace H := Option.bind_eq_some_iff.mp H
    obtain ⟨⟨t106, t107⟩, A40, H⟩ := H
    replace H : (if t107 = 0 then (if t102 = (t106.size : Int) then (if t102 ≤ (a0.size : Int) then (if 0 ≤ t102 then (if (a0.extract 0 (t102 : Int).toNat).toList = t106.toList then (if ((t103 == 0) == (t102 == (a0.size : Int))) = true then ((corporalaw40_known.f k).bind fun t108 => (some t108)) else (some false)) else (some false)) else (none)) else (some false)) else (some false)) else (some false)) = some r := H
    have A4 := Aside0.mk A40
    clear A40
    by_cases c5 : t107 = 0
    · rw [if_pos c5] at H
      have c5b0 : (t107 == 0) = true := beq_iff_eq.mpr c5
      have c5b1 : (t107 != 0) = false := bne_eq_false_iff_eq.mpr c5
      clear c5
      by_cases c6 : t102 = (t106.size : Int)
      · rw [if_pos c6] at H
        have c6b0 : (t102 == (t106.size : Int)) = true := beq_iff_eq.mpr c6
        have c6b1 : (t102 != (t106.size : Int)) = false := bne_eq_false_iff_eq.mpr c6
        clear c6
        by_cases c7 : t102 ≤ (a0.size : Int)
        · rw [if_pos c7] at H
          have c7b0 : decide (t102 ≤ (a0.size : Int)) = true := decide_eq_true c7
          clear c7
          by_cases c8 : 0 ≤ t102
          · rw [if_pos c8] at H
            have c8b0 := eq_true c8
            have c8b1 : decide (0 ≤ t102) = true := decide_eq_true c8
            clear c8
            have c9b0 := eq_true (of_decide_eq_true (by first | (with_reducible assumption) | assumption) : t102 ≤ (a0.size : Int))
            by_cases c10 : (a0.extract 0 (t102 : Int).toNat).toList = t106.toList
            · rw [if_pos c10] at H
              have c10b0 : ((a0.extract 0 (t102 : Int).toNat).toList == t106.toList) = true := beq_iff_eq.mpr c10
              have c10b1 : ((a0.extract 0 (t102 : Int).toNat).toList != t106.toList) = false := bne_eq_false_iff_eq.mpr c10
              clear c10
              by_cases c11 : ((t103 == 0) == (t102 == (a0.size : Int))) = true
              · rw [if_pos c11] at H
                have c11b0 : ((t103 == 0) == (t102 == (a0.size : Int))) = true := c11
                (try (have c11b1 : decide ((t103 == 0) = (t102 == (a0.size : Int))) = true := by simpa using c11))
                (try (have c11b2 : ((t103 == 0) == (t102 == (a0.size : Int))) = true := by simpa using c11))
                clear c11
                replace H := Option.bind_eq_some_iff.mp H
                obtain ⟨t108, A120, H⟩ := H
                replace H : (some t108) = some r := H
                have A12 := Aside0.mk A120
                clear A120
                obtain rfl := Option.some.inj H
                go_enter Try.func11, Try.ntmps11
                go_wp2_with (first | ((with_reducible refine gate_callee (f := 23) rfl ?_); refine goesL_ (some 13) rfl rfl Try.func23 (by kernel_rfl) rfl #[.string a0] rfl (by (try simp only [List.map_toArray, List.map_cons, List.map_nil]); first | done | rfl | (simp only [List.length_drop, List.length_take]; rfl)) ?_; (with_reducible refine (journal_Scan.calls a0 t101 t102 t103 _ A3.out).mono ?_); rintro e w13 ⟨v104, rfl, ho0, hb⟩; refine ⟨_, rfl, ?_⟩; have n0_ := Aside0.mk (Kd.R_lower ho0 (below_size (by repeat (first | (with_reducible first | exact HB.out | apply below_alloc | apply pw_below_drewN | apply below_drew1) | exact HB.out)))); have n1_ := Aside0.mk (below_step (by repeat (first | (with_reducible first | exact HB.out | apply below_alloc | apply pw_below_drewN | apply below_drew1) | exact HB.out)) hb); clear HB; have HO105 := n0_; have HB := n1_; clear n0_ n1_; (try clear hb); (try clear hb2); (try clear hk); (try clear hi); (try clear ho0); obtain ⟨Ao14, co14, eo14⟩ := Kd.R_slice HO105.out; subst eo14) | ((with_reducible refine gate_callee (f := 28) rfl ?_); refine goesL_ (some 19) rfl rfl Try.func28 (by kernel_rfl) rfl #[.slice Ao14 t101.length co14] rfl (by (try simp only [List.map_toArray, List.map_cons, List.map_nil]); first | done | rfl | (simp only [List.length_drop, List.length_take]; rfl)) ?_; (with_reducible refine (journal_EncodeAll.calls k _ _ t101 t106 t107 _ ?side1 ?side2 A4.out).mono ?_); (case side1 => repeat (first | exact (Kd.R_reads' HO105.out).2.2 | (with_reducible refine Kd.C_alloc ?_ _) | (with_reducible refine Kd.C_drewN ?_ _) | (with_reducible refine Kd.C_drew ?_))); (case side2 => exact (Kd.R_reads' HO105.out).2.1); rintro e w15 ⟨rfl, hb⟩; refine ⟨_, rfl, ?_⟩; have n0_ := Aside0.mk (Kd.R_below (by (with_reducible repeat (first | apply Kd.R_alloc | apply Kd.R_drewN | apply Kd.R_drew)); exact HO105.out) hb); have n1_ := Aside0.mk (below_step (by repeat (first | (with_reducible first | exact HB.out | apply below_alloc | apply pw_below_drewN | apply below_drew1) | exact HB.out)) hb); clear HO105; clear HB; have HO105 := n0_; have HB := n1_; clear n0_ n1_; (try clear hb); (try clear hb2); (try clear hk); (try clear hi)) | (go_at_call 26; (with_reducible refine (corporalaw40_known.calls k  t108 _ A12.out).mono ?_); rintro e w16 ⟨rfl, hb⟩; have n0_ := Aside0.mk (Kd.R_below (by (with_reducible repeat (first | apply Kd.R_alloc | apply Kd.R_drewN | apply Kd.R_drew)); exact HO105.out) hb); have n1_ := Aside0.mk (below_step (by repeat (first | (with_reducible first | exact HB.out | apply below_alloc | apply pw_below_drewN | apply below_drew1) | exact HB.out)) hb); clear HO105; clear HB; have HO105 := n0_; have HB := n1_; clear n0_ n1_; (try clear hb); (try clear hb2); (try clear hk); (try clear hi)))
                go_ret
                exact ⟨by first | rfl | (simp [errW_none, errW_some] <;> rfl) | (simp [*, errW_none, errW_some] <;> rfl), by repeat (first | (with_reducible first | exact HB.out | apply below_alloc | apply pw_below_drewN | apply below_drew1) | exact HB.out)⟩
              · rw [if_neg c11] at H
                have c11b0 : ((t103 == 0) == (t102 == (a0.size : Int))) = false := by simpa using c11
                (try (have c11b1 : decide ((t103 == 0) = (t102 == (a0.size : Int))) = false := by simpa using c11))
                (try (have c11b2 : ((t103 == 0) == (t102 == (a0.size : Int))) = false := by simpa using c11))
                (try (have c11b3 : ¬ ((t103 == 0) = (t102 == (a0.size : Int))) := by simpa using c11))
                clear c11
                obtain rfl := Option.some.inj H
                go_enter Try.func11, Try.ntmps11
                go_wp2_with (first | ((with_reducible refine gate_callee (f := 23) rfl ?_); refine goesL_ (some 13) rfl rfl Try.func23 (by kernel_rfl) rfl #[.string a0] rfl (by (try simp only [List.map_toArray, List.map_cons, List.map_nil]); first | done | rfl | (simp only [List.length_drop, List.length_take]; rfl)) ?_; (with_reducible refine (journal_Scan.calls a0 t101 t102 t103 _ A3.out).mono ?_); rintro e w17 ⟨v104, rfl, ho0, hb⟩; refine ⟨_, rfl, ?_⟩; have n0_ := Aside0.mk (Kd.R_lower ho0 (below_size (by repeat (first | (with_reducible first | exact HB.out | apply below_alloc | apply pw_below_drewN | apply below_drew1) | exact HB.out)))); have n1_ := Aside0.mk (below_step (by repeat (first | (with_reducible first | exact HB.out | apply below_alloc | apply pw_below_drewN | apply below_drew1) | exact HB.out)) hb); clear HB; have HO105 := n0_; have HB := n1_; clear n0_ n1_; (try clear hb); (try clear hb2); (try clear hk); (try clear hi); (try clear ho0); obtain ⟨Ao18, co18, eo18⟩ := Kd.R_slice HO105.out; subst eo18) | ((with_reducible refine gate_callee (f := 28) rfl ?_); refine goesL_ (some 19) rfl rfl Try.func28 (by kernel_rfl) rfl #[.slice Ao18 t101.length co18] rfl (by (try simp only [List.map_toArray, List.map_cons, List.map_nil]); first | done | rfl | (simp only [List.length_drop, List.length_take]; rfl)) ?_; (with_reducible refine (journal_EncodeAll.calls k _ _ t101 t106 t107 _ ?side1 ?side2 A4.out).mono ?_); (case side1 => repeat (first | exact (Kd.R_reads' HO105.out).2.2 | (with_reducible refine Kd.C_alloc ?_ _) | (with_reducible refine Kd.C_drewN ?_ _) | (with_reducible refine Kd.C_drew ?_))); (case side2 => exact (Kd.R_reads' HO105.out).2.1); rintro e w19 ⟨rfl, hb⟩; refine ⟨_, rfl, ?_⟩; have n0_ := Aside0.mk (Kd.R_below (by (with_reducible repeat (first | apply Kd.R_alloc | apply Kd.R_drewN | apply Kd.R_drew)); exact HO105.out) hb); have n1_ := Aside0.mk (below_step (by repeat (first | (with_reducible first | exact HB.out | apply below_alloc | apply pw_below_drewN | apply below_drew1) | exact HB.out)) hb); clear HO105; clear HB; have HO105 := n0_; have HB := n1_; clear n0_ n1_; (try clear hb); (try clear hb2); (try clear hk); (try clear hi)))
                go_ret
                exact ⟨by first | rfl | (simp [errW_none, errW_some] <;> rfl) | (simp [*, errW_none, errW_some] <;> rfl), by repeat (first | (with_reducible first | exact HB.out | apply below_alloc | apply pw_below_drewN | apply below_drew1) | exact HB.out)⟩
            · rw [if_neg c10] at H
              have c10b0 : ((a0.extract 0 (t102 : Int).toNat).toList == t106.toList) = false := beq_eq_false_iff_ne.mpr c10
              have c10b1 : ((a0.extract 0 (t102 : Int).toNat).toList != t106.toList) = true := bne_iff_ne.mpr c10
              obtain rfl := Option.some.inj H
              go_enter Try.func11, Try.ntmps11
              go_wp2_with (first | ((with_reducible refine gate_callee (f := 23) rfl ?_); refine goesL_ (some 13) rfl rfl Try.func23 (by kernel_rfl) rfl #[.string a0] rfl (by (try simp only [List.map_toArray, List.map_cons, List.map_nil]); first | done | rfl | (simp only [List.length_drop, List.length_take]; rfl)) ?_; (with_reducible refine (journal_Scan.calls a0 t101 t102 t103 _ A3.out).mono ?_); rintro e w20 ⟨v104, rfl, ho0, hb⟩; refine ⟨_, rfl, ?_⟩; have n0_ := Aside0.mk (Kd.R_lower ho0 (below_size (by repeat (first | (with_reducible first | exact HB.out | apply below_alloc | apply pw_below_drewN | apply below_drew1) | exact HB.out)))); have n1_ := Aside0.mk (below_step (by repeat (first | (with_reducible first | exact HB.out | apply below_alloc | apply pw_below_drewN | apply below_drew1) | exact HB.out)) hb); clear HB; have HO105 := n0_; have HB := n1_; clear n0_ n1_; (try clear hb); (try clear hb2); (try clear hk); (try clear hi); (try clear ho0); obtain ⟨Ao21, co21, eo21⟩ := Kd.R_slice HO105.out; subst eo21) | ((with_reducible refine gate_callee (f := 28) rfl ?_); refine goesL_ (some 19) rfl rfl Try.func28 (by kernel_rfl) rfl #[.slice Ao21 t101.length co21] rfl (by (try simp only [List.map_toArray, List.map_cons, List.map_nil]); first | done | rfl | (simp only [List.length_drop, List.length_take]; rfl)) ?_; (with_reducible refine (journal_EncodeAll.calls k _ _ t101 t106 t107 _ ?side1 ?side2 A4.out).mono ?_); (case side1 => repeat (first | exact (Kd.R_reads' HO105.out).2.2 | (with_reducible refine Kd.C_alloc ?_ _) | (with_reducible refine Kd.C_drewN ?_ _) | (with_reducible refine Kd.C_drew ?_))); (case side2 => exact (Kd.R_reads' HO105.out).2.1); rintro e w22 ⟨rfl, hb⟩; refine ⟨_, rfl, ?_⟩; have n0_ := Aside0.mk (Kd.R_below (by (with_reducible repeat (first | apply Kd.R_alloc | apply Kd.R_drewN | apply Kd.R_drew)); exact HO105.out) hb); have n1_ := Aside0.mk (below_step (by repeat (first | (with_reducible first | exact HB.out | apply below_alloc | apply pw_below_drewN | apply below_drew1) | exact HB.out)) hb); clear HO105; clear HB; have HO105 := n0_; have HB := n1_; clear n0_ n1_; (try clear hb); (try clear hb2); (try clear hk); (try clear hi)))
              go_ret
              exact ⟨by first | rfl | (simp [errW_none, errW_some] <;> rfl) | (simp [*, errW_none, errW_some] <;> rfl), by repeat (first | (with_reducible first | exact HB.out | apply below_alloc | apply pw_below_drewN | apply below_drew1) | exact HB.out)⟩
          · rw [if_neg c8] at H
            exact absurd H (by simp)
        · rw [if_neg c7] at H
          have c7b0 : decide (t102 ≤ (a0.size : Int)) = false := decide_eq_false c7
          clear c7
          obtain rfl := Option.some.inj H
          go_enter Try.func11, Try.ntmps11
          go_wp2_with (first | ((with_reducible refine gate_callee (f := 23) rfl ?_); refine goesL_ (some 13) rfl rfl Try.func23 (by kernel_rfl) rfl #[.string a0] rfl (by (try simp only [List.map_toArray, List.map_cons, List.map_nil]); first | done | rfl | (simp only [List.length_drop, List.length_take]; rfl)) ?_; (with_reducible refine (journal_Scan.calls a0 t101 t102 t103 _ A3.out).mono ?_); rintro e w23 ⟨v104, rfl, ho0, hb⟩; refine ⟨_, rfl, ?_⟩; have n0_ := Aside0.mk (Kd.R_lower ho0 (below_size (by repeat (first | (with_reducible first | exact HB.out | apply below_alloc | apply pw_below_drewN | apply below_drew1) | exact HB.out)))); have n1_ := Aside0.mk (below_step (by repeat (first | (with_reducible first | exact HB.out | apply below_alloc | apply pw_below_drewN | apply below_drew1) | exact HB.out)) hb); clear HB; have HO105 := n0_; have HB := n1_; clear n0_ n1_; (try clear hb); (try clear hb2); (try clear hk); (try clear hi); (try clear ho0); obtain ⟨Ao24, co24, eo24⟩ := Kd.R_slice HO105.out; subst eo24) | ((with_reducible refine gate_callee (f := 28) rfl ?_); refine goesL_ (some 19) rfl rfl Try.func28 (by kernel_rfl) rfl #[.slice Ao24 t101.length co24] rfl (by (try simp only [List.map_toArray, List.map_cons, List.map_nil]); first | done | rfl | (simp only [List.length_drop, List.length_take]; rfl)) ?_; (with_reducible refine (journal_EncodeAll.calls k _ _ t101 t106 t107 _ ?side1 ?side2 A4.out).mono ?_); (case side1 => repeat (first | exact (Kd.R_reads' HO105.out).2.2 | (with_reducible refine Kd.C_alloc ?_ _) | (with_reducible refine Kd.C_drewN ?_ _) | (with_reducible refine Kd.C_drew ?_))); (case side2 => exact (Kd.R_reads' HO105.out).2.1); rintro e w25 ⟨rfl, hb⟩; refine ⟨_, rfl, ?_⟩; have n0_ := Aside0.mk (Kd.R_below (by (with_reducible repeat (first | apply Kd.R_alloc | apply Kd.R_drewN | apply Kd.R_drew)); exact HO105.out) hb); have n1_ := Aside0.mk (below_step (by repeat (first | (with_reducible first | exact HB.out | apply below_alloc | apply pw_below_drewN | apply below_drew1) | exact HB.out)) hb); clear HO105; clear HB; have HO105 := n0_; have HB := n1_; clear n0_ n1_; (try clear hb); (try clear hb2); (try clear hk); (try clear hi)))
          go_ret
          exact ⟨by first | rfl | (simp [errW_none, errW_some] <;> rfl) | (simp [*, errW_none, errW_some] <;> rfl), by repeat (first | (with_reducible first | exact HB.out | apply below_alloc | apply pw_below_drewN | apply below_drew1) | exact HB.out)⟩
      · rw [if_neg c6] at H
        have c6b0 : (t102 == (t106.size : Int)) = false := beq_eq_false_iff_ne.mpr c6
        have c6b1 : (t102 != (t106.size : Int)) = true := bne_iff_ne.mpr c6
        obtain rfl := Option.some.inj H
        go_enter Try.func11, Try.ntmps11
        go_wp2_with (first | ((with_reducible refine gate_callee (f := 23) rfl ?_); refine goesL_ (some 13) rfl rfl Try.func23 (by kernel_rfl) rfl #[.string a0] rfl (by (try simp only [List.map_toArray, List.map_cons, List.map_nil]); first | done | rfl | (simp only [List.length_drop, List.length_take]; rfl)) ?_; (with_reducible refine (journal_Scan.calls a0 t101 t102 t103 _ A3.out).mono ?_); rintro e w26 ⟨v104, rfl, ho0, hb⟩; refine ⟨_, rfl, ?_⟩; have n0_ := Aside0.mk (Kd.R_lower ho0 (below_size (by repeat (first | (with_reducible first | exact HB.out | apply below_alloc | apply pw_below_drewN | apply below_drew1) | exact HB.out)))); have n1_ := Aside0.mk (below_step (by repeat (first | (with_reducible first | exact HB.out | apply below_alloc | apply pw_below_drewN | apply below_drew1) | exact HB.out)) hb); clear HB; have HO105 := n0_; have HB := n1_; clear n0_ n1_; (try clear hb); (try clear hb2); (try clear hk); (try clear hi); (try clear ho0); obtain ⟨Ao27, co27, eo27⟩ := Kd.R_slice HO105.out; subst eo27) | ((with_reducible refine gate_callee (f := 28) rfl ?_); refine goesL_ (some 19) rfl rfl Try.func28 (by kernel_rfl) rfl #[.slice Ao27 t101.length co27] rfl (by (try simp only [List.map_toArray, List.map_cons, List.map_nil]); first | done | rfl | (simp only [List.length_drop, List.length_take]; rfl)) ?_; (with_reducible refine (journal_EncodeAll.calls k _ _ t101 t106 t107 _ ?side1 ?side2 A4.out).mono ?_); (case side1 => repeat (first | exact (Kd.R_reads' HO105.out).2.2 | (with_reducible refine Kd.C_alloc ?_ _) | (with_reducible refine Kd.C_drewN ?_ _) | (with_reducible refine Kd.C_drew ?_))); (case side2 => exact (Kd.R_reads' HO105.out).2.1); rintro e w28 ⟨rfl, hb⟩; refine ⟨_, rfl, ?_⟩; have n0_ := Aside0.mk (Kd.R_below (by (with_reducible repeat (first | apply Kd.R_alloc | apply Kd.R_drewN | apply Kd.R_drew)); exact HO105.out) hb); have n1_ := Aside0.mk (below_step (by repeat (first | (with_reducible first | exact HB.out | apply below_alloc | apply pw_below_drewN | apply below_drew1) | exact HB.out)) hb); clear HO105; clear HB; have HO105 := n0_; have HB := n1_; clear n0_ n1_; (try clear hb); (try clear hb2); (try clear hk); (try clear hi)))
        go_ret
        exact ⟨by first | rfl | (simp [errW_none, errW_some] <;> rfl) | (simp [*, errW_none, errW_some] <;> rfl), by repeat (first | (with_reducible first | exact HB.out | apply below_alloc | apply pw_below_drewN | apply below_drew1) | exact HB.out)⟩
    · rw [if_neg c5] at H
      have c5b0 : (t107 == 0) = false := beq_eq_false_iff_ne.mpr c5
      have c5b1 : (t107 != 0) = true := bne_iff_ne.mpr c5
      obtain rfl := Option.some.inj H
      go_enter Try.func11, Try.ntmps11
      go_wp2_with (first | ((with_reducible refine gate_callee (f := 23) rfl ?_); refine goesL_ (some 13) rfl rfl Try.func23 (by kernel_rfl) rfl #[.string a0] rfl (by (try simp only [List.map_toArray, List.map_cons, List.map_nil]); first | done | rfl | (simp only [List.length_drop, List.length_take]; rfl)) ?_; (with_reducible refine (journal_Scan.calls a0 t101 t102 t103 _ A3.out).mono ?_); rintro e w29 ⟨v104, rfl, ho0, hb⟩; refine ⟨_, rfl, ?_⟩; have n0_ := Aside0.mk (Kd.R_lower ho0 (below_size (by repeat (first | (with_reducible first | exact HB.out | apply below_alloc | apply pw_below_drewN | apply below_drew1) | exact HB.out)))); have n1_ := Aside0.mk (below_step (by repeat (first | (with_reducible first | exact HB.out | apply below_alloc | apply pw_below_drewN | apply below_drew1) | exact HB.out)) hb); clear HB; have HO105 := n0_; have HB := n1_; clear n0_ n1_; (try clear hb); (try clear hb2); (try clear hk); (try clear hi); (try clear ho0); obtain ⟨Ao30, co30, eo30⟩ := Kd.R_slice HO105.out; subst eo30) | ((with_reducible refine gate_callee (f := 28) rfl ?_); refine goesL_ (some 19) rfl rfl Try.func28 (by kernel_rfl) rfl #[.slice Ao30 t101.length co30] rfl (by (try simp only [List.map_toArray, List.map_cons, List.map_nil]); first | done | rfl | (simp only [List.length_drop, List.length_take]; rfl)) ?_; (with_reducible refine (journal_EncodeAll.calls k _ _ t101 t106 t107 _ ?side1 ?side2 A4.out).mono ?_); (case side1 => repeat (first | exact (Kd.R_reads' HO105.out).2.2 | (with_reducible refine Kd.C_alloc ?_ _) | (with_reducible refine Kd.C_drewN ?_ _) | (with_reducible refine Kd.C_drew ?_))); (case side2 => exact (Kd.R_reads' HO105.out).2.1); rintro e w31 ⟨rfl, hb⟩; refine ⟨_, rfl, ?_⟩; have n0_ := Aside0.mk (Kd.R_below (by (with_reducible repeat (first | apply Kd.R_alloc | apply Kd.R_drewN | apply Kd.R_drew)); exact HO105.out) hb); have n1_ := Aside0.mk (below_step (by repeat (first | (with_reducible first | exact HB.out | apply below_alloc | apply pw_below_drewN | apply below_drew1) | exact HB.out)) hb); clear HO105; clear HB; have HO105 := n0_; have HB := n1_; clear n0_ n1_; (try clear hb); (try clear hb2); (try clear hk); (try clear hi)))
      go_ret
      exact ⟨by first | rfl | (simp [errW_none, errW_some] <;> rfl) | (simp [*, errW_none, errW_some] <;> rfl), by repeat (first | (with_reducible first | exact HB.out | apply below_alloc | apply pw_below_drewN | apply below_drew1) | exact HB.out)⟩

/-- THE ONE PURE STATEMENT of corporalaw40_JournalAny: yours. -/
def corporalaw40_JournalAny.Pure : Prop := ∀ (a0 : ByteArray), a0.size ≤ 140737488351232 → ∃ k, corporalaw40_JournalAny.f k a0 = some true
theorem corporalaw40_JournalAny.walk (P : corporalaw40_JournalAny.Pure) (a0 : ByteArray) (w : World) (w0 : a0.size ≤ 140737488351232) :
    Calls Try.prog 11 #[.string a0] w fun e w' => e = .returned (.bool true) ∧ Below w.heap.size w w' := by
  obtain ⟨k, h⟩ := P a0 w0
  refine (corporalaw40_JournalAny.calls k a0 true w h).mono ?_
  rintro e w' ⟨rfl, hd⟩
  exact ⟨rfl, hd⟩

end Go.Proofs.Ytnaddmkaakdhoaa.J
