/-
  Texts of this claim, joined, without what the claim does not use: J24
-/
import Derived.Test.YtnaddmkaakdhoaaSC9n
section
namespace Go.Proofs.Ytnaddmkaakdhoaa.J
open Go.RowKit Go.Proofs.YtnaddmkaakdhoaaW.PrintWords Go.Proofs.YtnaddmkaakdhoaaW.PrintLast Go.Proofs.YtnaddmkaakdhoaaW.PrintMore
attribute [local go_sem] max2_int min2_int max_two min_two max_three min_three max_four min_four   -- for this text's walks alone
set_option linter.unusedVariables false
set_option linter.unusedSimpArgs false

mutual
def corporaref40_Scan.l0 : Nat → ByteArray → List (S37) → Int → Option ((List (S37)) × Int × Int)
  | 0, _, _, _ => none
  | k + 1, x0, x5, x6 => if 0 ≤ x6 then (if x6 ≤ (x0.size : Int) then (if (x0.extract (x6 : Int).toNat x0.size).toList = ([] : List UInt8) then (some (x5, x6, 0)) else (if ((x0.extract (x6 : Int).toNat x0.size).size : Int) < 9 then (corporaref40_Scan.j1 k x0 x5 x6 (x0.extract (x6 : Int).toNat x0.size) true) else ((corporaref40_length.f (x0.extract (x6 : Int).toNat x0.size)).bind fun t101 => (corporaref40_Scan.j1 k x0 x5 x6 (x0.extract (x6 : Int).toNat x0.size) (decide (((x0.extract (x6 : Int).toNat x0.size).size : Int) < (wrap64 (9 + t101)))))))) else (none)) else (none)
def corporaref40_Scan.j1 : Nat → ByteArray → List (S37) → Int → ByteArray → Bool → Option ((List (S37)) × Int × Int)
  | 0, _, _, _, _, _ => none
  | k + 1, x0, x5, x6, x7, x28 => if x28 = true then (some (x5, x6, 1)) else (if 8 < (x7.size : Int) then ((corporaref40_length.f x7).bind fun t102 => (if 9 ≤ (wrap64 (9 + t102)) then (if (wrap64 (9 + t102)) ≤ (x7.size : Int) then ((corporaref40_Encode.f k (wrap64 (bt x7 8)) (x7.extract 9 ((wrap64 (9 + t102)) : Int).toNat)).bind fun bt104 => (if bt104.2 = 0 then (if 0 ≤ (bt104.1.size : Int) then (if (bt104.1.size : Int) ≤ (x7.size : Int) then (corporaref40_Scan.j2 k x0 x5 x6 x7 (bt104.1.toList != (x7.extract 0 ((bt104.1.size : Int) : Int).toNat).toList) (wrap64 (bt x7 8)) (x7.extract 9 ((wrap64 (9 + t102)) : Int).toNat)) else (none)) else (none)) else (corporaref40_Scan.j2 k x0 x5 x6 x7 true (wrap64 (bt x7 8)) (x7.extract 9 ((wrap64 (9 + t102)) : Int).toNat)))) else (none)) else (none))) else (none))
def corporaref40_Scan.j2 : Nat → ByteArray → List (S37) → Int → ByteArray → Bool → Int → ByteArray → Option ((List (S37)) × Int × Int)
  | 0, _, _, _, _, _, _, _ => none
  | k + 1, x0, x5, x6, x7, x54, x104000, x104001 => if x54 = true then (if 0 ≤ (wrap64 ((x7.size : Int) - 1)) then (if (wrap64 ((x7.size : Int) - 1)) < (x7.size : Int) then (if (bt x7 (wrap64 ((x7.size : Int) - 1))) = 0 then (some (x5, x6, 1)) else (some (x5, x6, 2))) else (none)) else (none)) else (if x5.length < 5864062014805 then (corporaref40_Scan.l0 k x0 (x5 ++ [(⟨x104000, x104001⟩ : S37)]) (wrap64 ((wrap64 (x6 + 9)) + (x104001.size : Int)))) else (none))
end
def corporaref40_Scan.f (k : Nat) (a0 : ByteArray) : Option ((List (S37)) × Int × Int) := corporaref40_Scan.l0 k a0 ([] : List (S37)) 0
theorem corporaref40_Scan.mono_l : ∀ k, (∀ y0 y1 y2, LeO (corporaref40_Scan.l0 k y0 y1 y2) (corporaref40_Scan.l0 (k + 1) y0 y1 y2)) ∧ (∀ y0 y1 y2 y3 y4, LeO (corporaref40_Scan.j1 k y0 y1 y2 y3 y4) (corporaref40_Scan.j1 (k + 1) y0 y1 y2 y3 y4)) ∧ (∀ y0 y1 y2 y3 y4 y5 y6, LeO (corporaref40_Scan.j2 k y0 y1 y2 y3 y4 y5 y6) (corporaref40_Scan.j2 (k + 1) y0 y1 y2 y3 y4 y5 y6))
  | 0 => ⟨fun _ _ _ r h => by simp [corporaref40_Scan.l0] at h, fun _ _ _ _ _ r h => by simp [corporaref40_Scan.j1] at h, fun _ _ _ _ _ _ _ r h => by simp [corporaref40_Scan.j2] at h⟩
  | k + 1 => by
    obtain ⟨ih0, ih1, ih2⟩ := corporaref40_Scan.mono_l k
    refine ⟨?_, ?_, ?_⟩
    · intro y0 y1 y2
      unfold corporaref40_Scan.l0
      repeat' first
      | (with_reducible exact ih0 _ _ _)
      | (with_reducible exact ih1 _ _ _ _ _)
      | (with_reducible exact ih2 _ _ _ _ _ _ _)
      | (with_reducible exact corporaref40_Encode.mono _ _ _)
      | (with_reducible exact LeO.refl _)
      | (with_reducible exact LeO.none _)
      | (with_reducible refine LeO.ite ?_ ?_)
      | (with_reducible refine LeO.bind ?_ (fun _ => ?_))
      | exact ih0 _ _ _
      | exact ih1 _ _ _ _ _
      | exact ih2 _ _ _ _ _ _ _
      | exact corporaref40_Encode.mono _ _ _
      | exact LeO.none _
      | refine LeO.ite ?_ ?_
      | refine LeO.bind ?_ (fun _ => ?_)
    · intro y0 y1 y2 y3 y4
      unfold corporaref40_Scan.j1
      repeat' first
      | (with_reducible exact ih0 _ _ _)
      | (with_reducible exact ih1 _ _ _ _ _)
      | (with_reducible exact ih2 _ _ _ _ _ _ _)
      | (with_reducible exact corporaref40_Encode.mono _ _ _)
      | (with_reducible exact LeO.refl _)
      | (with_reducible exact LeO.none _)
      | (with_reducible refine LeO.ite ?_ ?_)
      | (with_reducible refine LeO.bind ?_ (fun _ => ?_))
      | exact ih0 _ _ _
      | exact ih1 _ _ _ _ _
      | exact ih2 _ _ _ _ _ _ _
      | exact corporaref40_Encode.mono _ _ _
      | exact LeO.none _
      | refine LeO.ite ?_ ?_
      | refine LeO.bind ?_ (fun _ => ?_)
    · intro y0 y1 y2 y3 y4 y5 y6
      unfold corporaref40_Scan.j2
      repeat' first
      | (with_reducible exact ih0 _ _ _)
      | (with_reducible exact ih1 _ _ _ _ _)
      | (with_reducible exact ih2 _ _ _ _ _ _ _)
      | (with_reducible exact corporaref40_Encode.mono _ _ _)
      | (with_reducible exact LeO.refl _)
      | (with_reducible exact LeO.none _)
      | (with_reducible refine LeO.ite ?_ ?_)
      | (with_reducible refine LeO.bind ?_ (fun _ => ?_))
      | exact ih0 _ _ _
      | exact ih1 _ _ _ _ _
      | exact ih2 _ _ _ _ _ _ _
      | exact corporaref40_Encode.mono _ _ _
      | exact LeO.none _
      | refine LeO.ite ?_ ?_
      | refine LeO.bind ?_ (fun _ => ?_)
theorem corporaref40_Scan.mono : ∀ a0 k, LeO (corporaref40_Scan.f k a0) (corporaref40_Scan.f (k + 1) a0) := by
  intro a0 k
  obtain ⟨ih0, ih1, ih2⟩ := corporaref40_Scan.mono_l k
  unfold corporaref40_Scan.f
  repeat' first
      | (with_reducible exact ih0 _ _ _)
      | (with_reducible exact ih1 _ _ _ _ _)
      | (with_reducible exact ih2 _ _ _ _ _ _ _)
      | (with_reducible exact corporaref40_Encode.mono _ _ _)
      | (with_reducible exact LeO.refl _)
      | (with_reducible exact LeO.none _)
      | (with_reducible refine LeO.ite ?_ ?_)
      | (with_reducible refine LeO.bind ?_ (fun _ => ?_))
      | exact ih0 _ _ _
      | exact ih1 _ _ _ _ _
      | exact ih2 _ _ _ _ _ _ _
      | exact corporaref40_Encode.mono _ _ _
      | exact LeO.none _
      | refine LeO.ite ?_ ?_
      | refine LeO.bind ?_ (fun _ => ?_)
def corporaref40_Scan.T8 : Bool × List (List Nat × List Nat) := (true, [([], []), ([0], [0]), ([1], [1]), ([], []), ([], []), ([4], [4]), ([5], [5]), ([3, 6], [3, 6]), ([2, 7], [2, 7]), ([], []), ([9, 8, 5, 0, 1, 2, 3, 4, 5, 6, 7, 8, 9], [8, 9])])
def corporaref40_Scan.B8 : List Nat := [0, 1, 3, 0, 0, 16, 48, 120, 255, 0, 1023]
theorem corporaref40_Scan.tab8 : rtab .any (opsOf Try.f24 8) = corporaref40_Scan.T8 := by kernel_rfl
theorem corporaref40_Scan.bits8 : waitsOk corporaref40_Scan.T8.2 corporaref40_Scan.B8 = true := by kernel_rfl
def corporaref40_Scan.T14 : Bool × List (List Nat × List Nat) := (true, [([], []), ([], []), ([1], [1]), ([0, 2], [0, 2]), ([], []), ([4], [4]), ([], []), ([6], [6]), ([7], [7]), ([5, 8], [5, 8]), ([3, 3, 0, 1, 2, 3], [0, 3]), ([9, 10, 0, 1, 2, 3, 4, 5, 6, 7, 8, 9, 10], [4, 9])])
def corporaref40_Scan.B14 : List Nat := [0, 0, 2, 7, 0, 16, 0, 64, 192, 496, 15, 2047]
theorem corporaref40_Scan.tab14 : rtab .any (opsOf Try.f24 14) = corporaref40_Scan.T14 := by kernel_rfl
theorem corporaref40_Scan.bits14 : waitsOk corporaref40_Scan.T14.2 corporaref40_Scan.B14 = true := by kernel_rfl
set_option maxHeartbeats 8000000 in
set_option maxRecDepth 100000 in
theorem corporaref40_Scan.calls (k : Nat) (a0 : ByteArray) (r1 : List (S37)) (r2 : Int) (r3 : Int) (w : World) (h : corporaref40_Scan.f k a0 = some (r1, r2, r3)) :
    Calls Try.prog 24 #[.string a0] w fun e w' => ∃ v0_ : Value, e = .returned (.tuple #[v0_, .int .i64 r2, .int .i64 r3]) ∧ Kd.R k37 37 w' w.heap.size (fun _ => True) v0_ r1 ∧ Below w.heap.size w w' := by
  have hu37 := Try.underlying37
  have HB := Aside0.mk (Below.refl w.heap.size w)
  have H : (corporaref40_Scan.l0 k a0 ([] : List (S37)) 0) = some (r1, r2, r3) := h
  clear h
  have H' := Aside0.mk H
  clear H
  go_enter Try.func24, Try.ntmps24
  go_wp2
  go_loopg [5, 6] k (fun kq v5 v6 w' => ∃ (x5_1 : List (S37)) (x6_1 : Int), v6 = .int .i64 x6_1 ∧ Aside0 (corporaref40_Scan.l0 kq a0 x5_1 x6_1 = some (r1, r2, r3)) ∧ Aside0 (kq ≤ k) ∧ Aside0 (Kd.R k37 37 w' w.heap.size (fun _ => True) v5 x5_1) ∧ Aside0 (Below w.heap.size w w'))
  case atStart => exact ⟨(([] : List (S37))), (0), (by first | rfl | (simp; done) | (simp [*]; done)), H', ⟨Nat.le_refl _⟩, ⟨by first | exact Kd.R_nil _ _ _ _ _ | exact Kd.N_nil _ _ _ _ _ | exact Kd.V_nil _ _ _ _ _ | exact Kd.Q_nil _ _ _ _ _ | exact Kd.S_nil _ _ _ _ _⟩, ⟨by repeat (first | (with_reducible first | exact HB.out | apply below_alloc | apply pw_below_drewN | apply below_drew1) | exact HB.out)⟩⟩
  case round =>
    clear H'
    obtain ⟨x5_1, x6_1, rfl, HA, HK1, HO_5, HB⟩ := hrel
    cases gk with
    | zero => exact absurd HA.out (by simp [corporaref40_Scan.l0])
    | succ k1 =>
      have H := HA.out
      clear HA
      simp only [corporaref40_Scan.l0] at H
      by_cases c2 : 0 ≤ x6_1
      · rw [if_pos c2] at H
        have c2b0 := eq_true c2
        have c2b1 : decide (0 ≤ x6_1) = true := decide_eq_true c2
        clear c2
        by_cases c3 : x6_1 ≤ (a0.size : Int)
        · rw [if_pos c3] at H
          have c3b0 := eq_true c3
          have c3b1 : decide (x6_1 ≤ (a0.size : Int)) = true := decide_eq_true c3
          clear c3
          by_cases c4 : (a0.extract (x6_1 : Int).toNat a0.size).toList = ([] : List UInt8)
          · rw [if_pos c4] at H
            have c4b0 : ((a0.extract (x6_1 : Int).toNat a0.size).toList == ([] : List UInt8)) = true := beq_iff_eq.mpr c4
            have c4b1 : ((a0.extract (x6_1 : Int).toNat a0.size).toList != ([] : List UInt8)) = false := bne_eq_false_iff_eq.mpr c4
            clear c4
            simp only [Option.some.injEq, Prod.mk.injEq] at H
            obtain ⟨rfl, rfl, rfl⟩ := H
            go_wp2
            go_ret3
            exact ⟨_, by first | rfl | (simp [errW_none, errW_some] <;> rfl) | (simp [*, errW_none, errW_some] <;> rfl), by (with_reducible repeat (first | apply Kd.R_alloc | apply Kd.R_drewN | apply Kd.R_drew)); exact HO_5.out, by repeat (first | (with_reducible first | exact HB.out | apply below_alloc | apply pw_below_drewN | apply below_drew1) | exact HB.out)⟩
          · rw [if_neg c4] at H
            have c4b0 : ((a0.extract (x6_1 : Int).toNat a0.size).toList == ([] : List UInt8)) = false := beq_eq_false_iff_ne.mpr c4
            have c4b1 : ((a0.extract (x6_1 : Int).toNat a0.size).toList != ([] : List UInt8)) = true := bne_iff_ne.mpr c4
            have HC5 := Aside0.mk H
            clear H
            go_upto_region 6 with (fail)
            go_cut [28] (fun v28 wc => ∃ (kq : Nat) (x28_4 : Bool), v28 = .bool x28_4 ∧ Aside0 (corporaref40_Scan.j1 kq a0 x5_1 x6_1 (a0.extract (x6_1 : Int).toNat a0.size) x28_4 = some (r1, r2, r3)) ∧ Aside0 (kq ≤ k1) ∧ Aside0 (Kd.R k37 37 wc w.heap.size (fun _ => True) u5 x5_1) ∧ Aside0 (Below w.heap.size w wc))
            case first =>
              have H := HC5.out
              clear HC5
              by_cases c6 : ((a0.extract (x6_1 : Int).toNat a0.size).size : Int) < 9
              · rw [if_pos c6] at H
                try (have c6e := c6; simp only [ByteArray.size_extract, ByteArray.size_append, Nat.min_self] at c6e; have c6f := decide_eq_true c6e)
                have c6b0 : decide (((a0.extract (x6_1 : Int).toNat a0.size).size : Int) < 9) = true := decide_eq_true c6
                have c6b1 : decide ((a0.extract (x6_1 : Int).toNat a0.size).size < 9) = true := decide_eq_true (by omega)
                clear c6
                (first | rw [c6b0] | (simp only [i64_w, i32_w]; rw [c6b0]) | skip)
                have H' := Aside0.mk H
                clear H
                go_wp2
                go_meet
                case rel => exact ⟨_, (true), (by first | rfl | (simp; done) | (simp [*]; done)), H', ⟨by have := HK1.out; first | omega | exact Nat.le_refl _⟩, ⟨by (with_reducible repeat (first | apply Kd.R_alloc | apply Kd.R_drewN | apply Kd.R_drew)); exact HO_5.out⟩, ⟨by repeat (first | (with_reducible first | exact HB.out | apply below_alloc | apply pw_below_drewN | apply below_drew1) | exact HB.out)⟩⟩
              · rw [if_neg c6] at H
                try (have c6e := c6; simp only [ByteArray.size_extract, ByteArray.size_append, Nat.min_self] at c6e; have c6f := decide_eq_false c6e)
                have c6b0 : decide (((a0.extract (x6_1 : Int).toNat a0.size).size : Int) < 9) = false := decide_eq_false c6
                have c6b1 : decide ((a0.extract (x6_1 : Int).toNat a0.size).size < 9) = false := decide_eq_false (by omega)
                clear c6
                (first | rw [c6b0] | (simp only [i64_w, i32_w]; rw [c6b0]) | skip)
                replace H := Option.bind_eq_some_iff.mp H
                obtain ⟨t101, A70, H⟩ := H
                replace H : (corporaref40_Scan.j1 k1 a0 x5_1 x6_1 (a0.extract (x6_1 : Int).toNat a0.size) (decide (((a0.extract (x6_1 : Int).toNat a0.size).size : Int) < (wrap64 (9 + t101))))) = some (r1, r2, r3) := H
                have A7 := Aside0.mk A70
                clear A70
                have H' := Aside0.mk H
                clear H
                go_wp2_with (first | (go_at_call 51; (with_reducible refine (corporaref40_length.calls (a0.extract (x6_1 : Int).toNat a0.size) t101 _ A7.out).mono ?_); rintro e w' ⟨rfl, ⟨nd, rfl⟩⟩))
                go_meet
                case rel => exact ⟨_, (decide (((a0.extract (x6_1 : Int).toNat a0.size).size : Int) < (wrap64 (9 + t101)))), (by first | rfl | (simp; done) | (simp [*]; done)), H', ⟨by have := HK1.out; first | omega | exact Nat.le_refl _⟩, ⟨by (with_reducible repeat (first | apply Kd.R_alloc | apply Kd.R_drewN | apply Kd.R_drew)); exact HO_5.out⟩, ⟨by repeat (first | (with_reducible first | exact HB.out | apply below_alloc | apply pw_below_drewN | apply below_drew1) | exact HB.out)⟩⟩
            case rest =>
              clear HC5
              try clear c2
              try clear c2b0
              try clear c2b1
              try clear p2
              try clear c3
              try clear c3b0
              try clear c3b1
              try clear c4
              try clear c4b0
              try clear c4b1
              try clear c6
              try clear c6b0
              try clear c6b1
              try clear p6
              obtain ⟨kq, x28_4, rfl, HA, HJ4, HO_5, HB⟩ := hcut
              cases kq with
              | zero => exact absurd HA.out (by simp [corporaref40_Scan.j1])
              | succ kj4 =>
                have H := HA.out
                clear HA
                simp only [corporaref40_Scan.j1] at H
                by_cases c8 : x28_4 = true
                · subst c8
                  have H1 : (some (x5_1, x6_1, 1)) = some (r1, r2, r3) := by rw [if_pos rfl] at H; exact H
                  clear H
                  have H := H1
                  clear H1
                  simp only [Option.some.injEq, Prod.mk.injEq] at H
                  obtain ⟨rfl, rfl, rfl⟩ := H
                  go_wp2
                  go_ret3
                  exact ⟨_, by first | rfl | (simp [errW_none, errW_some] <;> rfl) | (simp [*, errW_none, errW_some] <;> rfl), by (with_reducible repeat (first | apply Kd.R_alloc | apply Kd.R_drewN | apply Kd.R_drew)); exact HO_5.out, by repeat (first | (with_reducible first | exact HB.out | apply below_alloc | apply pw_below_drewN | apply below_drew1) | exact HB.out)⟩
                · replace c8 := Bool.eq_false_iff.mpr c8
                  subst c8
                  have H1 : (if 8 < ((a0.extract (x6_1 : Int).toNat a0.size).size : Int) then ((corporaref40_length.f (a0.extract (x6_1 : Int).toNat a0.size)).bind fun t102 => (if 9 ≤ (wrap64 (9 + t102)) then (if (wrap64 (9 + t102)) ≤ ((a0.extract (x6_1 : Int).toNat a0.size).size : Int) then ((corporaref40_Encode.f kj4 (wrap64 (bt (a0.extract (x6_1 : Int).toNat a0.size) 8)) ((a0.extract (x6_1 : Int).toNat a0.size).extract 9 ((wrap64 (9 + t102)) : Int).toNat)).bind fun bt104 => (if bt104.2 = 0 then (if 0 ≤ (bt104.1.size : Int) then (if (bt104.1.size : Int) ≤ ((a0.extract (x6_1 : Int).toNat a0.size).size : Int) then (corporaref40_Scan.j2 kj4 a0 x5_1 x6_1 (a0.extract (x6_1 : Int).toNat a0.size) (bt104.1.toList != ((a0.extract (x6_1 : Int).toNat a0.size).extract 0 ((bt104.1.size : Int) : Int).toNat).toList) (wrap64 (bt (a0.extract (x6_1 : Int).toNat a0.size) 8)) ((a0.extract (x6_1 : Int).toNat a0.size).extract 9 ((wrap64 (9 + t102)) : Int).toNat)) else (none)) else (none)) else (corporaref40_Scan.j2 kj4 a0 x5_1 x6_1 (a0.extract (x6_1 : Int).toNat a0.size) true (wrap64 (bt (a0.extract (x6_1 : Int).toNat a0.size) 8)) ((a0.extract (x6_1 : Int).toNat a0.size).extract 9 ((wrap64 (9 + t102)) : Int).toNat)))) else (none)) else (none))) else (none)) = some (r1, r2, r3) := by rw [if_neg (show ¬ (false = true) by decide)] at H; exact H
                  clear H
                  have H := H1
                  clear H1
                  by_cases c9 : 8 < ((a0.extract (x6_1 : Int).toNat a0.size).size : Int)
                  · rw [if_pos c9] at H
                    try (have c9e := c9; simp only [ByteArray.size_extract, ByteArray.size_append, Nat.min_self] at c9e; have c9f := decide_eq_true c9e)
                    have c9b0 : decide (8 < ((a0.extract (x6_1 : Int).toNat a0.size).size : Int)) = true := decide_eq_true c9
                    have c9b1 : decide (8 < (a0.extract (x6_1 : Int).toNat a0.size).size) = true := decide_eq_true (by omega)
                    clear c9
                    replace H := Option.bind_eq_some_iff.mp H
                    obtain ⟨t102, A110, H⟩ := H
                    replace H : (if 9 ≤ (wrap64 (9 + t102)) then (if (wrap64 (9 + t102)) ≤ ((a0.extract (x6_1 : Int).toNat a0.size).size : Int) then ((corporaref40_Encode.f kj4 (wrap64 (bt (a0.extract (x6_1 : Int).toNat a0.size) 8)) ((a0.extract (x6_1 : Int).toNat a0.size).extract 9 ((wrap64 (9 + t102)) : Int).toNat)).bind fun bt104 => (if bt104.2 = 0 then (if 0 ≤ (bt104.1.size : Int) then (if (bt104.1.size : Int) ≤ ((a0.extract (x6_1 : Int).toNat a0.size).size : Int) then (corporaref40_Scan.j2 kj4 a0 x5_1 x6_1 (a0.extract (x6_1 : Int).toNat a0.size) (bt104.1.toList != ((a0.extract (x6_1 : Int).toNat a0.size).extract 0 ((bt104.1.size : Int) : Int).toNat).toList) (wrap64 (bt (a0.extract (x6_1 : Int).toNat a0.size) 8)) ((a0.extract (x6_1 : Int).toNat a0.size).extract 9 ((wrap64 (9 + t102)) : Int).toNat)) else (none)) else (none)) else (corporaref40_Scan.j2 kj4 a0 x5_1 x6_1 (a0.extract (x6_1 : Int).toNat a0.size) true (wrap64 (bt (a0.extract (x6_1 : Int).toNat a0.size) 8)) ((a0.extract (x6_1 : Int).toNat a0.size).extract 9 ((wrap64 (9 + t102)) : Int).toNat)))) else (none)) else (none)) = some (r1, r2, r3) := H
                    have A11 := Aside0.mk A110
                    clear A110
                    by_cases c12 : 9 ≤ (wrap64 (9 + t102))
                    · rw [if_pos c12] at H
                      have c12b0 := eq_true c12
                      have c12b1 : decide (9 ≤ (wrap64 (9 + t102))) = true := decide_eq_true c12
                      by_cases c13 : (wrap64 (9 + t102)) ≤ ((a0.extract (x6_1 : Int).toNat a0.size).size : Int)
                      · rw [if_pos c13] at H
                        have c13b0 := eq_true c13
                        have c13b1 : decide ((wrap64 (9 + t102)) ≤ ((a0.extract (x6_1 : Int).toNat a0.size).size : Int)) = true := decide_eq_true c13
                        try (have c13e := c13; simp only [ByteArray.size_extract, ByteArray.size_append, Nat.min_self] at c13e; have c13f := decide_eq_true c13e; have c13g := eq_true c13e)
                        replace H := Option.bind_eq_some_iff.mp H
                        obtain ⟨⟨t104, t105⟩, A140, H⟩ := H
                        replace H : (if t105 = 0 then (if 0 ≤ (t104.size : Int) then (if (t104.size : Int) ≤ ((a0.extract (x6_1 : Int).toNat a0.size).size : Int) then (corporaref40_Scan.j2 kj4 a0 x5_1 x6_1 (a0.extract (x6_1 : Int).toNat a0.size) (t104.toList != ((a0.extract (x6_1 : Int).toNat a0.size).extract 0 ((t104.size : Int) : Int).toNat).toList) (wrap64 (bt (a0.extract (x6_1 : Int).toNat a0.size) 8)) ((a0.extract (x6_1 : Int).toNat a0.size).extract 9 ((wrap64 (9 + t102)) : Int).toNat)) else (none)) else (none)) else (corporaref40_Scan.j2 kj4 a0 x5_1 x6_1 (a0.extract (x6_1 : Int).toNat a0.size) true (wrap64 (bt (a0.extract (x6_1 : Int).toNat a0.size) 8)) ((a0.extract (x6_1 : Int).toNat a0.size).extract 9 ((wrap64 (9 + t102)) : Int).toNat))) = some (r1, r2, r3) := H
                        have A14 := Aside0.mk A140
                        clear A140
                        have HC15 := Aside0.mk H
                        clear H
                        try go_wp2
                        have n0_ := Aside0.mk (Kd.R_drew HO_5.out)
                        have n1_ := Aside0.mk (below_drew1 HB.out)
                        clear HO_5
                        clear HB
                        have HO_5 := n0_
                        have HB := n1_
                        clear n0_ n1_
                        have p10 : 0 ≤ (8 : Int) := (by omega)
                        have q10 : 8 < (a0.extract (x6_1 : Int).toNat a0.size).size := (by have : (8 : Int) < ((a0.extract (x6_1 : Int).toNat a0.size).size : Int) := of_decide_eq_true (by first | (with_reducible assumption) | assumption); omega)
                        have hx10 : ∀ h : 8 < (a0.extract (x6_1 : Int).toNat a0.size).size, (((a0.extract (x6_1 : Int).toNat a0.size)[8]'h).toNat : Int) = bt (a0.extract (x6_1 : Int).toNat a0.size) 8 := bt_at (a0.extract (x6_1 : Int).toNat a0.size) 8
                        clear p10
                        have qi10 : (8 < ((a0.extract (x6_1 : Int).toNat a0.size).size : Int)) = True := eq_true (of_decide_eq_true (by first | (with_reducible assumption) | assumption))
                        replace q10 := eq_true q10
                        refine start_ (n := 11) (S := fun w' => True) (ds := []) #[false, false, false, false, false, false, false, false, false, false, false] (by kernel_rfl) rfl rfl trivial (fun hHeld => ?_); refine with_tabW corporaref40_Scan.tab8 corporaref40_Scan.bits8 (fun HT_ HW_ => ?_)
                        generalize wc.drew = w16 at HO_5 HB hHeld ⊢
                        refine pure_ (i := 0) (N := some 31) (v := ?_) (a' := ?_) #[true, false, false, false, false, false, false, false, false, false, false] rfl rfl (any_of HT_.out (by kernel_rfl)) (fun _ _ _ h => h) (Or.inl ⟨by rfl, ?_⟩) ?_ ?_
                        rotate_left
                        · intro w'
                          go_simp
                          with_reducible rfl
                        rotate_left
                        · simp only [Act.put, List.setIfInBounds_toArray, List.set_cons_zero, List.set_cons_succ, i64_w, i32_w]
                          rfl
                        refine pure_ (i := 3) (N := some 34) (v := ?_) (a' := ?_) #[true, false, false, true, false, false, false, false, false, false, false] rfl rfl (any_of HT_.out (by kernel_rfl)) (fun _ _ _ h => h) (Or.inl ⟨by rfl, ?_⟩) ?_ ?_
                        rotate_left
                        · intro w'
                          go_simp
                          with_reducible rfl
                        rotate_left
                        · simp only [Act.put, List.setIfInBounds_toArray, List.set_cons_zero, List.set_cons_succ, i64_w, i32_w]
                          rfl
                        refine pure_ (i := 4) (N := some 35) (v := ?_) (a' := ?_) #[true, false, false, true, true, false, false, false, false, false, false] rfl rfl (any_of HT_.out (by kernel_rfl)) (fun _ _ _ h => h) (Or.inl ⟨by rfl, ?_⟩) ?_ ?_
                        rotate_left
                        · intro w'
                          go_simp
                          with_reducible rfl
                        rotate_left
                        · simp only [Act.put, List.setIfInBounds_toArray, List.set_cons_zero, List.set_cons_succ, i64_w, i32_w]
                          rfl
                        refine take_ (i := 1) (N := some 32) (v := ?_) (a' := ?_) #[true, true, false, true, true, false, false, false, false, false, false] rfl rfl (take_ofW HT_.out HW_.out (by kernel_rfl)) (fun _ _ _ h => h) (Or.inl ⟨by rfl, ?_⟩) hHeld ?_ ?_
                        rotate_left
                        · intro w' _
                          go_simp
                          with_reducible rfl
                        rotate_left
                        · simp only [Act.put, List.setIfInBounds_toArray, List.set_cons_zero, List.set_cons_succ, i64_w, i32_w]
                          rfl
                        refine pure_ (i := 2) (N := some 33) (v := ?_) (a' := ?_) #[true, true, true, true, true, false, false, false, false, false, false] rfl rfl (any_of HT_.out (by kernel_rfl)) (fun _ _ _ h => h) (Or.inl ⟨by rfl, ?_⟩) ?_ ?_
                        rotate_left
                        · intro w'
                          go_simp
                          with_reducible rfl
                        rotate_left
                        · simp only [Act.put, List.setIfInBounds_toArray, List.set_cons_zero, List.set_cons_succ, i64_w, i32_w]
                          rfl
                        refine join_ (σ := Nat) 1 #[true, true, true, true, true, true, true, true, true, true, false] (fun s_ => [(36, .int .i64 t102), (8, .pointer (some ⟨s_, 0, none⟩)), (37, .int .i64 (wrap64 (9 + t102))), (38, .string ((a0.extract (x6_1 : Int).toNat a0.size).extract 9 ((wrap64 (9 + t102)) : Int).toNat)), (39, .agg #[.int .i64 (wrap64 (bt (a0.extract (x6_1 : Int).toNat a0.size) 8)), .string ((a0.extract (x6_1 : Int).toNat a0.size).extract 9 ((wrap64 (9 + t102)) : Int).toNat)])]) (fun s_ w' => (Kd.R k37 37 w' w.heap.size (fun k_ => k_ ≠ s_) u5 x5_1) ∧ (w'.heap[s_]? = some (.cells #[.int .i64 0, .string (⟨#[]⟩ : ByteArray)] 37 (0, 0))) ∧ (w.heap.size ≤ s_) ∧ (w.heap.size ≤ s_) ∧ (Below w.heap.size w w')) ?_ ?_
                        rotate_left
                        · intro hCont
                          refine two_ (i := 5) (j := 9) (Ni := some 36) (Nj := some 8) #[true, true, true, true, true, true, false, false, false, false, false] #[true, true, true, true, true, false, false, false, false, true, false] rfl rfl rfl rfl (two_of HT_.out (by kernel_rfl)) (by decide) (by decide) (fun K hK => ?_) (fun K hK => ?_)
                          · skip
                            refine goes_ Try.func51 (by kernel_rfl) rfl #[.string (a0.extract (x6_1 : Int).toNat a0.size)] (by rfl) rfl rfl (by (try simp only [List.map_toArray, List.map_cons, List.map_nil]); first | done | rfl | (simp only [List.length_drop, List.length_take]; rfl)) ?_
                            with_reducible refine (corporaref40_length.calls (a0.extract (x6_1 : Int).toNat a0.size) t102 _ A11.out).mono ?_
                            rintro e w' ⟨rfl, ⟨nd, rfl⟩⟩
                            refine ⟨_, rfl, ?_⟩
                            refine hK.out _ _ trivial (fun hHeld => ?_)
                            clear hK K
                            refine norm_ (a' := ?_) ?_ ?_
                            rotate_left
                            · show Act.put _ (some 36) _ = _
                              simp only [Act.put, List.setIfInBounds_toArray, List.set_cons_zero, List.set_cons_succ, i64_w, i32_w]
                              rfl
                            refine pure_ (i := 6) (N := some 37) (v := ?_) (a' := ?_) #[true, true, true, true, true, true, true, false, false, false, false] rfl rfl (any_of HT_.out (by kernel_rfl)) (fun _ _ _ h => h) (Or.inl ⟨by rfl, ?_⟩) ?_ ?_
                            rotate_left
                            · intro w'
                              go_simp
                              with_reducible rfl
                            rotate_left
                            · simp only [Act.put, List.setIfInBounds_toArray, List.set_cons_zero, List.set_cons_succ, i64_w, i32_w]
                              rfl
                            refine pure_ (i := 7) (N := some 38) (v := ?_) (a' := ?_) #[true, true, true, true, true, true, true, true, false, false, false] rfl rfl (any_of HT_.out (by kernel_rfl)) (fun _ _ _ h => h) (Or.inl ⟨by rfl, ?_⟩) ?_ ?_
                            rotate_left
                            · intro w'
                              go_simp
                              with_reducible rfl
                            rotate_left
                            · simp only [Act.put, List.setIfInBounds_toArray, List.set_cons_zero, List.set_cons_succ, i64_w, i32_w]
                              rfl
                            refine pure_ (i := 8) (N := some 39) (v := ?_) (a' := ?_) #[true, true, true, true, true, true, true, true, true, false, false] rfl rfl (any_of HT_.out (by kernel_rfl)) (fun _ _ _ h => h) (Or.inl ⟨by rfl, ?_⟩) ?_ ?_
                            rotate_left
                            · intro w'
                              go_simp
                              with_reducible rfl
                            rotate_left
                            · simp only [Act.put, List.setIfInBounds_toArray, List.set_cons_zero, List.set_cons_succ, i64_w, i32_w]
                              rfl
                            refine one_ (i := 9) (N := some 8) #[true, true, true, true, true, true, true, true, true, true, false] rfl rfl (one_of HT_.out (by kernel_rfl)) (by decide) (fun K hK => ?_)
                            refine box_step ?hg (N := 8) ?hd (cs := #[.int .i64 0, .string (⟨#[]⟩ : ByteArray)]) (t := 37) ?hr ?_; (case hd => rfl); (case hg => rfl); (case hr => first | (go_simp; done) | (go_simp; rfl))
                            intro gb103 hg w17 hbox hb
                            have n0_ := Aside0.mk (Kd.R_below (Kd.R_elderB (by (with_reducible repeat (first | apply Kd.R_alloc | apply Kd.R_drewN | apply Kd.R_drew)); exact HO_5.out) gb103 (Nat.le_of_eq hg.symm)) hb)
                            have n1_ := Aside0.mk (below_step (by repeat (first | (with_reducible first | exact HB.out | apply below_alloc | apply pw_below_drewN | apply below_drew1) | exact HB.out)) hb)
                            have n2_ := Aside0.mk (hbox)
                            have n3_ := Aside0.mk ((by rw [hg]; exact (below_size (by repeat (first | (with_reducible first | exact HB.out | apply below_alloc | apply pw_below_drewN | apply below_drew1) | exact HB.out))) : w.heap.size ≤ gb103))
                            have n4_ := Aside0.mk ((by rw [hg]; exact (below_size (by repeat (first | (with_reducible first | exact HB.out | apply below_alloc | apply pw_below_drewN | apply below_drew1) | exact HB.out))) : w.heap.size ≤ gb103))
                            clear HO_5
                            clear HB
                            have HO_5 := n0_
                            have HB := n1_
                            have BK103 := n2_
                            have GW103 := n3_
                            have GE103 := n4_
                            clear n0_ n1_ n2_ n3_ n4_
                            clear hb hbox hg
                            refine hK.out _ _ trivial (fun hHeld => ?_)
                            clear hK K
                            refine norm_ (a' := ?_) ?_ ?_
                            rotate_left
                            · show Act.put _ (some 8) _ = _
                              simp only [Act.put, List.setIfInBounds_toArray, List.set_cons_zero, List.set_cons_succ, i64_w, i32_w]
                              rfl
                            exact norm_ (by simp only [putAll, Act.put, List.setIfInBounds_toArray, List.set_cons_zero, List.set_cons_succ]) (hCont (gb103) _ ⟨(by (with_reducible repeat (first | apply Kd.R_alloc | apply Kd.R_drewN | apply Kd.R_drew)); exact Kd.R_mono HO_5.out (fun _ hk => hk.2)), (by (with_reducible repeat (first | refine blk_drewN ?_ _ | refine blk_drew ?_ | refine blk_alloc ?_ _)); exact BK103.out), GW103.out, GE103.out, (by repeat (first | (with_reducible first | exact HB.out | apply below_alloc | apply pw_below_drewN | apply below_drew1 | refine below_set ?_ GE103.out) | exact HB.out))⟩)
                          · skip
                            refine box_step ?hg (N := 8) ?hd (cs := #[.int .i64 0, .string (⟨#[]⟩ : ByteArray)]) (t := 37) ?hr ?_; (case hd => rfl); (case hg => rfl); (case hr => first | (go_simp; done) | (go_simp; rfl))
                            intro gb103 hg w17 hbox hb
                            have n0_ := Aside0.mk (Kd.R_below (Kd.R_elderB (by (with_reducible repeat (first | apply Kd.R_alloc | apply Kd.R_drewN | apply Kd.R_drew)); exact HO_5.out) gb103 (Nat.le_of_eq hg.symm)) hb)
                            have n1_ := Aside0.mk (below_step (by repeat (first | (with_reducible first | exact HB.out | apply below_alloc | apply pw_below_drewN | apply below_drew1) | exact HB.out)) hb)
                            have n2_ := Aside0.mk (hbox)
                            have n3_ := Aside0.mk ((by rw [hg]; exact (below_size (by repeat (first | (with_reducible first | exact HB.out | apply below_alloc | apply pw_below_drewN | apply below_drew1) | exact HB.out))) : w.heap.size ≤ gb103))
                            have n4_ := Aside0.mk ((by rw [hg]; exact (below_size (by repeat (first | (with_reducible first | exact HB.out | apply below_alloc | apply pw_below_drewN | apply below_drew1) | exact HB.out))) : w.heap.size ≤ gb103))
                            clear HO_5
                            clear HB
                            have HO_5 := n0_
                            have HB := n1_
                            have BK103 := n2_
                            have GW103 := n3_
                            have GE103 := n4_
                            clear n0_ n1_ n2_ n3_ n4_
                            clear hb hbox hg
                            refine hK.out _ _ trivial (fun hHeld => ?_)
                            clear hK K
                            refine norm_ (a' := ?_) ?_ ?_
                            rotate_left
                            · show Act.put _ (some 8) _ = _
                              simp only [Act.put, List.setIfInBounds_toArray, List.set_cons_zero, List.set_cons_succ, i64_w, i32_w]
                              rfl
                            refine one_ (i := 5) (N := some 36) #[true, true, true, true, true, true, false, false, false, true, false] rfl rfl (one_of HT_.out (by kernel_rfl)) (by decide) (fun K hK => ?_)
                            refine goes_ Try.func51 (by kernel_rfl) rfl #[.string (a0.extract (x6_1 : Int).toNat a0.size)] (by rfl) rfl rfl (by (try simp only [List.map_toArray, List.map_cons, List.map_nil]); first | done | rfl | (simp only [List.length_drop, List.length_take]; rfl)) ?_
                            with_reducible refine (corporaref40_length.calls (a0.extract (x6_1 : Int).toNat a0.size) t102 _ A11.out).mono ?_
                            rintro e w' ⟨rfl, ⟨nd, rfl⟩⟩
                            refine ⟨_, rfl, ?_⟩
                            refine hK.out _ _ trivial (fun hHeld => ?_)
                            clear hK K
                            refine norm_ (a' := ?_) ?_ ?_
                            rotate_left
                            · show Act.put _ (some 36) _ = _
                              simp only [Act.put, List.setIfInBounds_toArray, List.set_cons_zero, List.set_cons_succ, i64_w, i32_w]
                              rfl
                            refine pure_ (i := 6) (N := some 37) (v := ?_) (a' := ?_) #[true, true, true, true, true, true, true, false, false, true, false] rfl rfl (any_of HT_.out (by kernel_rfl)) (fun _ _ _ h => h) (Or.inl ⟨by rfl, ?_⟩) ?_ ?_
                            rotate_left
                            · intro w'
                              go_simp
                              with_reducible rfl
                            rotate_left
                            · simp only [Act.put, List.setIfInBounds_toArray, List.set_cons_zero, List.set_cons_succ, i64_w, i32_w]
                              rfl
                            refine pure_ (i := 7) (N := some 38) (v := ?_) (a' := ?_) #[true, true, true, true, true, true, true, true, false, true, false] rfl rfl (any_of HT_.out (by kernel_rfl)) (fun _ _ _ h => h) (Or.inl ⟨by rfl, ?_⟩) ?_ ?_
                            rotate_left
                            · intro w'
                              go_simp
                              with_reducible rfl
                            rotate_left
                            · simp only [Act.put, List.setIfInBounds_toArray, List.set_cons_zero, List.set_cons_succ, i64_w, i32_w]
                              rfl
                            refine pure_ (i := 8) (N := some 39) (v := ?_) (a' := ?_) #[true, true, true, true, true, true, true, true, true, true, false] rfl rfl (any_of HT_.out (by kernel_rfl)) (fun _ _ _ h => h) (Or.inl ⟨by rfl, ?_⟩) ?_ ?_
                            rotate_left
                            · intro w'
                              go_simp
                              with_reducible rfl
                            rotate_left
                            · simp only [Act.put, List.setIfInBounds_toArray, List.set_cons_zero, List.set_cons_succ, i64_w, i32_w]
                              rfl
                            exact norm_ (by simp only [putAll, Act.put, List.setIfInBounds_toArray, List.set_cons_zero, List.set_cons_succ]) (hCont (gb103) _ ⟨(by (with_reducible repeat (first | apply Kd.R_alloc | apply Kd.R_drewN | apply Kd.R_drew)); exact Kd.R_mono HO_5.out (fun _ hk => hk.2)), (by (with_reducible repeat (first | refine blk_drewN ?_ _ | refine blk_drew ?_ | refine blk_alloc ?_ _)); exact BK103.out), GW103.out, GE103.out, (by repeat (first | (with_reducible first | exact HB.out | apply below_alloc | apply pw_below_drewN | apply below_drew1 | refine below_set ?_ GE103.out) | exact HB.out))⟩)
                        rintro gb103 w18 ⟨h0_, h1_, h2_, h3_, h4_⟩
                        have n0_ : Aside0 (Kd.R k37 37 w18 w.heap.size (fun k_ => k_ ≠ gb103) u5 x5_1) := ⟨h0_⟩
                        have n1_ : Aside0 (w18.heap[gb103]? = some (.cells #[.int .i64 0, .string (⟨#[]⟩ : ByteArray)] 37 (0, 0))) := ⟨h1_⟩
                        have n2_ : Aside0 (w.heap.size ≤ gb103) := ⟨h2_⟩
                        have n3_ : Aside0 (w.heap.size ≤ gb103) := ⟨h3_⟩
                        have n4_ : Aside0 (Below w.heap.size w w18) := ⟨h4_⟩
                        clear HO_5
                        clear HB
                        clear h0_ h1_ h2_ h3_ h4_
                        have HO_5 := n0_
                        have BK103 := n1_
                        have GW103 := n2_
                        have GE103 := n3_
                        have HB := n4_
                        clear n0_ n1_ n2_ n3_ n4_
                        have hHeld := trivial
                        refine norm_ (a' := ?_) ?_ ?_
                        rotate_left
                        · simp only [putAll, Act.put, List.setIfInBounds_toArray, List.set_cons_zero, List.set_cons_succ]
                          rfl
                        refine one_ (i := 10) (N := none) #[true, true, true, true, true, true, true, true, true, true, true] rfl rfl (one_of HT_.out (by kernel_rfl)) (by decide) (fun K hK => ?_)
                        have hs19 : w18.cell? ⟨gb103, 0, none⟩ = some (.int .i64 0) := (blk_cell BK103.out 0).trans rfl
                        have hfs19 := blk_frozen BK103.out 0
                        have hs20 : w18.cell? ⟨gb103, 1, none⟩ = some (.string (⟨#[]⟩ : ByteArray)) := (blk_cell BK103.out 1).trans rfl
                        have hfs20 := blk_frozen BK103.out 1
                        refine skip_ (w1 := ?_) (by rfl) rfl ?_ ?_
                        rotate_left
                        · go_simp
                          rfl
                        refine hK.out _ _ trivial (fun hHeld => ?_)
                        clear hK K
                        refine done_ (done_of HT_.out (by kernel_rfl)) ?_
                        have hcz21_0 : w18.cell? ⟨gb103, 0, none⟩ = some (.int .i64 0) := (blk_cell BK103.out 0).trans rfl
                        have hcz21_1 : w18.cell? ⟨gb103, 1, none⟩ = some (.string (⟨#[]⟩ : ByteArray)) := (blk_cell BK103.out 1).trans rfl
                        have hfz21_0 := blk_frozen BK103.out 0
                        have hfz21_1 := blk_frozen BK103.out 1
                        go_upto_region 10 with (first | ((with_reducible refine gate_callee (f := 30) rfl ?_); refine goesL_ (some 42) rfl rfl Try.func30 (by kernel_rfl) rfl #[.agg #[.int .i64 (wrap64 (bt (a0.extract (x6_1 : Int).toNat a0.size) 8)), .string ((a0.extract (x6_1 : Int).toNat a0.size).extract 9 ((wrap64 (9 + t102)) : Int).toNat)]] rfl (by (try simp only [List.map_toArray, List.map_cons, List.map_nil]); first | done | rfl | (simp only [List.length_drop, List.length_take]; rfl)) ?_; (with_reducible refine (corporaref40_Encode.calls kj4 (wrap64 (bt (a0.extract (x6_1 : Int).toNat a0.size) 8)) ((a0.extract (x6_1 : Int).toNat a0.size).extract 9 ((wrap64 (9 + t102)) : Int).toNat) t104 t105 _ A14.out).mono ?_); rintro e w22 ⟨rfl, hb⟩; refine ⟨_, rfl, ?_⟩; have n0_ := Aside0.mk (Kd.R_below (by (with_reducible repeat (first | apply Kd.R_alloc | apply Kd.R_drewN | apply Kd.R_drew)); exact (Kd.R_mono (Kd.R_far (p := ⟨gb103, 1, none⟩) (Kd.R_far (p := ⟨gb103, 0, none⟩) (Kd.R_mono HO_5.out (fun k_ hk => (⟨hk, hk⟩ : _ ∧ k_ ≠ gb103))) (fun _ hk => hk.2) (.int .i64 (wrap64 (bt (a0.extract (x6_1 : Int).toNat a0.size) 8)))) (fun _ hk => hk.2) (.string ((a0.extract (x6_1 : Int).toNat a0.size).extract 9 ((wrap64 (9 + t102)) : Int).toNat))) (fun _ h_ => h_.1))) hb); have n1_ := Aside0.mk (blk_below (g := gb103) (o := .cells #[.int .i64 (wrap64 (bt (a0.extract (x6_1 : Int).toNat a0.size) 8)), .string ((a0.extract (x6_1 : Int).toNat a0.size).extract 9 ((wrap64 (9 + t102)) : Int).toNat)] 37 (0, 0)) (by (with_reducible repeat (first | refine blk_drewN ?_ _ | refine blk_drew ?_ | refine blk_alloc ?_ _)); refine blk_put (cs := #[.int .i64 (wrap64 (bt (a0.extract (x6_1 : Int).toNat a0.size) 8)), .string (⟨#[]⟩ : ByteArray)]) ?_ 1 _ rfl; (with_reducible repeat (first | refine blk_drewN ?_ _ | refine blk_drew ?_ | refine blk_alloc ?_ _)); refine blk_put (cs := #[.int .i64 0, .string (⟨#[]⟩ : ByteArray)]) ?_ 0 _ rfl; (with_reducible repeat (first | refine blk_drewN ?_ _ | refine blk_drew ?_ | refine blk_alloc ?_ _)); exact BK103.out) hb); have n2_ := Aside0.mk (below_step (by repeat (first | (with_reducible first | exact HB.out | apply below_alloc | apply pw_below_drewN | apply below_drew1 | refine below_set ?_ GE103.out) | exact HB.out)) hb); clear HO_5; clear BK103; clear HB; have HO_5 := n0_; have BK103 := n1_; have HB := n2_; clear n0_ n1_ n2_; (try clear hb); (try clear hb2); (try clear hk); (try clear hi)))
                        (try simp only [Act.put, List.setIfInBounds_toArray, List.set_cons_zero, List.set_cons_succ])
                        go_cut [54] (fun v54 wc => ∃ (kq : Nat) (x54_14 : Bool), v54 = .bool x54_14 ∧ Aside0 (corporaref40_Scan.j2 kq a0 x5_1 x6_1 (a0.extract (x6_1 : Int).toNat a0.size) x54_14 (wrap64 (bt (a0.extract (x6_1 : Int).toNat a0.size) 8)) ((a0.extract (x6_1 : Int).toNat a0.size).extract 9 ((wrap64 (9 + t102)) : Int).toNat) = some (r1, r2, r3)) ∧ Aside0 (kq ≤ kj4) ∧ Aside0 (Kd.R k37 37 wc w.heap.size (fun k_ => k_ ≠ gb103) u5 x5_1) ∧ Aside0 (wc.heap[gb103]? = some (.cells #[.int .i64 (wrap64 (bt (a0.extract (x6_1 : Int).toNat a0.size) 8)), .string ((a0.extract (x6_1 : Int).toNat a0.size).extract 9 ((wrap64 (9 + t102)) : Int).toNat)] 37 (0, 0))) ∧ Aside0 (Below w.heap.size w wc))
                        case first =>
                          have H := HC15.out
                          clear HC15
                          by_cases c23 : t105 = 0
                          · rw [if_pos c23] at H
                            have c23b0 : (t105 == 0) = true := beq_iff_eq.mpr c23
                            have c23b1 : (t105 != 0) = false := bne_eq_false_iff_eq.mpr c23
                            clear c23
                            (first | rw [c23b0] | (simp only [i64_w, i32_w]; rw [c23b0]) | skip)
                            by_cases c24 : 0 ≤ (t104.size : Int)
                            · rw [if_pos c24] at H
                              have c24b0 := eq_true c24
                              have c24b1 : decide (0 ≤ (t104.size : Int)) = true := decide_eq_true c24
                              clear c24
                              by_cases c25 : (t104.size : Int) ≤ ((a0.extract (x6_1 : Int).toNat a0.size).size : Int)
                              · rw [if_pos c25] at H
                                have c25b0 := eq_true c25
                                have c25b1 : decide ((t104.size : Int) ≤ ((a0.extract (x6_1 : Int).toNat a0.size).size : Int)) = true := decide_eq_true c25
                                try (have c25e := c25; simp only [ByteArray.size_extract, ByteArray.size_append, Nat.min_self] at c25e; have c25f := decide_eq_true c25e; have c25g := eq_true c25e)
                                clear c25
                                have H' := Aside0.mk H
                                clear H
                                go_wp2
                                go_meet
                                case rel => exact ⟨_, ((t104.toList != ((a0.extract (x6_1 : Int).toNat a0.size).extract 0 ((t104.size : Int) : Int).toNat).toList)), (by first | rfl | (simp; done) | (simp [*]; done)), H', ⟨by have := HK1.out; have := HJ4.out; first | omega | exact Nat.le_refl _⟩, ⟨by (with_reducible repeat (first | apply Kd.R_alloc | apply Kd.R_drewN | apply Kd.R_drew)); exact HO_5.out⟩, ⟨by (with_reducible repeat (first | refine blk_drewN ?_ _ | refine blk_drew ?_ | refine blk_alloc ?_ _)); exact BK103.out⟩, ⟨by repeat (first | (with_reducible first | exact HB.out | apply below_alloc | apply pw_below_drewN | apply below_drew1 | refine below_set ?_ GE103.out) | exact HB.out)⟩⟩
                              · rw [if_neg c25] at H
                                exact absurd H (by simp)
                            · rw [if_neg c24] at H
                              exact absurd H (by simp)
                          · rw [if_neg c23] at H
                            have c23b0 : (t105 == 0) = false := beq_eq_false_iff_ne.mpr c23
                            have c23b1 : (t105 != 0) = true := bne_iff_ne.mpr c23
                            (first | rw [c23b0] | (simp only [i64_w, i32_w]; rw [c23b0]) | skip)
                            have H' := Aside0.mk H
                            clear H
                            go_wp2
                            go_meet
                            case rel => exact ⟨_, (true), (by first | rfl | (simp; done) | (simp [*]; done)), H', ⟨by have := HK1.out; have := HJ4.out; first | omega | exact Nat.le_refl _⟩, ⟨by (with_reducible repeat (first | apply Kd.R_alloc | apply Kd.R_drewN | apply Kd.R_drew)); exact HO_5.out⟩, ⟨by (with_reducible repeat (first | refine blk_drewN ?_ _ | refine blk_drew ?_ | refine blk_alloc ?_ _)); exact BK103.out⟩, ⟨by repeat (first | (with_reducible first | exact HB.out | apply below_alloc | apply pw_below_drewN | apply below_drew1 | refine below_set ?_ GE103.out) | exact HB.out)⟩⟩
                        case rest =>
                          clear HC15
                          try clear c1
                          try clear p1
                          try clear q1
                          try clear hx1
                          try clear qi1
                          try clear c2
                          try clear c2b0
                          try clear c2b1
                          try clear p2
                          try clear c3
                          try clear c3b0
                          try clear c3b1
                          try clear c4
                          try clear c4b0
                          try clear c4b1
                          try clear c5
                          try clear c6
                          try clear c6b0
                          try clear c6b1
                          try clear p6
                          try clear c8
                          try clear c9
                          try clear c9b0
                          try clear c9b1
                          try clear p10
                          try clear q10
                          try clear hx10
                          try clear qi10
                          try clear c12
                          try clear c12b0
                          try clear c12b1
                          try clear c13
                          try clear c13b0
                          try clear c13b1
                          try clear c23
                          try clear c23b0
                          try clear c23b1
                          try clear c24
                          try clear c24b0
                          try clear c24b1
                          try clear c25
                          try clear c25b0
                          try clear c25b1
                          try clear hcz21_0
                          try clear hcz21_1
                          try clear hfz21_0
                          try clear hfz21_1
                          try clear p10
                          try clear p2
                          try clear p6
                          try clear q10
                          obtain ⟨kq, x54_14, rfl, HA, HJ14, HO_5, BK103, HB⟩ := hcut
                          cases kq with
                          | zero => exact absurd HA.out (by simp [corporaref40_Scan.j2])
                          | succ kj14 =>
                            have H := HA.out
                            clear HA
                            simp only [corporaref40_Scan.j2] at H
                            by_cases c26 : x54_14 = true
                            · subst c26
                              have H1 : (if 0 ≤ (wrap64 (((a0.extract (x6_1 : Int).toNat a0.size).size : Int) - 1)) then (if (wrap64 (((a0.extract (x6_1 : Int).toNat a0.size).size : Int) - 1)) < ((a0.extract (x6_1 : Int).toNat a0.size).size : Int) then (if (bt (a0.extract (x6_1 : Int).toNat a0.size) (wrap64 (((a0.extract (x6_1 : Int).toNat a0.size).size : Int) - 1))) = 0 then (some (x5_1, x6_1, 1)) else (some (x5_1, x6_1, 2))) else (none)) else (none)) = some (r1, r2, r3) := by rw [if_pos rfl] at H; exact H
                              clear H
                              have H := H1
                              clear H1
                              obtain ⟨ji27, hji27⟩ : ∃ j_ : Int, (wrap64 (((a0.extract (x6_1 : Int).toNat a0.size).size : Int) - 1)) = j_ := ⟨_, rfl⟩
                              replace H : (if 0 ≤ (ji27) then (if (ji27) < ((a0.extract (x6_1 : Int).toNat a0.size).size : Int) then (if (bt (a0.extract (x6_1 : Int).toNat a0.size) (ji27)) = 0 then (some (x5_1, x6_1, 1)) else (some (x5_1, x6_1, 2))) else (none)) else (none)) = some (r1, r2, r3) := by first | (rw [hji27] at H; exact H) | (simp only [hji27] at H ⊢; exact H)
                              have hji27w : (IntKind.i64.wrap (((a0.extract (x6_1 : Int).toNat a0.size).size : Int) - 1)) = ji27 := (i64_w _).trans hji27
                              try (have hji27e := hji27; simp only [ByteArray.size_extract, ByteArray.size_append, Nat.min_self] at hji27e)
                              try (have hji27ew := hji27w; simp only [ByteArray.size_extract, ByteArray.size_append, Nat.min_self] at hji27ew)
                              by_cases c28 : 0 ≤ (ji27)
                              · rw [if_pos c28] at H
                                have c28b0 : decide (0 ≤ (ji27)) = true := decide_eq_true c28
                                clear c28
                                by_cases c29 : (ji27) < ((a0.extract (x6_1 : Int).toNat a0.size).size : Int)
                                · rw [if_pos c29] at H
                                  try (have c29e := c29; simp only [ByteArray.size_extract, ByteArray.size_append, Nat.min_self] at c29e; have c29f := decide_eq_true c29e)
                                  have c29b0 : decide ((ji27) < ((a0.extract (x6_1 : Int).toNat a0.size).size : Int)) = true := decide_eq_true c29
                                  clear c29
                                  by_cases c31 : (bt (a0.extract (x6_1 : Int).toNat a0.size) (ji27)) = 0
                                  · rw [if_pos c31] at H
                                    have c31b0 : ((bt (a0.extract (x6_1 : Int).toNat a0.size) (ji27)) == 0) = true := beq_iff_eq.mpr c31
                                    have c31b1 : ((bt (a0.extract (x6_1 : Int).toNat a0.size) (ji27)) != 0) = false := bne_eq_false_iff_eq.mpr c31
                                    clear c31
                                    simp only [Option.some.injEq, Prod.mk.injEq] at H
                                    obtain ⟨rfl, rfl, rfl⟩ := H
                                    have p30 : 0 ≤ ((ji27) : Int) := of_decide_eq_true (by first | (with_reducible assumption) | assumption)
                                    have q30 : (ji27) < ((a0.extract (x6_1 : Int).toNat a0.size).size : Int) := of_decide_eq_true (by first | (with_reducible assumption) | assumption)
                                    have hx30 := bt_at (a0.extract (x6_1 : Int).toNat a0.size) (ji27)
                                    replace p30 := eq_true p30
                                    replace q30 := eq_true q30
                                    go_wp2
                                    go_ret3
                                    exact ⟨_, by first | rfl | (simp [errW_none, errW_some] <;> rfl) | (simp only [← hji27]; first | rfl | (simp [errW_none, errW_some] <;> rfl)) | (simp [*, errW_none, errW_some] <;> rfl), by (with_reducible repeat (first | apply Kd.R_alloc | apply Kd.R_drewN | apply Kd.R_drew)); exact Kd.R_mono HO_5.out (fun _ hk => trivial), by repeat (first | (with_reducible first | exact HB.out | apply below_alloc | apply pw_below_drewN | apply below_drew1 | refine below_set ?_ GE103.out) | exact HB.out)⟩
                                  · rw [if_neg c31] at H
                                    have c31b0 : ((bt (a0.extract (x6_1 : Int).toNat a0.size) (ji27)) == 0) = false := beq_eq_false_iff_ne.mpr c31
                                    have c31b1 : ((bt (a0.extract (x6_1 : Int).toNat a0.size) (ji27)) != 0) = true := bne_iff_ne.mpr c31
                                    simp only [Option.some.injEq, Prod.mk.injEq] at H
                                    obtain ⟨rfl, rfl, rfl⟩ := H
                                    have p30 : 0 ≤ ((ji27) : Int) := of_decide_eq_true (by first | (with_reducible assumption) | assumption)
                                    have q30 : (ji27) < ((a0.extract (x6_1 : Int).toNat a0.size).size : Int) := of_decide_eq_true (by first | (with_reducible assumption) | assumption)
                                    have hx30 := bt_at (a0.extract (x6_1 : Int).toNat a0.size) (ji27)
                                    replace p30 := eq_true p30
                                    replace q30 := eq_true q30
                                    go_wp2
                                    go_ret3
                                    exact ⟨_, by first | rfl | (simp [errW_none, errW_some] <;> rfl) | (simp only [← hji27]; first | rfl | (simp [errW_none, errW_some] <;> rfl)) | (simp [*, errW_none, errW_some] <;> rfl), by (with_reducible repeat (first | apply Kd.R_alloc | apply Kd.R_drewN | apply Kd.R_drew)); exact Kd.R_mono HO_5.out (fun _ hk => trivial), by repeat (first | (with_reducible first | exact HB.out | apply below_alloc | apply pw_below_drewN | apply below_drew1 | refine below_set ?_ GE103.out) | exact HB.out)⟩
                                · rw [if_neg c29] at H
                                  exact absurd H (by simp)
                              · rw [if_neg c28] at H
                                exact absurd H (by simp)
                            · replace c26 := Bool.eq_false_iff.mpr c26
                              subst c26
                              have H1 : (if x5_1.length < 5864062014805 then (corporaref40_Scan.l0 kj14 a0 (x5_1 ++ [(⟨(wrap64 (bt (a0.extract (x6_1 : Int).toNat a0.size) 8)), ((a0.extract (x6_1 : Int).toNat a0.size).extract 9 ((wrap64 (9 + t102)) : Int).toNat)⟩ : S37)]) (wrap64 ((wrap64 (x6_1 + 9)) + (((a0.extract (x6_1 : Int).toNat a0.size).extract 9 ((wrap64 (9 + t102)) : Int).toNat).size : Int)))) else (none)) = some (r1, r2, r3) := by rw [if_neg (show ¬ (false = true) by decide)] at H; exact H
                              clear H
                              have H := H1
                              clear H1
                              by_cases c32 : x5_1.length < 5864062014805
                              · rw [if_pos c32] at H
                                have LMc32 := Aside0.mk c32
                                clear c32
                                obtain ⟨y106, hy106⟩ : ∃ y_ : List (S37), y_ = (x5_1 ++ [(⟨(wrap64 (bt (a0.extract (x6_1 : Int).toNat a0.size) 8)), ((a0.extract (x6_1 : Int).toNat a0.size).extract 9 ((wrap64 (9 + t102)) : Int).toNat)⟩ : S37)]) := ⟨_, rfl⟩
                                replace H : (corporaref40_Scan.l0 kj14 a0 y106 (wrap64 ((wrap64 (x6_1 + 9)) + (((a0.extract (x6_1 : Int).toNat a0.size).extract 9 ((wrap64 (9 + t102)) : Int).toNat).size : Int)))) = some (r1, r2, r3) := by first | (rw [hy106]; with_reducible exact H) | (have H2_ := (Option.bind_some _ _).symm.trans H; rw [hy106]; with_reducible exact H2_) | (have H2_ := (Option.bind_some _ _).symm.trans H; with_reducible exact H2_) | with_reducible exact H | (rw [hy106]; exact H) | exact H
                                have Ny106 := Aside0.mk hy106
                                clear hy106
                                have H' := Aside0.mk H
                                clear H
                                try go_wp2
                                have n0_ := Aside0.mk (Kd.R_drew HO_5.out)
                                have n1_ := Aside0.mk (blk_drew BK103.out)
                                have n2_ := Aside0.mk (below_drew1 HB.out)
                                clear HO_5
                                clear BK103
                                clear HB
                                have HO_5 := n0_
                                have BK103 := n1_
                                have HB := n2_
                                clear n0_ n1_ n2_
                                refine start_ (n := 12) (S := fun w' => w'.cell? ⟨gb103, 0, none⟩ = some (.int .i64 (wrap64 (bt (a0.extract (x6_1 : Int).toNat a0.size) 8))) ∧ w'.cell? ⟨gb103, 1, none⟩ = some (.string ((a0.extract (x6_1 : Int).toNat a0.size).extract 9 ((wrap64 (9 + t102)) : Int).toNat))) (ds := []) #[false, false, false, false, false, false, false, false, false, false, false, false] (by kernel_rfl) rfl rfl ⟨(blk_cell BK103.out 0).trans rfl, (blk_cell BK103.out 1).trans rfl⟩ (fun hHeld => ?_); refine with_tabW corporaref40_Scan.tab14 corporaref40_Scan.bits14 (fun HT_ HW_ => ?_)
                                generalize wc.drew = w33 at HO_5 BK103 HB hHeld ⊢
                                refine pure_ (i := 0) (N := some 65) (v := ?_) (a' := ?_) #[true, false, false, false, false, false, false, false, false, false, false, false] rfl rfl (any_of HT_.out (by kernel_rfl)) (fun _ _ _ h => h) (Or.inl ⟨by rfl, ?_⟩) ?_ ?_
                                rotate_left
                                · intro w'
                                  go_simp
                                  with_reducible rfl
                                rotate_left
                                · simp only [Act.put, List.setIfInBounds_toArray, List.set_cons_zero, List.set_cons_succ, i64_w, i32_w]
                                  rfl
                                refine pure_ (i := 4) (N := some 69) (v := ?_) (a' := ?_) #[true, false, false, false, true, false, false, false, false, false, false, false] rfl rfl (any_of HT_.out (by kernel_rfl)) (fun _ _ _ h => h) (Or.inl ⟨by rfl, ?_⟩) ?_ ?_
                                rotate_left
                                · intro w'
                                  go_simp
                                  with_reducible rfl
                                rotate_left
                                · simp only [Act.put, List.setIfInBounds_toArray, List.set_cons_zero, List.set_cons_succ, i64_w, i32_w]
                                  rfl
                                refine pure_ (i := 5) (N := some 70) (v := ?_) (a' := ?_) #[true, false, false, false, true, true, false, false, false, false, false, false] rfl rfl (any_of HT_.out (by kernel_rfl)) (fun _ _ _ h => h) (Or.inl ⟨by rfl, ?_⟩) ?_ ?_
                                rotate_left
                                · intro w'
                                  go_simp
                                  with_reducible rfl
                                rotate_left
                                · simp only [Act.put, List.setIfInBounds_toArray, List.set_cons_zero, List.set_cons_succ, i64_w, i32_w]
                                  rfl
                                refine pure_ (i := 6) (N := some 71) (v := ?_) (a' := ?_) #[true, false, false, false, true, true, true, false, false, false, false, false] rfl rfl (any_of HT_.out (by kernel_rfl)) (fun _ _ _ h => h) (Or.inl ⟨by rfl, ?_⟩) ?_ ?_
                                rotate_left
                                · intro w'
                                  go_simp
                                  with_reducible rfl
                                rotate_left
                                · simp only [Act.put, List.setIfInBounds_toArray, List.set_cons_zero, List.set_cons_succ, i64_w, i32_w]
                                  rfl
                                refine take_ (i := 1) (N := some 66) (v := ?_) (a' := ?_) #[true, true, false, false, true, true, true, false, false, false, false, false] rfl rfl (take_ofW HT_.out HW_.out (by kernel_rfl)) (fun _ _ _ h => h) (Or.inl ⟨by rfl, ?_⟩) hHeld ?_ ?_
                                rotate_left
                                · rintro w' ⟨s0, s1⟩
                                  go_simp
                                  with_reducible rfl
                                rotate_left
                                · simp only [Act.put, List.setIfInBounds_toArray, List.set_cons_zero, List.set_cons_succ, i64_w, i32_w]
                                  rfl
                                refine take_ (i := 7) (N := some 72) (v := ?_) (a' := ?_) #[true, true, false, false, true, true, true, true, false, false, false, false] rfl rfl (take_ofW HT_.out HW_.out (by kernel_rfl)) (fun _ _ _ h => h) (Or.inl ⟨by rfl, ?_⟩) hHeld ?_ ?_
                                rotate_left
                                · rintro w' ⟨s0, s1⟩
                                  go_simp
                                  with_reducible rfl
                                rotate_left
                                · simp only [Act.put, List.setIfInBounds_toArray, List.set_cons_zero, List.set_cons_succ, i64_w, i32_w]
                                  rfl
                                refine pure_ (i := 8) (N := some 73) (v := ?_) (a' := ?_) #[true, true, false, false, true, true, true, true, true, false, false, false] rfl rfl (any_of HT_.out (by kernel_rfl)) (fun _ _ _ h => h) (Or.inl ⟨by rfl, ?_⟩) ?_ ?_
                                rotate_left
                                · intro w'
                                  go_simp
                                  with_reducible rfl
                                rotate_left
                                · simp only [Act.put, List.setIfInBounds_toArray, List.set_cons_zero, List.set_cons_succ, i64_w, i32_w]
                                  rfl
                                refine pure_ (i := 9) (N := some 74) (v := ?_) (a' := ?_) #[true, true, false, false, true, true, true, true, true, true, false, false] rfl rfl (any_of HT_.out (by kernel_rfl)) (fun _ _ _ h => h) (Or.inl ⟨by rfl, ?_⟩) ?_ ?_
                                rotate_left
                                · intro w'
                                  go_simp
                                  with_reducible rfl
                                rotate_left
                                · simp only [Act.put, List.setIfInBounds_toArray, List.set_cons_zero, List.set_cons_succ, i64_w, i32_w]
                                  rfl
                                refine one_ (i := 2) (N := some 67) #[true, true, true, false, true, true, true, true, true, true, false, false] rfl rfl (one_of HT_.out (by kernel_rfl)) (by decide) (fun K hK => ?_)
                                refine value_ (w1 := ?_) (v := ?_) (by rfl) rfl ?_ ?_
                                rotate_left 2
                                · go_simp
                                  constructor
                                  · rfl
                                  · rfl
                                refine hK.out _ _ ⟨(blk_cell (blk_alloc BK103.out _) 0).trans rfl, (blk_cell (blk_alloc BK103.out _) 1).trans rfl⟩ (fun hHeld => ?_)
                                clear hK K
                                refine norm_ (a' := ?_) ?_ ?_
                                rotate_left
                                · show Act.put _ (some 67) _ = _
                                  simp only [Act.put, List.setIfInBounds_toArray, List.set_cons_zero, List.set_cons_succ, i64_w, i32_w]
                                  rfl
                                refine one_ (i := 3) (N := some 68) #[true, true, true, true, true, true, true, true, true, true, false, false] rfl rfl (one_of HT_.out (by kernel_rfl)) (by decide) (fun K hK => ?_)
                                refine Kd.R_append_step k37 (w0 := w) w.heap.size (by rfl) (.tmp 65) (.tmp 67) 26 37 (.agg #[(.int .i64 0), (.string ⟨#[]⟩)]) 24 rfl Try.underlying26 info37 rfl (by decide) (by omega) u5 x5_1 (⟨(wrap64 (bt (a0.extract (x6_1 : Int).toNat a0.size) 8)), ((a0.extract (x6_1 : Int).toNat a0.size).extract 9 ((wrap64 (9 + t102)) : Int).toNat)⟩ : S37) [.int .i64 (wrap64 (bt (a0.extract (x6_1 : Int).toNat a0.size) 8)), .string ((a0.extract (x6_1 : Int).toNat a0.size).extract 9 ((wrap64 (9 + t102)) : Int).toNat)] (fun k_ => k_ ≠ gb103) (fun _ => False) rfl rfl ?aP (fun _ hk => hk.elim) ?aF ?aO ?aB ?aS ?aL ?_
                                (case aP => exact k37_mkM _ _ _ (⟨(wrap64 (bt (a0.extract (x6_1 : Int).toNat a0.size) 8)), ((a0.extract (x6_1 : Int).toNat a0.size).extract 9 ((wrap64 (9 + t102)) : Int).toNat)⟩ : S37))
                                (case aB => exact (by repeat (first | (with_reducible first | exact HB.out | apply below_alloc | apply pw_below_drewN | apply below_drew1 | refine below_set ?_ GE103.out) | exact HB.out)))
                                (case aF => exact (fun k_ hk => Kd.freshB (g := gb103) (o := .cells #[.int .i64 (wrap64 (bt (a0.extract (x6_1 : Int).toNat a0.size) 8)), .string ((a0.extract (x6_1 : Int).toNat a0.size).extract 9 ((wrap64 (9 + t102)) : Int).toNat)] 37 (0, 0)) (by (with_reducible repeat (first | refine blk_drewN ?_ _ | refine blk_drew ?_ | refine blk_alloc ?_ _)); exact BK103.out) k_ hk))
                                (case aO => exact (by (with_reducible repeat (first | apply Kd.R_alloc | apply Kd.R_drewN | apply Kd.R_drew)); exact HO_5.out))
                                (case aS => exact (below_size (by repeat (first | (with_reducible first | exact HB.out | apply below_alloc | apply pw_below_drewN | apply below_drew1 | refine below_set ?_ GE103.out) | exact HB.out))))
                                (case aL => have := LMc32.out; omega)
                                intro v107 w34 ho hb hg hat
                                rw [← Ny106.out] at ho
                                have n0_ := Aside0.mk (blk_grown (g := gb103) (o := .cells #[.int .i64 (wrap64 (bt (a0.extract (x6_1 : Int).toNat a0.size) 8)), .string ((a0.extract (x6_1 : Int).toNat a0.size).extract 9 ((wrap64 (9 + t102)) : Int).toNat)] 37 (0, 0)) (by (with_reducible repeat (first | refine blk_drewN ?_ _ | refine blk_drew ?_ | refine blk_alloc ?_ _)); exact BK103.out) hg (Kd.R_away HO_5.out (fun _ hk => hk)))
                                have n1_ := Aside0.mk (hb)
                                have n2_ := Aside0.mk (ho)
                                clear BK103
                                clear HB
                                clear HO_5
                                have BK103 := n0_
                                have HB := n1_
                                have HO108 := n2_
                                clear n0_ n1_ n2_
                                clear ho hb hg hat
                                refine hK.out _ _ ⟨(blk_cell BK103.out 0).trans rfl, (blk_cell BK103.out 1).trans rfl⟩ (fun hHeld => ?_)
                                clear hK K
                                refine norm_ (a' := ?_) ?_ ?_
                                rotate_left
                                · show Act.put _ (some 68) _ = _
                                  simp only [Act.put, List.setIfInBounds_toArray, List.set_cons_zero, List.set_cons_succ, i64_w, i32_w]
                                  rfl
                                refine pure_ (i := 10) (N := some 5) (v := ?_) (a' := ?_) #[true, true, true, true, true, true, true, true, true, true, true, false] rfl rfl (any_of HT_.out (by kernel_rfl)) (fun _ _ _ h => h) (Or.inl ⟨by rfl, ?_⟩) ?_ ?_
                                rotate_left
                                · intro w'
                                  go_simp
                                  with_reducible rfl
                                rotate_left
                                · simp only [Act.put, List.setIfInBounds_toArray, List.set_cons_zero, List.set_cons_succ, i64_w, i32_w]
                                  rfl
                                refine pure_ (i := 11) (N := some 6) (v := ?_) (a' := ?_) #[true, true, true, true, true, true, true, true, true, true, true, true] rfl rfl (any_of HT_.out (by kernel_rfl)) (fun _ _ _ h => h) (Or.inl ⟨by rfl, ?_⟩) ?_ ?_
                                rotate_left
                                · intro w'
                                  go_simp
                                  with_reducible rfl
                                rotate_left
                                · simp only [Act.put, List.setIfInBounds_toArray, List.set_cons_zero, List.set_cons_succ, i64_w, i32_w]
                                  rfl
                                refine done_ (done_of HT_.out (by kernel_rfl)) ?_
                                try go_wp2
                                go_roundg kj14
                                case measure => have := HK1.out; have := HJ4.out; have := HJ14.out; omega
                                case rel => exact ⟨(y106), (wrap64 ((wrap64 (x6_1 + 9)) + (((a0.extract (x6_1 : Int).toNat a0.size).extract 9 ((wrap64 (9 + t102)) : Int).toNat).size : Int))), (by first | rfl | (simp; done) | (simp [*]; done)), H', ⟨by have := HK1.out; have := HJ4.out; have := HJ14.out; omega⟩, ⟨by (with_reducible repeat (first | apply Kd.R_alloc | apply Kd.R_drewN | apply Kd.R_drew)); exact Kd.R_mono HO108.out (fun _ hk => trivial)⟩, ⟨by repeat (first | (with_reducible first | exact HB.out | apply below_alloc | apply pw_below_drewN | apply below_drew1 | refine below_set ?_ GE103.out) | exact HB.out)⟩⟩
                              · rw [if_neg c32] at H
                                exact absurd H (by simp)
                      · rw [if_neg c13] at H
                        exact absurd H (by simp)
                    · rw [if_neg c12] at H
                      exact absurd H (by simp)
                  · rw [if_neg c9] at H
                    exact absurd H (by simp)
        · rw [if_neg c3] at H
          exact absurd H (by simp)
      · rw [if_neg c2] at H
        exact absurd H (by simp)

end Go.Proofs.Ytnaddmkaakdhoaa.J

end
