/-
  The walks of Go functions of this claim: each function's call comes to what the plain function of its name says.
  Written by a program of this claim's own (drive.py) over the kit's generator.
-/
import Derived.Test.YtnaddmkaakdhoaaJ0
import Derived.Test.YtnaddmkaakdhoaaJ26
import Derived.Test.YtnaddmkaakdhoaaJA
import Derived.Test.YtnaddmkaakdhoaaJC
import Derived.Test.YtnaddmkaakdhoaaJD
namespace Go.Proofs.Ytnaddmkaakdhoaa.J
open Go.RowKit Go.Proofs.YtnaddmkaakdhoaaW.PrintWords Go.Proofs.YtnaddmkaakdhoaaW.PrintLast Go.Proofs.YtnaddmkaakdhoaaW.PrintMore
attribute [local go_sem] max2_int min2_int max_two min_two max_three min_three max_four min_four   -- for this text's walks alone
set_option linter.unusedVariables false
set_option linter.unusedSimpArgs false

/-! ### corporalaw40_JournalEncodes: function 6 -/
mutual
def corporalaw40_JournalEncodes.l0 : Nat → List Int → List (S37) → List (S37) → Int → Int → Option (Bool)
  | 0, _, _, _, _, _ => none
  | k + 1, x0, x1, x21, x22, x23 => if x23 < x22 then (if 0 ≤ x23 then (if x23 < (x21.length : Int) then (if (((rd_T37 x21 x23).f1).size : Int) > 200 then (some true) else (corporalaw40_JournalEncodes.l0 k x0 x1 x21 x22 (wrap64 (x23 + 1)))) else (none)) else (none)) else ((corporamade_New.f x0).bind fun bt103 => ((corporalaw40_records.f k bt103.1 bt103.2 4).bind fun bt106 => (if bt106.1.length + x1.length < 5864062014805 then ((some (bt106.1 ++ x1 : List (S37))).bind fun y110 => ((journal_EncodeAll.f k y110).bind fun bt113 => ((corporaref40_EncodeAll.f k y110).bind fun bt115 => (if bt113.1.toList = bt115.1.toList then (corporalaw40_JournalEncodes.j1 k y110 (bt113.2 != bt115.2)) else (corporalaw40_JournalEncodes.j1 k y110 true))))) else (none))))
def corporalaw40_JournalEncodes.j1 : Nat → List (S37) → Bool → Option (Bool)
  | 0, _, _ => none
  | k + 1, x7, x54 => if x54 = true then (some false) else (corporalaw40_JournalEncodes.l1 k x7 (x7.length : Int) 0)
def corporalaw40_JournalEncodes.l1 : Nat → List (S37) → Int → Int → Option (Bool)
  | 0, _, _, _ => none
  | k + 1, x55, x56, x57 => if x57 < x56 then (if 0 ≤ x57 then (if x57 < (x55.length : Int) then ((journal_Encode.f k ((rd_T37 x55 x57).f0) ((rd_T37 x55 x57).f1)).bind fun bt120 => ((corporaref40_Encode.f k ((rd_T37 x55 x57).f0) ((rd_T37 x55 x57).f1)).bind fun bt122 => (if bt120.1.toList = bt122.1.toList then (if bt120.2 = bt122.2 then (corporalaw40_JournalEncodes.l1 k x55 x56 (wrap64 (x57 + 1))) else (some false)) else (some false)))) else (none)) else (none)) else ((corporalaw40_known.f k).bind fun t117 => (some t117))
end
def corporalaw40_JournalEncodes.f (k : Nat) (l0 : List Int) (l1 : List (S37)) : Option (Bool) := if (l1.length : Int) > 6 then (some true) else (corporalaw40_JournalEncodes.l0 k l0 l1 l1 (l1.length : Int) 0)
theorem corporalaw40_JournalEncodes.mono_l : ∀ k, (∀ y0 y1 y2 y3 y4, LeO (corporalaw40_JournalEncodes.l0 k y0 y1 y2 y3 y4) (corporalaw40_JournalEncodes.l0 (k + 1) y0 y1 y2 y3 y4)) ∧ (∀ y0 y1, LeO (corporalaw40_JournalEncodes.j1 k y0 y1) (corporalaw40_JournalEncodes.j1 (k + 1) y0 y1)) ∧ (∀ y0 y1 y2, LeO (corporalaw40_JournalEncodes.l1 k y0 y1 y2) (corporalaw40_JournalEncodes.l1 (k + 1) y0 y1 y2))
  | 0 => ⟨fun _ _ _ _ _ r h => by simp [corporalaw40_JournalEncodes.l0] at h, fun _ _ r h => by simp [corporalaw40_JournalEncodes.j1] at h, fun _ _ _ r h => by simp [corporalaw40_JournalEncodes.l1] at h⟩
  | k + 1 => by
    obtain ⟨ih0, ih1, ih2⟩ := corporalaw40_JournalEncodes.mono_l k
    refine ⟨?_, ?_, ?_⟩
    · intro y0 y1 y2 y3 y4
      unfold corporalaw40_JournalEncodes.l0
      repeat' first
      | (with_reducible exact ih0 _ _ _ _ _)
      | (with_reducible exact ih1 _ _)
      | (with_reducible exact ih2 _ _ _)
      | (with_reducible exact corporalaw40_known.mono _)
      | (with_reducible exact corporalaw40_records.mono _ _ _ _)
      | (with_reducible exact corporaref40_Encode.mono _ _ _)
      | (with_reducible exact corporaref40_EncodeAll.mono _ _)
      | (with_reducible exact journal_Encode.mono _ _ _)
      | (with_reducible exact journal_EncodeAll.mono _ _)
      | (with_reducible exact LeO.refl _)
      | (with_reducible exact LeO.none _)
      | (with_reducible refine LeO.ite ?_ ?_)
      | (with_reducible refine LeO.bind ?_ (fun _ => ?_))
      | exact ih0 _ _ _ _ _
      | exact ih1 _ _
      | exact ih2 _ _ _
      | exact corporalaw40_known.mono _
      | exact corporalaw40_records.mono _ _ _ _
      | exact corporaref40_Encode.mono _ _ _
      | exact corporaref40_EncodeAll.mono _ _
      | exact journal_Encode.mono _ _ _
      | exact journal_EncodeAll.mono _ _
      | exact LeO.none _
      | refine LeO.ite ?_ ?_
      | refine LeO.bind ?_ (fun _ => ?_)
    · intro y0 y1
      unfold corporalaw40_JournalEncodes.j1
      repeat' first
      | (with_reducible exact ih0 _ _ _ _ _)
      | (with_reducible exact ih1 _ _)
      | (with_reducible exact ih2 _ _ _)
      | (with_reducible exact corporalaw40_known.mono _)
      | (with_reducible exact corporalaw40_records.mono _ _ _ _)
      | (with_reducible exact corporaref40_Encode.mono _ _ _)
      | (with_reducible exact corporaref40_EncodeAll.mono _ _)
      | (with_reducible exact journal_Encode.mono _ _ _)
      | (with_reducible exact journal_EncodeAll.mono _ _)
      | (with_reducible exact LeO.refl _)
      | (with_reducible exact LeO.none _)
      | (with_reducible refine LeO.ite ?_ ?_)
      | (with_reducible refine LeO.bind ?_ (fun _ => ?_))
      | exact ih0 _ _ _ _ _
      | exact ih1 _ _
      | exact ih2 _ _ _
      | exact corporalaw40_known.mono _
      | exact corporalaw40_records.mono _ _ _ _
      | exact corporaref40_Encode.mono _ _ _
      | exact corporaref40_EncodeAll.mono _ _
      | exact journal_Encode.mono _ _ _
      | exact journal_EncodeAll.mono _ _
      | exact LeO.none _
      | refine LeO.ite ?_ ?_
      | refine LeO.bind ?_ (fun _ => ?_)
    · intro y0 y1 y2
      unfold corporalaw40_JournalEncodes.l1
      repeat' first
      | (with_reducible exact ih0 _ _ _ _ _)
      | (with_reducible exact ih1 _ _)
      | (with_reducible exact ih2 _ _ _)
      | (with_reducible exact corporalaw40_known.mono _)
      | (with_reducible exact corporalaw40_records.mono _ _ _ _)
      | (with_reducible exact corporaref40_Encode.mono _ _ _)
      | (with_reducible exact corporaref40_EncodeAll.mono _ _)
      | (with_reducible exact journal_Encode.mono _ _ _)
      | (with_reducible exact journal_EncodeAll.mono _ _)
      | (with_reducible exact LeO.refl _)
      | (with_reducible exact LeO.none _)
      | (with_reducible refine LeO.ite ?_ ?_)
      | (with_reducible refine LeO.bind ?_ (fun _ => ?_))
      | exact ih0 _ _ _ _ _
      | exact ih1 _ _
      | exact ih2 _ _ _
      | exact corporalaw40_known.mono _
      | exact corporalaw40_records.mono _ _ _ _
      | exact corporaref40_Encode.mono _ _ _
      | exact corporaref40_EncodeAll.mono _ _
      | exact journal_Encode.mono _ _ _
      | exact journal_EncodeAll.mono _ _
      | exact LeO.none _
      | refine LeO.ite ?_ ?_
      | refine LeO.bind ?_ (fun _ => ?_)
theorem corporalaw40_JournalEncodes.mono : ∀ a0 a1 k, LeO (corporalaw40_JournalEncodes.f k a0 a1) (corporalaw40_JournalEncodes.f (k + 1) a0 a1) := by
  intro a0 a1 k
  obtain ⟨ih0, ih1, ih2⟩ := corporalaw40_JournalEncodes.mono_l k
  unfold corporalaw40_JournalEncodes.f
  repeat' first
      | (with_reducible exact ih0 _ _ _ _ _)
      | (with_reducible exact ih1 _ _)
      | (with_reducible exact ih2 _ _ _)
      | (with_reducible exact corporalaw40_known.mono _)
      | (with_reducible exact corporalaw40_records.mono _ _ _ _)
      | (with_reducible exact corporaref40_Encode.mono _ _ _)
      | (with_reducible exact corporaref40_EncodeAll.mono _ _)
      | (with_reducible exact journal_Encode.mono _ _ _)
      | (with_reducible exact journal_EncodeAll.mono _ _)
      | (with_reducible exact LeO.refl _)
      | (with_reducible exact LeO.none _)
      | (with_reducible refine LeO.ite ?_ ?_)
      | (with_reducible refine LeO.bind ?_ (fun _ => ?_))
      | exact ih0 _ _ _ _ _
      | exact ih1 _ _
      | exact ih2 _ _ _
      | exact corporalaw40_known.mono _
      | exact corporalaw40_records.mono _ _ _ _
      | exact corporaref40_Encode.mono _ _ _
      | exact corporaref40_EncodeAll.mono _ _
      | exact journal_Encode.mono _ _ _
      | exact journal_EncodeAll.mono _ _
      | exact LeO.none _
      | refine LeO.ite ?_ ?_
      | refine LeO.bind ?_ (fun _ => ?_)
set_option maxHeartbeats 8000000 in
set_option maxRecDepth 100000 in
theorem corporalaw40_JournalEncodes.calls (k : Nat) (A0 : Option Addr) (c0 : Nat) (l0 : List Int) (A1 : Option Addr) (c1 : Nat) (l1 : List (S37)) (r : Bool) (w : World) (hr0 : Kd.C (Kd.int .i64) w A0 l0.length l0) (hc0 : l0.length ≤ c0) (hr1 : Kd.C k37 w A1 l1.length l1) (hc1 : l1.length ≤ c1) (h : corporalaw40_JournalEncodes.f k l0 l1 = some r) :
    Calls Try.prog 6 #[.slice A0 l0.length c0, .slice A1 l1.length c1] w fun e w' => e = .returned (.bool r) ∧ Below w.heap.size w w' := by
  have hu37 := Try.underlying37
  have HR0 := Aside0.mk hr0
  have HC0 := Aside0.mk hc0
  clear hr0 hc0
  have HR1 := Aside0.mk hr1
  have HC1 := Aside0.mk hc1
  clear hr1 hc1
  have HB := Aside0.mk (Below.refl w.heap.size w)
  have H : (if (l1.length : Int) > 6 then (some true) else (corporalaw40_JournalEncodes.l0 k l0 l1 l1 (l1.length : Int) 0)) = some r := h
  clear h
  by_cases c3 : (l1.length : Int) > 6
  · rw [if_pos c3] at H
    have c3b0 : decide (6 < (l1.length : Int)) = true := decide_eq_true c3
    have c3b1 : decide (6 < l1.length) = true := decide_eq_true (by omega)
    clear c3
    obtain rfl := Option.some.inj H
    go_enter Try.func6, Try.ntmps6
    go_wp2
    go_ret
    exact ⟨by first | rfl | (simp [errW_none, errW_some] <;> rfl) | (simp [*, errW_none, errW_some] <;> rfl), by repeat (first | (with_reducible first | exact HB.out | apply below_alloc | apply pw_below_drewN | apply below_drew1) | exact HB.out)⟩
  · rw [if_neg c3] at H
    have c3b0 : decide (6 < (l1.length : Int)) = false := decide_eq_false c3
    have c3b1 : decide (6 < l1.length) = false := decide_eq_false (by omega)
    clear c3
    have H' := Aside0.mk H
    clear H
    go_enter Try.func6, Try.ntmps6
    go_wp2
    go_loopg [23] k (fun kq v23 w' => ∃ (x23_1 : Int), v23 = .int .i64 x23_1 ∧ Aside0 (corporalaw40_JournalEncodes.l0 kq l0 l1 l1 (l1.length : Int) x23_1 = some r) ∧ Aside0 (kq ≤ k) ∧ Aside0 (Below w.heap.size w w'))
    case atStart => exact ⟨(0), (by first | rfl | (simp; done) | (simp [*]; done)), H', ⟨Nat.le_refl _⟩, ⟨by repeat (first | (with_reducible first | exact HB.out | apply below_alloc | apply pw_below_drewN | apply below_drew1) | exact HB.out)⟩⟩
    case round =>
      clear H'
      try clear c1
      try clear p2
      try clear c3
      try clear c3b0
      try clear c3b1
      obtain ⟨x23_1, rfl, HA, HK1, HB⟩ := hrel
      cases gk with
      | zero => exact absurd HA.out (by simp [corporalaw40_JournalEncodes.l0])
      | succ k1 =>
        have H := HA.out
        clear HA
        simp only [corporalaw40_JournalEncodes.l0] at H
        by_cases c4 : x23_1 < (l1.length : Int)
        · rw [if_pos c4] at H
          have c4b0 : decide (x23_1 < (l1.length : Int)) = true := decide_eq_true c4
          clear c4
          by_cases c5 : 0 ≤ x23_1
          · rw [if_pos c5] at H
            have c5b0 : decide (0 ≤ x23_1) = true := decide_eq_true c5
            clear c5
            by_cases c6 : x23_1 < (l1.length : Int)
            · rw [if_pos c6] at H
              have c6b0 : decide (x23_1 < (l1.length : Int)) = true := decide_eq_true c6
              clear c6
              by_cases c7 : (((rd_T37 l1 x23_1).f1).size : Int) > 200
              · rw [if_pos c7] at H
                have c7b0 : decide (200 < (((rd_T37 l1 x23_1).f1).size : Int)) = true := decide_eq_true c7
                have c7b1 : decide (200 < ((rd_T37 l1 x23_1).f1).size) = true := decide_eq_true (by omega)
                clear c7
                obtain rfl := Option.some.inj H
                have p101 : 0 ≤ (x23_1 : Int) := of_decide_eq_true (by first | (with_reducible assumption) | assumption)
                have q101 : x23_1 < (l1.length : Int) := of_decide_eq_true (by first | (with_reducible assumption) | assumption)
                obtain ⟨ad101, e101, hx101_0, hx101_1⟩ := at_T37 HR1.out x23_1 p101 q101
                cases e101
                replace hx101_0 := (HB.out.cell (World.block_lt_of_cell? w _ hx101_0)).trans hx101_0
                replace hx101_1 := (HB.out.cell (World.block_lt_of_cell? w _ hx101_1)).trans hx101_1
                replace p101 := eq_true p101
                replace q101 := eq_true q101
                go_wp2_with (first | ((with_reducible refine gate_dst (N := 6) rfl ?_); refine box_event ?hg (N := 6) ?hd (cs := #[.int .i64 0, .string (⟨#[]⟩ : ByteArray)]) (t := 37) ?hr ?_; (case hd => rfl); (case hg => rfl); (case hr => first | (go_simp; done) | (go_simp; rfl)); intro gb102 hg w8 hbox hb; have n0_ := Aside0.mk (below_step (by repeat (first | (with_reducible first | exact HB.out | apply below_alloc | apply pw_below_drewN | apply below_drew1) | exact HB.out)) hb); have n1_ := Aside0.mk (hbox); have n2_ := Aside0.mk ((by rw [hg]; exact (below_size (by repeat (first | (with_reducible first | exact HB.out | apply below_alloc | apply pw_below_drewN | apply below_drew1) | exact HB.out))) : w.heap.size ≤ gb102)); have n3_ := Aside0.mk ((by rw [hg]; exact (below_size (by repeat (first | (with_reducible first | exact HB.out | apply below_alloc | apply pw_below_drewN | apply below_drew1) | exact HB.out))) : w.heap.size ≤ gb102)); clear HB; have HB := n0_; have BK102 := n1_; have GW102 := n2_; have GE102 := n3_; clear n0_ n1_ n2_ n3_; clear hb hbox hg; have hcz9_0 : w8.cell? ⟨gb102, 0, none⟩ = some (.int .i64 0) := (blk_cell BK102.out 0).trans rfl; have hcz9_1 : w8.cell? ⟨gb102, 1, none⟩ = some (.string (⟨#[]⟩ : ByteArray)) := (blk_cell BK102.out 1).trans rfl; have hfz9_0 := blk_frozen BK102.out 0; have hfz9_1 := blk_frozen BK102.out 1))
                go_ret
                exact ⟨by first | rfl | (simp [errW_none, errW_some] <;> rfl) | (simp [*, errW_none, errW_some] <;> rfl), by repeat (first | (with_reducible first | exact HB.out | apply below_alloc | apply pw_below_drewN | apply below_drew1 | refine below_set ?_ GE102.out) | exact HB.out)⟩
              · rw [if_neg c7] at H
                have c7b0 : decide (200 < (((rd_T37 l1 x23_1).f1).size : Int)) = false := decide_eq_false c7
                have c7b1 : decide (200 < ((rd_T37 l1 x23_1).f1).size) = false := decide_eq_false (by omega)
                clear c7
                have H' := Aside0.mk H
                clear H
                have p101 : 0 ≤ (x23_1 : Int) := of_decide_eq_true (by first | (with_reducible assumption) | assumption)
                have q101 : x23_1 < (l1.length : Int) := of_decide_eq_true (by first | (with_reducible assumption) | assumption)
                obtain ⟨ad101, e101, hx101_0, hx101_1⟩ := at_T37 HR1.out x23_1 p101 q101
                cases e101
                replace hx101_0 := (HB.out.cell (World.block_lt_of_cell? w _ hx101_0)).trans hx101_0
                replace hx101_1 := (HB.out.cell (World.block_lt_of_cell? w _ hx101_1)).trans hx101_1
                replace p101 := eq_true p101
                replace q101 := eq_true q101
                go_wp2_with (first | ((with_reducible refine gate_dst (N := 6) rfl ?_); refine box_event ?hg (N := 6) ?hd (cs := #[.int .i64 0, .string (⟨#[]⟩ : ByteArray)]) (t := 37) ?hr ?_; (case hd => rfl); (case hg => rfl); (case hr => first | (go_simp; done) | (go_simp; rfl)); intro gb102 hg w10 hbox hb; have n0_ := Aside0.mk (below_step (by repeat (first | (with_reducible first | exact HB.out | apply below_alloc | apply pw_below_drewN | apply below_drew1) | exact HB.out)) hb); have n1_ := Aside0.mk (hbox); have n2_ := Aside0.mk ((by rw [hg]; exact (below_size (by repeat (first | (with_reducible first | exact HB.out | apply below_alloc | apply pw_below_drewN | apply below_drew1) | exact HB.out))) : w.heap.size ≤ gb102)); have n3_ := Aside0.mk ((by rw [hg]; exact (below_size (by repeat (first | (with_reducible first | exact HB.out | apply below_alloc | apply pw_below_drewN | apply below_drew1) | exact HB.out))) : w.heap.size ≤ gb102)); clear HB; have HB := n0_; have BK102 := n1_; have GW102 := n2_; have GE102 := n3_; clear n0_ n1_ n2_ n3_; clear hb hbox hg; have hcz11_0 : w10.cell? ⟨gb102, 0, none⟩ = some (.int .i64 0) := (blk_cell BK102.out 0).trans rfl; have hcz11_1 : w10.cell? ⟨gb102, 1, none⟩ = some (.string (⟨#[]⟩ : ByteArray)) := (blk_cell BK102.out 1).trans rfl; have hfz11_0 := blk_frozen BK102.out 0; have hfz11_1 := blk_frozen BK102.out 1))
                go_roundg k1
                case measure => have := HK1.out; omega
                case rel => exact ⟨(wrap64 (x23_1 + 1)), (by first | rfl | (simp; done) | (simp [*]; done)), H', ⟨by have := HK1.out; omega⟩, ⟨by repeat (first | (with_reducible first | exact HB.out | apply below_alloc | apply pw_below_drewN | apply below_drew1 | refine below_set ?_ GE102.out) | exact HB.out)⟩⟩
            · rw [if_neg c6] at H
              exact absurd H (by simp)
          · rw [if_neg c5] at H
            exact absurd H (by simp)
        · rw [if_neg c4] at H
          have c4b0 : decide (x23_1 < (l1.length : Int)) = false := decide_eq_false c4
          clear c4
          replace H := Option.bind_eq_some_iff.mp H
          obtain ⟨⟨t103, t104⟩, A120, H⟩ := H
          replace H : ((corporalaw40_records.f k1 t103 t104 4).bind fun bt106 => (if bt106.1.length + l1.length < 5864062014805 then ((some (bt106.1 ++ l1 : List (S37))).bind fun y110 => ((journal_EncodeAll.f k1 y110).bind fun bt113 => ((corporaref40_EncodeAll.f k1 y110).bind fun bt115 => (if bt113.1.toList = bt115.1.toList then (corporalaw40_JournalEncodes.j1 k1 y110 (bt113.2 != bt115.2)) else (corporalaw40_JournalEncodes.j1 k1 y110 true))))) else (none))) = some r := H
          have A12 := Aside0.mk A120
          clear A120
          replace H := Option.bind_eq_some_iff.mp H
          obtain ⟨⟨t106, t109⟩, A130, H⟩ := H
          replace H : (if t106.length + l1.length < 5864062014805 then ((some (t106 ++ l1 : List (S37))).bind fun y110 => ((journal_EncodeAll.f k1 y110).bind fun bt113 => ((corporaref40_EncodeAll.f k1 y110).bind fun bt115 => (if bt113.1.toList = bt115.1.toList then (corporalaw40_JournalEncodes.j1 k1 y110 (bt113.2 != bt115.2)) else (corporalaw40_JournalEncodes.j1 k1 y110 true))))) else (none)) = some r := H
          have A13 := Aside0.mk A130
          clear A130
          by_cases c14 : t106.length + l1.length < 5864062014805
          · rw [if_pos c14] at H
            have LMc14 := Aside0.mk c14
            clear c14
            obtain ⟨y110, hy110⟩ : ∃ y_ : List (S37), y_ = (t106 ++ l1) := ⟨_, rfl⟩
            replace H : ((journal_EncodeAll.f k1 y110).bind fun bt113 => ((corporaref40_EncodeAll.f k1 y110).bind fun bt115 => (if bt113.1.toList = bt115.1.toList then (corporalaw40_JournalEncodes.j1 k1 y110 (bt113.2 != bt115.2)) else (corporalaw40_JournalEncodes.j1 k1 y110 true)))) = some r := by first | (rw [hy110]; with_reducible exact H) | (have H2_ := (Option.bind_some _ _).symm.trans H; rw [hy110]; with_reducible exact H2_) | (have H2_ := (Option.bind_some _ _).symm.trans H; with_reducible exact H2_) | with_reducible exact H | (rw [hy110]; exact H) | exact H
            have Ny110 := Aside0.mk hy110
            clear hy110
            replace H := Option.bind_eq_some_iff.mp H
            obtain ⟨⟨t113, t114⟩, A150, H⟩ := H
            replace H : ((corporaref40_EncodeAll.f k1 y110).bind fun bt115 => (if t113.toList = bt115.1.toList then (corporalaw40_JournalEncodes.j1 k1 y110 (t114 != bt115.2)) else (corporalaw40_JournalEncodes.j1 k1 y110 true))) = some r := H
            have A15 := Aside0.mk A150
            clear A150
            replace H := Option.bind_eq_some_iff.mp H
            obtain ⟨⟨t115, t116⟩, A160, H⟩ := H
            replace H : (if t113.toList = t115.toList then (corporalaw40_JournalEncodes.j1 k1 y110 (t114 != t116)) else (corporalaw40_JournalEncodes.j1 k1 y110 true)) = some r := H
            have A16 := Aside0.mk A160
            clear A160
            have HC17 := Aside0.mk H
            clear H
            go_upto_region 12 with (first | ((with_reducible refine gate_callee (f := 22) rfl ?_); refine goesL_ (some 33) rfl rfl Try.func22 (by kernel_rfl) rfl #[.slice A0 l0.length c0] rfl (by (try simp only [List.map_toArray, List.map_cons, List.map_nil]); first | done | rfl | (simp only [List.length_drop, List.length_take]; rfl)) ?_; (with_reducible refine (corporamade_New.calls _ _ l0 t103 t104 w _ ?side1 ?side2 ?side3 A12.out).mono ?_); (case side1 => repeat (first | (with_reducible first | exact HB.out | apply below_alloc | apply pw_below_drewN | apply below_drew1) | exact HB.out)); (case side2 => exact HR0.out); (case side3 => exact HC0.out); rintro e w18 ⟨g105, rfl, hi, hb, hb2⟩; refine ⟨_, rfl, ?_⟩; have n0_ := Aside0.mk (hb); have n1_ := Aside0.mk (hi); clear HB; have HB := n0_; have HI105 := n1_; clear n0_ n1_; (try clear hb); (try clear hb2); (try clear hk); (try clear hi)) | ((with_reducible refine gate_callee (f := 21) rfl ?_); refine goesL_ (some 34) rfl rfl Try.func21 (by kernel_rfl) rfl #[.pointer (some ⟨g105, 0, none⟩), .int .i64 4] rfl (by (try simp only [List.map_toArray, List.map_cons, List.map_nil]); first | done | rfl | (simp only [List.length_drop, List.length_take]; rfl)) ?_; (with_reducible refine (corporalaw40_records.calls k1 g105 t103 t104 4 t106 t109 w _ ?side1 ?side2 A13.out).mono ?_); (case side1 => repeat (first | (with_reducible first | exact HI105.out | apply IsS74.alloc | apply IsS74.drewN | apply IsS74.drew | apply IsS74.set_1) | exact HI105.out)); (case side2 => repeat (first | (with_reducible first | exact HB.out | apply below_alloc | apply pw_below_drewN | apply below_drew1 | refine below_set ?_ (IsS74.ge HI105.out)) | exact HB.out)); rintro e w19 ⟨v107, rfl, ho0, hi, hb, hk⟩; refine ⟨_, rfl, ?_⟩; have n0_ := Aside0.mk (Kd.R_lower ho0 (below_size (by repeat (first | (with_reducible first | exact HB.out | apply below_alloc | apply pw_below_drewN | apply below_drew1 | refine below_set ?_ (IsS74.ge HI105.out)) | exact HB.out)))); have n1_ := Aside0.mk (hb); have n2_ := Aside0.mk (hi); clear HB; clear HI105; have HO108 := n0_; have HB := n1_; have HI105 := n2_; clear n0_ n1_ n2_; (try clear hb); (try clear hb2); (try clear hk); (try clear hi); (try clear ho0)) | ((with_reducible refine gate_builtin (b := .append) (xs := #[.tmp 34, .tmp 35]) rfl ?_); at_builtin; refine Kd.R_append_rows k37 (w0 := w) w.heap.size rfl (.tmp 34) (.tmp 35) 26 37 (.agg #[(.int .i64 0), (.string ⟨#[]⟩)]) 24 rfl Try.underlying26 info37 rfl (by decide) (by omega) v107 t106 l1 _ _ _ (fun _ => True) (fun _ => False) rfl rfl ?aO ?aR (fun _ _ h => h) (fun _ h => h.elim) ?aF ?aB ?aS ?aL ?_; (case aR => repeat (first | exact (Kd.C_below HR1.out HB.out) | (with_reducible refine Kd.C_alloc ?_ _) | (with_reducible refine Kd.C_drewN ?_ _) | (with_reducible refine Kd.C_drew ?_))); (case aB => exact (by repeat (first | (with_reducible first | exact HB.out | apply below_alloc | apply pw_below_drewN | apply below_drew1 | refine below_set ?_ (IsS74.ge HI105.out)) | exact HB.out))); (case aF => exact (fun _ _ => trivial)); (case aO => exact (by (with_reducible repeat (first | apply Kd.R_alloc | apply Kd.R_drewN | apply Kd.R_drew)); exact HO108.out)); (case aS => exact (below_size (by repeat (first | (with_reducible first | exact HB.out | apply below_alloc | apply pw_below_drewN | apply below_drew1 | refine below_set ?_ (IsS74.ge HI105.out)) | exact HB.out)))); (case aL => have := LMc14.out; omega); intro v111 w20 ho hb hg hat; rw [← Ny110.out] at ho; have n0_ := Aside0.mk (IsS74.grown (by repeat (first | (with_reducible first | exact HI105.out | apply IsS74.alloc | apply IsS74.drewN | apply IsS74.drew | apply IsS74.set_1) | exact HI105.out)) hg (IsS74.own_ne HI105.out HO108.out (by decide))); have n1_ := Aside0.mk (hb); have n2_ := Aside0.mk (ho); clear HI105; clear HB; clear HO108; have HI105 := n0_; have HB := n1_; have HO112 := n2_; clear n0_ n1_ n2_; clear ho hb hg hat; obtain ⟨Ao21, co21, eo21⟩ := Kd.R_slice HO112.out; subst eo21) | ((with_reducible refine gate_callee (f := 28) rfl ?_); refine goesL_ (some 39) rfl rfl Try.func28 (by kernel_rfl) rfl #[.slice Ao21 y110.length co21] rfl (by (try simp only [List.map_toArray, List.map_cons, List.map_nil]); first | done | rfl | (simp only [List.length_drop, List.length_take]; rfl)) ?_; (with_reducible refine (journal_EncodeAll.calls k1 _ _ y110 t113 t114 _ ?side1 ?side2 A15.out).mono ?_); (case side1 => repeat (first | exact (Kd.R_reads' HO112.out).2.2 | (with_reducible refine Kd.C_alloc ?_ _) | (with_reducible refine Kd.C_drewN ?_ _) | (with_reducible refine Kd.C_drew ?_))); (case side2 => exact (Kd.R_reads' HO112.out).2.1); rintro e w22 ⟨rfl, hb⟩; refine ⟨_, rfl, ?_⟩; have n0_ := Aside0.mk (Kd.R_below (by (with_reducible repeat (first | apply Kd.R_alloc | apply Kd.R_drewN | apply Kd.R_drew)); exact HO112.out) hb); have n1_ := Aside0.mk (IsS74.below (by repeat (first | (with_reducible first | exact HI105.out | apply IsS74.alloc | apply IsS74.drewN | apply IsS74.drew | apply IsS74.set_1) | exact HI105.out)) hb); have n2_ := Aside0.mk (below_step (by repeat (first | (with_reducible first | exact HB.out | apply below_alloc | apply pw_below_drewN | apply below_drew1 | refine below_set ?_ (IsS74.ge HI105.out)) | exact HB.out)) hb); clear HO112; clear HI105; clear HB; have HO112 := n0_; have HI105 := n1_; have HB := n2_; clear n0_ n1_ n2_; (try clear hb); (try clear hb2); (try clear hk); (try clear hi)) | ((with_reducible refine gate_callee (f := 20) rfl ?_); refine goesL_ (some 44) rfl rfl Try.func20 (by kernel_rfl) rfl #[.slice Ao21 y110.length co21] rfl (by (try simp only [List.map_toArray, List.map_cons, List.map_nil]); first | done | rfl | (simp only [List.length_drop, List.length_take]; rfl)) ?_; (with_reducible refine (corporaref40_EncodeAll.calls k1 _ _ y110 t115 t116 _ ?side1 ?side2 A16.out).mono ?_); (case side1 => repeat (first | exact (Kd.R_reads' HO112.out).2.2 | (with_reducible refine Kd.C_alloc ?_ _) | (with_reducible refine Kd.C_drewN ?_ _) | (with_reducible refine Kd.C_drew ?_))); (case side2 => exact (Kd.R_reads' HO112.out).2.1); rintro e w23 ⟨rfl, hb⟩; refine ⟨_, rfl, ?_⟩; have n0_ := Aside0.mk (Kd.R_below (by (with_reducible repeat (first | apply Kd.R_alloc | apply Kd.R_drewN | apply Kd.R_drew)); exact HO112.out) hb); have n1_ := Aside0.mk (IsS74.below (by repeat (first | (with_reducible first | exact HI105.out | apply IsS74.alloc | apply IsS74.drewN | apply IsS74.drew | apply IsS74.set_1) | exact HI105.out)) hb); have n2_ := Aside0.mk (below_step (by repeat (first | (with_reducible first | exact HB.out | apply below_alloc | apply pw_below_drewN | apply below_drew1 | refine below_set ?_ (IsS74.ge HI105.out)) | exact HB.out)) hb); clear HO112; clear HI105; clear HB; have HO112 := n0_; have HI105 := n1_; have HB := n2_; clear n0_ n1_ n2_; (try clear hb); (try clear hb2); (try clear hk); (try clear hi)))
            (try simp only [Act.put, List.setIfInBounds_toArray, List.set_cons_zero, List.set_cons_succ])
            go_cut [54] (fun v54 wc => ∃ (kq : Nat) (x54_16 : Bool), v54 = .bool x54_16 ∧ Aside0 (corporalaw40_JournalEncodes.j1 kq y110 x54_16 = some r) ∧ Aside0 (kq ≤ k1) ∧ Aside0 (Kd.R k37 37 wc w.heap.size (fun _ => True) (.slice Ao21 y110.length co21) y110) ∧ Aside0 (Below w.heap.size w wc))
            case first =>
              have H := HC17.out
              clear HC17
              by_cases c24 : t113.toList = t115.toList
              · rw [if_pos c24] at H
                have c24b0 : (t113.toList == t115.toList) = true := beq_iff_eq.mpr c24
                have c24b1 : (t113.toList != t115.toList) = false := bne_eq_false_iff_eq.mpr c24
                clear c24
                (first | rw [c24b0] | (simp only [i64_w, i32_w]; rw [c24b0]) | skip)
                have H' := Aside0.mk H
                clear H
                go_wp2
                go_meet
                case rel => exact ⟨_, ((t114 != t116)), (by first | rfl | (simp; done) | (simp [*]; done)), H', ⟨by have := HK1.out; first | omega | exact Nat.le_refl _⟩, ⟨by (with_reducible repeat (first | apply Kd.R_alloc | apply Kd.R_drewN | apply Kd.R_drew)); exact HO112.out⟩, ⟨by repeat (first | (with_reducible first | exact HB.out | apply below_alloc | apply pw_below_drewN | apply below_drew1 | refine below_set ?_ (IsS74.ge HI105.out)) | exact HB.out)⟩⟩
              · rw [if_neg c24] at H
                have c24b0 : (t113.toList == t115.toList) = false := beq_eq_false_iff_ne.mpr c24
                have c24b1 : (t113.toList != t115.toList) = true := bne_iff_ne.mpr c24
                (first | rw [c24b0] | (simp only [i64_w, i32_w]; rw [c24b0]) | skip)
                have H' := Aside0.mk H
                clear H
                go_wp2
                go_meet
                case rel => exact ⟨_, (true), (by first | rfl | (simp; done) | (simp [*]; done)), H', ⟨by have := HK1.out; first | omega | exact Nat.le_refl _⟩, ⟨by (with_reducible repeat (first | apply Kd.R_alloc | apply Kd.R_drewN | apply Kd.R_drew)); exact HO112.out⟩, ⟨by repeat (first | (with_reducible first | exact HB.out | apply below_alloc | apply pw_below_drewN | apply below_drew1 | refine below_set ?_ (IsS74.ge HI105.out)) | exact HB.out)⟩⟩
            case rest =>
              clear HC17
              try clear c1
              try clear p1
              try clear q1
              try clear hx1
              try clear c2
              try clear p2
              try clear c3
              try clear c3b0
              try clear c3b1
              try clear c4
              try clear c4b0
              try clear c5
              try clear c5b0
              try clear c6
              try clear c6b0
              try clear p6
              try clear c7
              try clear c7b0
              try clear c7b1
              try clear p10
              try clear q10
              try clear hx10
              try clear c14
              try clear c20
              try clear c21
              try clear c22
              try clear c24
              try clear c24b0
              try clear c24b1
              try clear hcz11_0
              try clear hcz11_1
              try clear hcz9_0
              try clear hcz9_1
              try clear hfz11_0
              try clear hfz11_1
              try clear hfz9_0
              try clear hfz9_1
              try clear hx101_0
              try clear hx101_1
              try clear p101
              try clear p2
              try clear q101
              obtain ⟨kq, x54_16, rfl, HA, HJ16, HO_7, HB⟩ := hcut
              cases kq with
              | zero => exact absurd HA.out (by simp [corporalaw40_JournalEncodes.j1])
              | succ kj16 =>
                have H := HA.out
                clear HA
                simp only [corporalaw40_JournalEncodes.j1] at H
                by_cases c25 : x54_16 = true
                · subst c25
                  have H1 : (some false) = some r := by rw [if_pos rfl] at H; exact H
                  clear H
                  have H := H1
                  clear H1
                  obtain rfl := Option.some.inj H
                  go_wp2
                  go_ret
                  exact ⟨by first | rfl | (simp [errW_none, errW_some] <;> rfl) | (simp [*, errW_none, errW_some] <;> rfl), by repeat (first | (with_reducible first | exact HB.out | apply below_alloc | apply pw_below_drewN | apply below_drew1) | exact HB.out)⟩
                · replace c25 := Bool.eq_false_iff.mpr c25
                  subst c25
                  have H1 : (corporalaw40_JournalEncodes.l1 kj16 y110 (y110.length : Int) 0) = some r := by rw [if_neg (show ¬ (false = true) by decide)] at H; exact H
                  clear H
                  have H := H1
                  clear H1
                  have H' := Aside0.mk H
                  clear H
                  go_wp2
                  go_loopg [57] kj16 (fun kq v57 w' => ∃ (x57_3 : Int), v57 = .int .i64 x57_3 ∧ Aside0 (corporalaw40_JournalEncodes.l1 kq y110 (y110.length : Int) x57_3 = some r) ∧ Aside0 (kq ≤ kj16) ∧ Aside0 (Kd.R k37 37 w' w.heap.size (fun _ => True) (.slice Ao21 y110.length co21) y110) ∧ Aside0 (Below w.heap.size w w'))
                  case atStart => exact ⟨(0), (by first | rfl | (simp; done) | (simp [*]; done)), H', ⟨Nat.le_refl _⟩, ⟨by (with_reducible repeat (first | apply Kd.R_alloc | apply Kd.R_drewN | apply Kd.R_drew)); exact HO_7.out⟩, ⟨by repeat (first | (with_reducible first | exact HB.out | apply below_alloc | apply pw_below_drewN | apply below_drew1) | exact HB.out)⟩⟩
                  case round =>
                    clear H'
                    try clear c1
                    try clear p1
                    try clear q1
                    try clear hx1
                    try clear c2
                    try clear p2
                    try clear c3
                    try clear c3b0
                    try clear c3b1
                    try clear c4
                    try clear c4b0
                    try clear c5
                    try clear c5b0
                    try clear c6
                    try clear c6b0
                    try clear p6
                    try clear c7
                    try clear c7b0
                    try clear c7b1
                    try clear p10
                    try clear q10
                    try clear hx10
                    try clear c14
                    try clear c20
                    try clear c21
                    try clear c22
                    try clear c24
                    try clear c24b0
                    try clear c24b1
                    try clear c25
                    try clear hcz11_0
                    try clear hcz11_1
                    try clear hcz9_0
                    try clear hcz9_1
                    try clear hfz11_0
                    try clear hfz11_1
                    try clear hfz9_0
                    try clear hfz9_1
                    try clear hx101_0
                    try clear hx101_1
                    try clear p1
                    try clear p10
                    try clear p101
                    try clear p2
                    try clear p6
                    try clear q1
                    try clear q10
                    try clear q101
                    obtain ⟨x57_3, rfl, HA, HK3, HO_55, HB⟩ := hrel
                    cases gk with
                    | zero => exact absurd HA.out (by simp [corporalaw40_JournalEncodes.l1])
                    | succ k3 =>
                      have H := HA.out
                      clear HA
                      simp only [corporalaw40_JournalEncodes.l1] at H
                      by_cases c26 : x57_3 < (y110.length : Int)
                      · rw [if_pos c26] at H
                        have c26b0 : decide (x57_3 < (y110.length : Int)) = true := decide_eq_true c26
                        clear c26
                        by_cases c27 : 0 ≤ x57_3
                        · rw [if_pos c27] at H
                          have c27b0 : decide (0 ≤ x57_3) = true := decide_eq_true c27
                          clear c27
                          by_cases c28 : x57_3 < (y110.length : Int)
                          · rw [if_pos c28] at H
                            have c28b0 : decide (x57_3 < (y110.length : Int)) = true := decide_eq_true c28
                            clear c28
                            replace H := Option.bind_eq_some_iff.mp H
                            obtain ⟨⟨t120, t121⟩, A290, H⟩ := H
                            replace H : ((corporaref40_Encode.f k3 ((rd_T37 y110 x57_3).f0) ((rd_T37 y110 x57_3).f1)).bind fun bt122 => (if t120.toList = bt122.1.toList then (if t121 = bt122.2 then (corporalaw40_JournalEncodes.l1 k3 y110 (y110.length : Int) (wrap64 (x57_3 + 1))) else (some false)) else (some false))) = some r := H
                            have A29 := Aside0.mk A290
                            clear A290
                            replace H := Option.bind_eq_some_iff.mp H
                            obtain ⟨⟨t122, t123⟩, A300, H⟩ := H
                            replace H : (if t120.toList = t122.toList then (if t121 = t123 then (corporalaw40_JournalEncodes.l1 k3 y110 (y110.length : Int) (wrap64 (x57_3 + 1))) else (some false)) else (some false)) = some r := H
                            have A30 := Aside0.mk A300
                            clear A300
                            by_cases c31 : t120.toList = t122.toList
                            · rw [if_pos c31] at H
                              have c31b0 : (t120.toList == t122.toList) = true := beq_iff_eq.mpr c31
                              have c31b1 : (t120.toList != t122.toList) = false := bne_eq_false_iff_eq.mpr c31
                              clear c31
                              by_cases c32 : t121 = t123
                              · rw [if_pos c32] at H
                                have c32b0 : (t121 == t123) = true := beq_iff_eq.mpr c32
                                have c32b1 : (t121 != t123) = false := bne_eq_false_iff_eq.mpr c32
                                clear c32
                                have H' := Aside0.mk H
                                clear H
                                have p118 : 0 ≤ (x57_3 : Int) := of_decide_eq_true (by first | (with_reducible assumption) | assumption)
                                have q118 : x57_3 < (y110.length : Int) := of_decide_eq_true (by first | (with_reducible assumption) | assumption)
                                obtain ⟨ad118, e118, hx118_0, hx118_1⟩ := at_T37 (Kd.R_reads' HO_55.out).2.2 x57_3 p118 q118
                                cases e118
                                replace p118 := eq_true p118
                                replace q118 := eq_true q118
                                go_wp2_with (first | ((with_reducible refine gate_dst (N := 13) rfl ?_); refine box_event ?hg (N := 13) ?hd (cs := #[.int .i64 0, .string (⟨#[]⟩ : ByteArray)]) (t := 37) ?hr ?_; (case hd => rfl); (case hg => rfl); (case hr => first | (go_simp; done) | (go_simp; rfl)); intro gb119 hg w33 hbox hb; have n0_ := Aside0.mk (Kd.R_below (Kd.R_elderB (by (with_reducible repeat (first | apply Kd.R_alloc | apply Kd.R_drewN | apply Kd.R_drew)); exact HO_55.out) gb119 (Nat.le_of_eq hg.symm)) hb); have n1_ := Aside0.mk (below_step (by repeat (first | (with_reducible first | exact HB.out | apply below_alloc | apply pw_below_drewN | apply below_drew1) | exact HB.out)) hb); have n2_ := Aside0.mk (hbox); have n3_ := Aside0.mk ((by rw [hg]; exact (below_size (by repeat (first | (with_reducible first | exact HB.out | apply below_alloc | apply pw_below_drewN | apply below_drew1) | exact HB.out))) : w.heap.size ≤ gb119)); have n4_ := Aside0.mk ((by rw [hg]; exact (below_size (by repeat (first | (with_reducible first | exact HB.out | apply below_alloc | apply pw_below_drewN | apply below_drew1) | exact HB.out))) : w.heap.size ≤ gb119)); clear HO_55; clear HB; have HO_55 := n0_; have HB := n1_; have BK119 := n2_; have GW119 := n3_; have GE119 := n4_; clear n0_ n1_ n2_ n3_ n4_; clear hb hbox hg; have hcz34_0 : w33.cell? ⟨gb119, 0, none⟩ = some (.int .i64 0) := (blk_cell BK119.out 0).trans rfl; have hcz34_1 : w33.cell? ⟨gb119, 1, none⟩ = some (.string (⟨#[]⟩ : ByteArray)) := (blk_cell BK119.out 1).trans rfl; have hfz34_0 := blk_frozen BK119.out 0; have hfz34_1 := blk_frozen BK119.out 1) | ((with_reducible refine gate_callee (f := 29) rfl ?_); refine goesL_ (some 63) rfl rfl Try.func29 (by kernel_rfl) rfl #[.agg #[.int .i64 ((rd_T37 y110 x57_3).f0), .string ((rd_T37 y110 x57_3).f1)]] rfl (by (try simp only [List.map_toArray, List.map_cons, List.map_nil]); first | done | rfl | (simp only [List.length_drop, List.length_take]; rfl)) ?_; (with_reducible refine (journal_Encode.calls k3 ((rd_T37 y110 x57_3).f0) ((rd_T37 y110 x57_3).f1) t120 t121 _ A29.out).mono ?_); rintro e w35 ⟨rfl, hb⟩; refine ⟨_, rfl, ?_⟩; have n0_ := Aside0.mk (Kd.R_below (by (with_reducible repeat (first | apply Kd.R_alloc | apply Kd.R_drewN | apply Kd.R_drew)); exact (Kd.R_mono (Kd.R_far (p := ⟨gb119, 1, none⟩) (Kd.R_far (p := ⟨gb119, 0, none⟩) (Kd.R_mono HO_55.out (fun k_ hk => (⟨hk, hk.2⟩ : _ ∧ k_ ≠ gb119))) (fun _ hk => hk.2) (.int .i64 ((rd_T37 y110 x57_3).f0))) (fun _ hk => hk.2) (.string ((rd_T37 y110 x57_3).f1))) (fun _ h_ => h_.1))) hb); have n1_ := Aside0.mk (blk_below (g := gb119) (o := .cells #[.int .i64 ((rd_T37 y110 x57_3).f0), .string ((rd_T37 y110 x57_3).f1)] 37 (0, 0)) (by (with_reducible repeat (first | refine blk_drewN ?_ _ | refine blk_drew ?_ | refine blk_alloc ?_ _)); refine blk_put (cs := #[.int .i64 ((rd_T37 y110 x57_3).f0), .string (⟨#[]⟩ : ByteArray)]) ?_ 1 _ rfl; (with_reducible repeat (first | refine blk_drewN ?_ _ | refine blk_drew ?_ | refine blk_alloc ?_ _)); refine blk_put (cs := #[.int .i64 0, .string (⟨#[]⟩ : ByteArray)]) ?_ 0 _ rfl; (with_reducible repeat (first | refine blk_drewN ?_ _ | refine blk_drew ?_ | refine blk_alloc ?_ _)); exact BK119.out) hb); have n2_ := Aside0.mk (below_step (by repeat (first | (with_reducible first | exact HB.out | apply below_alloc | apply pw_below_drewN | apply below_drew1 | refine below_set ?_ GE119.out) | exact HB.out)) hb); clear HO_55; clear BK119; clear HB; have HO_55 := n0_; have BK119 := n1_; have HB := n2_; clear n0_ n1_ n2_; (try clear hb); (try clear hb2); (try clear hk); (try clear hi); have hcz36_0 : w35.cell? ⟨gb119, 0, none⟩ = some (.int .i64 ((rd_T37 y110 x57_3).f0)) := (blk_cell BK119.out 0).trans rfl; have hcz36_1 : w35.cell? ⟨gb119, 1, none⟩ = some (.string ((rd_T37 y110 x57_3).f1)) := (blk_cell BK119.out 1).trans rfl; have hfz36_0 := blk_frozen BK119.out 0; have hfz36_1 := blk_frozen BK119.out 1) | ((with_reducible refine gate_callee (f := 30) rfl ?_); refine goesL_ (some 68) rfl rfl Try.func30 (by kernel_rfl) rfl #[.agg #[.int .i64 ((rd_T37 y110 x57_3).f0), .string ((rd_T37 y110 x57_3).f1)]] rfl (by (try simp only [List.map_toArray, List.map_cons, List.map_nil]); first | done | rfl | (simp only [List.length_drop, List.length_take]; rfl)) ?_; (with_reducible refine (corporaref40_Encode.calls k3 ((rd_T37 y110 x57_3).f0) ((rd_T37 y110 x57_3).f1) t122 t123 _ A30.out).mono ?_); rintro e w37 ⟨rfl, hb⟩; refine ⟨_, rfl, ?_⟩; have n0_ := Aside0.mk (Kd.R_below (by (with_reducible repeat (first | apply Kd.R_alloc | apply Kd.R_drewN | apply Kd.R_drew)); exact HO_55.out) hb); have n1_ := Aside0.mk (blk_below (g := gb119) (o := .cells #[.int .i64 ((rd_T37 y110 x57_3).f0), .string ((rd_T37 y110 x57_3).f1)] 37 (0, 0)) (by (with_reducible repeat (first | refine blk_drewN ?_ _ | refine blk_drew ?_ | refine blk_alloc ?_ _)); exact BK119.out) hb); have n2_ := Aside0.mk (below_step (by repeat (first | (with_reducible first | exact HB.out | apply below_alloc | apply pw_below_drewN | apply below_drew1 | refine below_set ?_ GE119.out) | exact HB.out)) hb); clear HO_55; clear BK119; clear HB; have HO_55 := n0_; have BK119 := n1_; have HB := n2_; clear n0_ n1_ n2_; (try clear hb); (try clear hb2); (try clear hk); (try clear hi)))
                                go_roundg k3
                                case measure => have := HK1.out; have := HJ16.out; have := HK3.out; omega
                                case rel => exact ⟨(wrap64 (x57_3 + 1)), (by first | rfl | (simp; done) | (simp [*]; done)), H', ⟨by have := HK1.out; have := HJ16.out; have := HK3.out; omega⟩, ⟨by (with_reducible repeat (first | apply Kd.R_alloc | apply Kd.R_drewN | apply Kd.R_drew)); exact Kd.R_mono HO_55.out (fun _ hk => trivial)⟩, ⟨by repeat (first | (with_reducible first | exact HB.out | apply below_alloc | apply pw_below_drewN | apply below_drew1 | refine below_set ?_ GE119.out) | exact HB.out)⟩⟩
                              · rw [if_neg c32] at H
                                have c32b0 : (t121 == t123) = false := beq_eq_false_iff_ne.mpr c32
                                have c32b1 : (t121 != t123) = true := bne_iff_ne.mpr c32
                                obtain rfl := Option.some.inj H
                                have p118 : 0 ≤ (x57_3 : Int) := of_decide_eq_true (by first | (with_reducible assumption) | assumption)
                                have q118 : x57_3 < (y110.length : Int) := of_decide_eq_true (by first | (with_reducible assumption) | assumption)
                                obtain ⟨ad118, e118, hx118_0, hx118_1⟩ := at_T37 (Kd.R_reads' HO_55.out).2.2 x57_3 p118 q118
                                cases e118
                                replace p118 := eq_true p118
                                replace q118 := eq_true q118
                                go_wp2_with (first | ((with_reducible refine gate_dst (N := 13) rfl ?_); refine box_event ?hg (N := 13) ?hd (cs := #[.int .i64 0, .string (⟨#[]⟩ : ByteArray)]) (t := 37) ?hr ?_; (case hd => rfl); (case hg => rfl); (case hr => first | (go_simp; done) | (go_simp; rfl)); intro gb119 hg w38 hbox hb; have n0_ := Aside0.mk (Kd.R_below (Kd.R_elderB (by (with_reducible repeat (first | apply Kd.R_alloc | apply Kd.R_drewN | apply Kd.R_drew)); exact HO_55.out) gb119 (Nat.le_of_eq hg.symm)) hb); have n1_ := Aside0.mk (below_step (by repeat (first | (with_reducible first | exact HB.out | apply below_alloc | apply pw_below_drewN | apply below_drew1) | exact HB.out)) hb); have n2_ := Aside0.mk (hbox); have n3_ := Aside0.mk ((by rw [hg]; exact (below_size (by repeat (first | (with_reducible first | exact HB.out | apply below_alloc | apply pw_below_drewN | apply below_drew1) | exact HB.out))) : w.heap.size ≤ gb119)); have n4_ := Aside0.mk ((by rw [hg]; exact (below_size (by repeat (first | (with_reducible first | exact HB.out | apply below_alloc | apply pw_below_drewN | apply below_drew1) | exact HB.out))) : w.heap.size ≤ gb119)); clear HO_55; clear HB; have HO_55 := n0_; have HB := n1_; have BK119 := n2_; have GW119 := n3_; have GE119 := n4_; clear n0_ n1_ n2_ n3_ n4_; clear hb hbox hg; have hcz39_0 : w38.cell? ⟨gb119, 0, none⟩ = some (.int .i64 0) := (blk_cell BK119.out 0).trans rfl; have hcz39_1 : w38.cell? ⟨gb119, 1, none⟩ = some (.string (⟨#[]⟩ : ByteArray)) := (blk_cell BK119.out 1).trans rfl; have hfz39_0 := blk_frozen BK119.out 0; have hfz39_1 := blk_frozen BK119.out 1) | ((with_reducible refine gate_callee (f := 29) rfl ?_); refine goesL_ (some 63) rfl rfl Try.func29 (by kernel_rfl) rfl #[.agg #[.int .i64 ((rd_T37 y110 x57_3).f0), .string ((rd_T37 y110 x57_3).f1)]] rfl (by (try simp only [List.map_toArray, List.map_cons, List.map_nil]); first | done | rfl | (simp only [List.length_drop, List.length_take]; rfl)) ?_; (with_reducible refine (journal_Encode.calls k3 ((rd_T37 y110 x57_3).f0) ((rd_T37 y110 x57_3).f1) t120 t121 _ A29.out).mono ?_); rintro e w40 ⟨rfl, hb⟩; refine ⟨_, rfl, ?_⟩; have n0_ := Aside0.mk (Kd.R_below (by (with_reducible repeat (first | apply Kd.R_alloc | apply Kd.R_drewN | apply Kd.R_drew)); exact (Kd.R_mono (Kd.R_far (p := ⟨gb119, 1, none⟩) (Kd.R_far (p := ⟨gb119, 0, none⟩) (Kd.R_mono HO_55.out (fun k_ hk => (⟨hk, hk.2⟩ : _ ∧ k_ ≠ gb119))) (fun _ hk => hk.2) (.int .i64 ((rd_T37 y110 x57_3).f0))) (fun _ hk => hk.2) (.string ((rd_T37 y110 x57_3).f1))) (fun _ h_ => h_.1))) hb); have n1_ := Aside0.mk (blk_below (g := gb119) (o := .cells #[.int .i64 ((rd_T37 y110 x57_3).f0), .string ((rd_T37 y110 x57_3).f1)] 37 (0, 0)) (by (with_reducible repeat (first | refine blk_drewN ?_ _ | refine blk_drew ?_ | refine blk_alloc ?_ _)); refine blk_put (cs := #[.int .i64 ((rd_T37 y110 x57_3).f0), .string (⟨#[]⟩ : ByteArray)]) ?_ 1 _ rfl; (with_reducible repeat (first | refine blk_drewN ?_ _ | refine blk_drew ?_ | refine blk_alloc ?_ _)); refine blk_put (cs := #[.int .i64 0, .string (⟨#[]⟩ : ByteArray)]) ?_ 0 _ rfl; (with_reducible repeat (first | refine blk_drewN ?_ _ | refine blk_drew ?_ | refine blk_alloc ?_ _)); exact BK119.out) hb); have n2_ := Aside0.mk (below_step (by repeat (first | (with_reducible first | exact HB.out | apply below_alloc | apply pw_below_drewN | apply below_drew1 | refine below_set ?_ GE119.out) | exact HB.out)) hb); clear HO_55; clear BK119; clear HB; have HO_55 := n0_; have BK119 := n1_; have HB := n2_; clear n0_ n1_ n2_; (try clear hb); (try clear hb2); (try clear hk); (try clear hi); have hcz41_0 : w40.cell? ⟨gb119, 0, none⟩ = some (.int .i64 ((rd_T37 y110 x57_3).f0)) := (blk_cell BK119.out 0).trans rfl; have hcz41_1 : w40.cell? ⟨gb119, 1, none⟩ = some (.string ((rd_T37 y110 x57_3).f1)) := (blk_cell BK119.out 1).trans rfl; have hfz41_0 := blk_frozen BK119.out 0; have hfz41_1 := blk_frozen BK119.out 1) | ((with_reducible refine gate_callee (f := 30) rfl ?_); refine goesL_ (some 68) rfl rfl Try.func30 (by kernel_rfl) rfl #[.agg #[.int .i64 ((rd_T37 y110 x57_3).f0), .string ((rd_T37 y110 x57_3).f1)]] rfl (by (try simp only [List.map_toArray, List.map_cons, List.map_nil]); first | done | rfl | (simp only [List.length_drop, List.length_take]; rfl)) ?_; (with_reducible refine (corporaref40_Encode.calls k3 ((rd_T37 y110 x57_3).f0) ((rd_T37 y110 x57_3).f1) t122 t123 _ A30.out).mono ?_); rintro e w42 ⟨rfl, hb⟩; refine ⟨_, rfl, ?_⟩; have n0_ := Aside0.mk (Kd.R_below (by (with_reducible repeat (first | apply Kd.R_alloc | apply Kd.R_drewN | apply Kd.R_drew)); exact HO_55.out) hb); have n1_ := Aside0.mk (blk_below (g := gb119) (o := .cells #[.int .i64 ((rd_T37 y110 x57_3).f0), .string ((rd_T37 y110 x57_3).f1)] 37 (0, 0)) (by (with_reducible repeat (first | refine blk_drewN ?_ _ | refine blk_drew ?_ | refine blk_alloc ?_ _)); exact BK119.out) hb); have n2_ := Aside0.mk (below_step (by repeat (first | (with_reducible first | exact HB.out | apply below_alloc | apply pw_below_drewN | apply below_drew1 | refine below_set ?_ GE119.out) | exact HB.out)) hb); clear HO_55; clear BK119; clear HB; have HO_55 := n0_; have BK119 := n1_; have HB := n2_; clear n0_ n1_ n2_; (try clear hb); (try clear hb2); (try clear hk); (try clear hi)))
                                go_ret
                                exact ⟨by first | rfl | (simp [errW_none, errW_some] <;> rfl) | (simp [*, errW_none, errW_some] <;> rfl), by repeat (first | (with_reducible first | exact HB.out | apply below_alloc | apply pw_below_drewN | apply below_drew1 | refine below_set ?_ GE119.out) | exact HB.out)⟩
                            · rw [if_neg c31] at H
                              have c31b0 : (t120.toList == t122.toList) = false := beq_eq_false_iff_ne.mpr c31
                              have c31b1 : (t120.toList != t122.toList) = true := bne_iff_ne.mpr c31
                              obtain rfl := Option.some.inj H
                              have p118 : 0 ≤ (x57_3 : Int) := of_decide_eq_true (by first | (with_reducible assumption) | assumption)
                              have q118 : x57_3 < (y110.length : Int) := of_decide_eq_true (by first | (with_reducible assumption) | assumption)
                              obtain ⟨ad118, e118, hx118_0, hx118_1⟩ := at_T37 (Kd.R_reads' HO_55.out).2.2 x57_3 p118 q118
                              cases e118
                              replace p118 := eq_true p118
                              replace q118 := eq_true q118
                              go_wp2_with (first | ((with_reducible refine gate_dst (N := 13) rfl ?_); refine box_event ?hg (N := 13) ?hd (cs := #[.int .i64 0, .string (⟨#[]⟩ : ByteArray)]) (t := 37) ?hr ?_; (case hd => rfl); (case hg => rfl); (case hr => first | (go_simp; done) | (go_simp; rfl)); intro gb119 hg w43 hbox hb; have n0_ := Aside0.mk (Kd.R_below (Kd.R_elderB (by (with_reducible repeat (first | apply Kd.R_alloc | apply Kd.R_drewN | apply Kd.R_drew)); exact HO_55.out) gb119 (Nat.le_of_eq hg.symm)) hb); have n1_ := Aside0.mk (below_step (by repeat (first | (with_reducible first | exact HB.out | apply below_alloc | apply pw_below_drewN | apply below_drew1) | exact HB.out)) hb); have n2_ := Aside0.mk (hbox); have n3_ := Aside0.mk ((by rw [hg]; exact (below_size (by repeat (first | (with_reducible first | exact HB.out | apply below_alloc | apply pw_below_drewN | apply below_drew1) | exact HB.out))) : w.heap.size ≤ gb119)); have n4_ := Aside0.mk ((by rw [hg]; exact (below_size (by repeat (first | (with_reducible first | exact HB.out | apply below_alloc | apply pw_below_drewN | apply below_drew1) | exact HB.out))) : w.heap.size ≤ gb119)); clear HO_55; clear HB; have HO_55 := n0_; have HB := n1_; have BK119 := n2_; have GW119 := n3_; have GE119 := n4_; clear n0_ n1_ n2_ n3_ n4_; clear hb hbox hg; have hcz44_0 : w43.cell? ⟨gb119, 0, none⟩ = some (.int .i64 0) := (blk_cell BK119.out 0).trans rfl; have hcz44_1 : w43.cell? ⟨gb119, 1, none⟩ = some (.string (⟨#[]⟩ : ByteArray)) := (blk_cell BK119.out 1).trans rfl; have hfz44_0 := blk_frozen BK119.out 0; have hfz44_1 := blk_frozen BK119.out 1) | ((with_reducible refine gate_callee (f := 29) rfl ?_); refine goesL_ (some 63) rfl rfl Try.func29 (by kernel_rfl) rfl #[.agg #[.int .i64 ((rd_T37 y110 x57_3).f0), .string ((rd_T37 y110 x57_3).f1)]] rfl (by (try simp only [List.map_toArray, List.map_cons, List.map_nil]); first | done | rfl | (simp only [List.length_drop, List.length_take]; rfl)) ?_; (with_reducible refine (journal_Encode.calls k3 ((rd_T37 y110 x57_3).f0) ((rd_T37 y110 x57_3).f1) t120 t121 _ A29.out).mono ?_); rintro e w45 ⟨rfl, hb⟩; refine ⟨_, rfl, ?_⟩; have n0_ := Aside0.mk (Kd.R_below (by (with_reducible repeat (first | apply Kd.R_alloc | apply Kd.R_drewN | apply Kd.R_drew)); exact (Kd.R_mono (Kd.R_far (p := ⟨gb119, 1, none⟩) (Kd.R_far (p := ⟨gb119, 0, none⟩) (Kd.R_mono HO_55.out (fun k_ hk => (⟨hk, hk.2⟩ : _ ∧ k_ ≠ gb119))) (fun _ hk => hk.2) (.int .i64 ((rd_T37 y110 x57_3).f0))) (fun _ hk => hk.2) (.string ((rd_T37 y110 x57_3).f1))) (fun _ h_ => h_.1))) hb); have n1_ := Aside0.mk (blk_below (g := gb119) (o := .cells #[.int .i64 ((rd_T37 y110 x57_3).f0), .string ((rd_T37 y110 x57_3).f1)] 37 (0, 0)) (by (with_reducible repeat (first | refine blk_drewN ?_ _ | refine blk_drew ?_ | refine blk_alloc ?_ _)); refine blk_put (cs := #[.int .i64 ((rd_T37 y110 x57_3).f0), .string (⟨#[]⟩ : ByteArray)]) ?_ 1 _ rfl; (with_reducible repeat (first | refine blk_drewN ?_ _ | refine blk_drew ?_ | refine blk_alloc ?_ _)); refine blk_put (cs := #[.int .i64 0, .string (⟨#[]⟩ : ByteArray)]) ?_ 0 _ rfl; (with_reducible repeat (first | refine blk_drewN ?_ _ | refine blk_drew ?_ | refine blk_alloc ?_ _)); exact BK119.out) hb); have n2_ := Aside0.mk (below_step (by repeat (first | (with_reducible first | exact HB.out | apply below_alloc | apply pw_below_drewN | apply below_drew1 | refine below_set ?_ GE119.out) | exact HB.out)) hb); clear HO_55; clear BK119; clear HB; have HO_55 := n0_; have BK119 := n1_; have HB := n2_; clear n0_ n1_ n2_; (try clear hb); (try clear hb2); (try clear hk); (try clear hi); have hcz46_0 : w45.cell? ⟨gb119, 0, none⟩ = some (.int .i64 ((rd_T37 y110 x57_3).f0)) := (blk_cell BK119.out 0).trans rfl; have hcz46_1 : w45.cell? ⟨gb119, 1, none⟩ = some (.string ((rd_T37 y110 x57_3).f1)) := (blk_cell BK119.out 1).trans rfl; have hfz46_0 := blk_frozen BK119.out 0; have hfz46_1 := blk_frozen BK119.out 1) | ((with_reducible refine gate_callee (f := 30) rfl ?_); refine goesL_ (some 68) rfl rfl Try.func30 (by kernel_rfl) rfl #[.agg #[.int .i64 ((rd_T37 y110 x57_3).f0), .string ((rd_T37 y110 x57_3).f1)]] rfl (by (try simp only [List.map_toArray, List.map_cons, List.map_nil]); first | done | rfl | (simp only [List.length_drop, List.length_take]; rfl)) ?_; (with_reducible refine (corporaref40_Encode.calls k3 ((rd_T37 y110 x57_3).f0) ((rd_T37 y110 x57_3).f1) t122 t123 _ A30.out).mono ?_); rintro e w47 ⟨rfl, hb⟩; refine ⟨_, rfl, ?_⟩; have n0_ := Aside0.mk (Kd.R_below (by (with_reducible repeat (first | apply Kd.R_alloc | apply Kd.R_drewN | apply Kd.R_drew)); exact HO_55.out) hb); have n1_ := Aside0.mk (blk_below (g := gb119) (o := .cells #[.int .i64 ((rd_T37 y110 x57_3).f0), .string ((rd_T37 y110 x57_3).f1)] 37 (0, 0)) (by (with_reducible repeat (first | refine blk_drewN ?_ _ | refine blk_drew ?_ | refine blk_alloc ?_ _)); exact BK119.out) hb); have n2_ := Aside0.mk (below_step (by repeat (first | (with_reducible first | exact HB.out | apply below_alloc | apply pw_below_drewN | apply below_drew1 | refine below_set ?_ GE119.out) | exact HB.out)) hb); clear HO_55; clear BK119; clear HB; have HO_55 := n0_; have BK119 := n1_; have HB := n2_; clear n0_ n1_ n2_; (try clear hb); (try clear hb2); (try clear hk); (try clear hi)))
                              go_ret
                              exact ⟨by first | rfl | (simp [errW_none, errW_some] <;> rfl) | (simp [*, errW_none, errW_some] <;> rfl), by repeat (first | (with_reducible first | exact HB.out | apply below_alloc | apply pw_below_drewN | apply below_drew1 | refine below_set ?_ GE119.out) | exact HB.out)⟩
                          · rw [if_neg c28] at H
                            exact absurd H (by simp)
                        · rw [if_neg c27] at H
                          exact absurd H (by simp)
                      · rw [if_neg c26] at H
                        have c26b0 : decide (x57_3 < (y110.length : Int)) = false := decide_eq_false c26
                        clear c26
                        replace H := Option.bind_eq_some_iff.mp H
                        obtain ⟨t117, A480, H⟩ := H
                        replace H : (some t117) = some r := H
                        have A48 := Aside0.mk A480
                        clear A480
                        obtain rfl := Option.some.inj H
                        go_wp2_with (first | ((with_reducible refine gate_callee (f := 26) rfl ?_); refine goesL_ (some 80) rfl rfl Try.func26 (by kernel_rfl) rfl #[] rfl (by (try simp only [List.map_toArray, List.map_cons, List.map_nil]); first | done | rfl | (simp only [List.length_drop, List.length_take]; rfl)) ?_; (with_reducible refine (corporalaw40_known.calls k3  t117 _ A48.out).mono ?_); rintro e w49 ⟨rfl, hb⟩; refine ⟨_, rfl, ?_⟩; have n0_ := Aside0.mk (Kd.R_below (by (with_reducible repeat (first | apply Kd.R_alloc | apply Kd.R_drewN | apply Kd.R_drew)); exact HO_55.out) hb); have n1_ := Aside0.mk (below_step (by repeat (first | (with_reducible first | exact HB.out | apply below_alloc | apply pw_below_drewN | apply below_drew1) | exact HB.out)) hb); clear HO_55; clear HB; have HO_55 := n0_; have HB := n1_; clear n0_ n1_; (try clear hb); (try clear hb2); (try clear hk); (try clear hi)))
                        go_ret
                        exact ⟨by first | rfl | (simp [errW_none, errW_some] <;> rfl) | (simp [*, errW_none, errW_some] <;> rfl), by repeat (first | (with_reducible first | exact HB.out | apply below_alloc | apply pw_below_drewN | apply below_drew1) | exact HB.out)⟩
          · rw [if_neg c14] at H
            exact absurd H (by simp)

end Go.Proofs.Ytnaddmkaakdhoaa.J
