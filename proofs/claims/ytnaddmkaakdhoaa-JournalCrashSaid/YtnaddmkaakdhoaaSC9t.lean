/-
  Texts of this claim, joined, without what the claim does not use: JA XJl XPb XPe XPr XPs XPt XJt
-/
import Derived.Test.YtnaddmkaakdhoaaSC9s
section
namespace Go.Proofs.Ytnaddmkaakdhoaa.J
open Go.RowKit Go.Proofs.YtnaddmkaakdhoaaW.PrintWords Go.Proofs.YtnaddmkaakdhoaaW.PrintLast Go.Proofs.YtnaddmkaakdhoaaW.PrintMore
attribute [local go_sem] max2_int min2_int max_two min_two max_three min_three max_four min_four   -- for this text's walks alone
set_option linter.unusedVariables false
set_option linter.unusedSimpArgs false

def corporamade_Mod.f (a0 : Int) (a1 : Int) : Option (Int) := if a1 < 1 then (some 0) else (if a1 = 0 then (none) else (if (Int.tmod a0 a1) < 0 then (some (wrap64 ((Int.tmod a0 a1) + a1))) else (some (Int.tmod a0 a1))))
set_option maxHeartbeats 8000000 in
set_option maxRecDepth 100000 in
theorem corporamade_Mod.calls (a0 : Int) (a1 : Int) (r : Int) (w : World) (h : corporamade_Mod.f a0 a1 = some r) :
    Calls Try.prog 27 #[.int .i64 a0, .int .i64 a1] w fun e w' => e = .returned (.int .i64 r) ∧ Drawn0 w w' := by
  have H : (if a1 < 1 then (some 0) else (if a1 = 0 then (none) else (if (Int.tmod a0 a1) < 0 then (some (wrap64 ((Int.tmod a0 a1) + a1))) else (some (Int.tmod a0 a1))))) = some r := h
  clear h
  by_cases c3 : a1 < 1
  · rw [if_pos c3] at H
    have c3b0 : decide (a1 < 1) = true := decide_eq_true c3
    clear c3
    obtain rfl := Option.some.inj H
    go_enter Try.func27, Try.ntmps27
    go_wp2
    go_ret
    exact ⟨by first | rfl | (simp; done) | (simp [*]; done), by repeat (first | exact Drawn0.refl _ | apply Drawn0.step)⟩
  · rw [if_neg c3] at H
    have c3b0 : decide (a1 < 1) = false := decide_eq_false c3
    clear c3
    by_cases c4 : a1 = 0
    · rw [if_pos c4] at H
      exact absurd H (by simp)
    · rw [if_neg c4] at H
      have c4b0 : (a1 == 0) = false := beq_eq_false_iff_ne.mpr c4
      have c4b1 : (a1 != 0) = true := bne_iff_ne.mpr c4
      by_cases c5 : (Int.tmod a0 a1) < 0
      · rw [if_pos c5] at H
        have c5b0 : decide ((Int.tmod a0 a1) < 0) = true := decide_eq_true c5
        clear c5
        obtain rfl := Option.some.inj H
        go_enter Try.func27, Try.ntmps27
        go_wp2
        go_ret
        exact ⟨by first | rfl | (simp; done) | (simp [*]; done), by repeat (first | exact Drawn0.refl _ | apply Drawn0.step)⟩
      · rw [if_neg c5] at H
        have c5b0 : decide ((Int.tmod a0 a1) < 0) = false := decide_eq_false c5
        clear c5
        obtain rfl := Option.some.inj H
        go_enter Try.func27, Try.ntmps27
        go_wp2
        go_ret
        exact ⟨by first | rfl | (simp; done) | (simp [*]; done), by repeat (first | exact Drawn0.refl _ | apply Drawn0.step)⟩

def IsS74 (w0 W : World) (g : Nat) (f0 : List Int) (f1 : Int) : Prop := ∃ A0 c0, W.heap[g]? = some (.cells #[.slice A0 f0.length c0, .int .i64 f1] 74 (0, 0)) ∧ w0.heap.size ≤ g ∧ Kd.C (Kd.int .i64) w0 A0 f0.length f0
theorem IsS74.grown {w0 W : World} {g : Nat} {f0 : List Int} {f1 : Int} {W1 : World} {row : Option Nat} (h : IsS74 w0 W g f0 f1) (hw : W.grownBy W1 row) (hne : some g ≠ row) : IsS74 w0 W1 g f0 f1 := by
  obtain ⟨A0, c0, hb, hg, hr0⟩ := h
  exact ⟨A0, c0, blk_grown hb hw hne, hg, hr0⟩
theorem IsS74.kept {w0 W : World} {g : Nat} {f0 : List Int} {f1 : Int} {W1 : World} {S : Nat → Prop} (h : IsS74 w0 W g f0 f1) (hk : Kept W W1 S) (hne : ¬ S g) : IsS74 w0 W1 g f0 f1 := by
  obtain ⟨A0, c0, hb, hg, hr0⟩ := h
  exact ⟨A0, c0, blk_kept hb hk hne, hg, hr0⟩
theorem IsS74.below {w0 W : World} {g : Nat} {f0 : List Int} {f1 : Int} {W1 : World} (h : IsS74 w0 W g f0 f1) (hw : Below W.heap.size W W1) : IsS74 w0 W1 g f0 f1 := h.grown (grown_of_below hw none) (by simp)
theorem IsS74.alloc {w0 W : World} {g : Nat} {f0 : List Int} {f1 : Int} (h : IsS74 w0 W g f0 f1) (o : Obj) : IsS74 w0 (W.alloc o) g f0 f1 := h.below (below_alloc (Below.refl _ _) o)
theorem IsS74.drewN {w0 W : World} {g : Nat} {f0 : List Int} {f1 : Int} (h : IsS74 w0 W g f0 f1) (m : Nat) : IsS74 w0 (W.drewN m) g f0 f1 := h
theorem IsS74.drew {w0 W : World} {g : Nat} {f0 : List Int} {f1 : Int} (h : IsS74 w0 W g f0 f1) : IsS74 w0 W.drew g f0 f1 := h
theorem IsS74.at_ {w0 W : World} {g : Nat} {f0 : List Int} {f1 : Int} {w' : World} {m : Nat} (hq : W.drewN m = w') (h : IsS74 w0 W g f0 f1) : IsS74 w0 w' g f0 f1 := by subst hq; exact IsS74.drewN h m
theorem IsS74.apart {w0 W : World} {g : Nat} {f0 : List Int} {f1 : Int} {α : Type} {d : Kd α} {e : Nat} {base : Nat} {ok : Nat → Prop} {v : Value} {xs : List α} (h : IsS74 w0 W g f0 f1) (ho : d.R e W base ok v xs) (ht : ∀ q, q ∈ e :: d.E → q ≠ 74) : d.R e W base (fun k => ok k ∧ k ≠ g) v xs := by
  obtain ⟨A0, c0, hb, hg, hr0⟩ := h
  exact Kd.R_types ho hb ht
theorem IsS74.own_ne {w0 W : World} {g : Nat} {f0 : List Int} {f1 : Int} {α : Type} {d : Kd α} {e : Nat} {base : Nat} {ok : Nat → Prop} {v : Value} {xs : List α} (h : IsS74 w0 W g f0 f1) (ho : d.R e W base ok v xs) (ht : e ≠ 74) : some g ≠ v.ownBlock := by
  obtain ⟨A0, c0, hb, hg, hr0⟩ := h
  exact Kd.R_ne ho hb ht
theorem IsS74.lt {w0 W : World} {g : Nat} {f0 : List Int} {f1 : Int} (h : IsS74 w0 W g f0 f1) : g < W.heap.size := by
  obtain ⟨A0, c0, hb, hg, hr0⟩ := h
  exact blk_lt hb
theorem IsS74.ge {w0 W : World} {g : Nat} {f0 : List Int} {f1 : Int} (h : IsS74 w0 W g f0 f1) : w0.heap.size ≤ g := by
  obtain ⟨A0, c0, hb, hg, hr0⟩ := h
  exact hg
theorem IsS74.far {w0 W : World} {g : Nat} {f0 : List Int} {f1 : Int} {p : Addr} (h : IsS74 w0 W g f0 f1) (hne : g ≠ p.block) (u : Value) : IsS74 w0 (W.setCell p u) g f0 f1 := by
  obtain ⟨A0, c0, hb, hg, hr0⟩ := h
  exact ⟨A0, c0, blk_far hb hne u, hg, hr0⟩
theorem cellS74_0 {W : World} {g : Nat} {A0 : Option Addr} {c0 : Nat} {f0 : List Int} {f1 : Int} (h : W.heap[g]? = some (.cells #[.slice A0 f0.length c0, .int .i64 f1] 74 (0, 0))) : W.cell? ⟨g, 0, none⟩ = some (.slice A0 f0.length c0) := (blk_cell h 0).trans rfl
theorem cellS74_1 {W : World} {g : Nat} {A0 : Option Addr} {c0 : Nat} {f0 : List Int} {f1 : Int} (h : W.heap[g]? = some (.cells #[.slice A0 f0.length c0, .int .i64 f1] 74 (0, 0))) : W.cell? ⟨g, 1, none⟩ = some (.int .i64 f1) := (blk_cell h 1).trans rfl
theorem IsS74.set_1 {w0 W : World} {g : Nat} {f0 : List Int} {f1 : Int} (h : IsS74 w0 W g f0 f1) (x : Int) : IsS74 w0 (W.setCell ⟨g, 1, none⟩ (.int .i64 x)) g f0 x := by
  obtain ⟨A0, c0, hb, hg, hr0⟩ := h
  exact ⟨A0, c0, by simpa using blk_set hb 1 (.int .i64 x), hg, hr0⟩
theorem IsS74.new (w0 W : World) (A0 : Option Addr) (c0 : Nat) (f0 : List Int) (f1 : Int) (hB : Below w0.heap.size w0 W) (hr0 : Kd.C (Kd.int .i64) w0 A0 f0.length f0) : IsS74 w0 (W.alloc (.cells #[.slice A0 f0.length c0, .int .i64 f1] 74)) W.heap.size f0 f1 := ⟨A0, c0, by simpa using heap_alloc_new W _, hB.size, hr0⟩

def corporamade_Tape_Next.f (s0_0 : List Int) (s0_1 : Int) (a1 : Int) : Option (Int × Int) := if s0_1 ≥ (s0_0.length : Int) then (some (0, s0_1)) else (if 0 ≤ (wrap64 ((wrap64 (s0_1 + 1)) - 1)) then (if (wrap64 ((wrap64 (s0_1 + 1)) - 1)) < (s0_0.length : Int) then ((corporamade_Mod.f (rd s0_0 (wrap64 ((wrap64 (s0_1 + 1)) - 1))) a1).bind fun t102 => (some (t102, wrap64 (s0_1 + 1)))) else (none)) else (none))
set_option maxHeartbeats 8000000 in
set_option maxRecDepth 100000 in
theorem corporamade_Tape_Next.calls (g : Nat) (s0_0 : List Int) (s0_1 : Int) (a1 : Int) (r1 : Int) (r2 : Int) (w0 w : World) (hI : IsS74 w0 w g s0_0 s0_1) (hB : Below w0.heap.size w0 w) (h : corporamade_Tape_Next.f s0_0 s0_1 a1 = some (r1, r2)) :
    Calls Try.prog 47 #[.pointer (some ⟨g, 0, none⟩), .int .i64 a1] w fun e w' => e = .returned (.int .i64 r1) ∧ IsS74 w0 w' g s0_0 r2 ∧ Below w0.heap.size w0 w' ∧ KeepBut w w' g none := by
  have HI0 := Aside0.mk hI
  have HK := Aside0.mk (KeepBut.refl w g none)
  have HL := Aside0.mk hB.size
  clear hI
  have HW0 := Aside0.mk hB.size
  have HB := Aside0.mk hB
  clear hB
  have H : (if s0_1 ≥ (s0_0.length : Int) then (some (0, s0_1)) else (if 0 ≤ (wrap64 ((wrap64 (s0_1 + 1)) - 1)) then (if (wrap64 ((wrap64 (s0_1 + 1)) - 1)) < (s0_0.length : Int) then ((corporamade_Mod.f (rd s0_0 (wrap64 ((wrap64 (s0_1 + 1)) - 1))) a1).bind fun t102 => (some (t102, wrap64 (s0_1 + 1)))) else (none)) else (none))) = some (r1, r2) := h
  clear h
  by_cases c3 : s0_1 ≥ (s0_0.length : Int)
  · rw [if_pos c3] at H
    have c3b0 : decide ((s0_0.length : Int) ≤ s0_1) = true := decide_eq_true c3
    clear c3
    simp only [Option.some.injEq, Prod.mk.injEq] at H
    obtain ⟨rfl, rfl⟩ := H
    obtain ⟨ASz4_0, cSz4_0, HGz4, hgz4, HSz4_0⟩ := HI0.out
    have hcz4_0 := cellS74_0 HGz4
    have hcz4_1 := cellS74_1 HGz4
    have hfz4_1 := blk_frozen HGz4 1
    clear HGz4 hgz4
    go_enter Try.func47, Try.ntmps47
    go_wp2
    repeat (go_quiet (fail); try go_wp2)
    go_ret
    exact ⟨by first | rfl | (simp [errW_none, errW_some] <;> rfl) | (simp [*, errW_none, errW_some] <;> rfl), by repeat (first | (with_reducible first | exact HI0.out | apply IsS74.alloc | apply IsS74.drewN | apply IsS74.drew | apply IsS74.set_1) | exact HI0.out), by repeat (first | (with_reducible first | exact HB.out | apply below_alloc | apply pw_below_drewN | apply below_drew1 | refine below_set ?_ (IsS74.ge HI0.out)) | exact HB.out), by repeat (first | (with_reducible first | exact HK.out | apply KeepBut.set_ | apply keep_drewN | apply keep_drew | apply keep_alloc) | exact HK.out)⟩
  · rw [if_neg c3] at H
    have c3b0 : decide ((s0_0.length : Int) ≤ s0_1) = false := decide_eq_false c3
    clear c3
    obtain ⟨ji5, hji5⟩ : ∃ j_ : Int, (wrap64 ((wrap64 (s0_1 + 1)) - 1)) = j_ := ⟨_, rfl⟩
    replace H : (if 0 ≤ (ji5) then (if (ji5) < (s0_0.length : Int) then ((corporamade_Mod.f (rd s0_0 (ji5)) a1).bind fun t102 => (some (t102, wrap64 (s0_1 + 1)))) else (none)) else (none)) = some (r1, r2) := by first | (rw [hji5] at H; exact H) | (simp only [hji5] at H ⊢; exact H)
    have hji5w : (IntKind.i64.wrap ((wrap64 (s0_1 + 1)) - 1)) = ji5 := (i64_w _).trans hji5
    by_cases c6 : 0 ≤ (ji5)
    · rw [if_pos c6] at H
      have c6b0 : decide (0 ≤ (ji5)) = true := decide_eq_true c6
      clear c6
      by_cases c7 : (ji5) < (s0_0.length : Int)
      · rw [if_pos c7] at H
        have c7b0 : decide ((ji5) < (s0_0.length : Int)) = true := decide_eq_true c7
        clear c7
        replace H := Option.bind_eq_some_iff.mp H
        obtain ⟨t102, A80, H⟩ := H
        replace H : (some (t102, wrap64 (s0_1 + 1))) = some (r1, r2) := H
        have A8 := Aside0.mk A80
        clear A80
        simp only [Option.some.injEq, Prod.mk.injEq] at H
        obtain ⟨rfl, rfl⟩ := H
        obtain ⟨ASz9_0, cSz9_0, HGz9, hgz9, HSz9_0⟩ := HI0.out
        have hcz9_0 := cellS74_0 HGz9
        have hcz9_1 := cellS74_1 HGz9
        have hfz9_1 := blk_frozen HGz9 1
        clear HGz9 hgz9
        have p101 : 0 ≤ ((ji5) : Int) := of_decide_eq_true (by first | (with_reducible assumption) | assumption)
        have q101 : (ji5) < (s0_0.length : Int) := of_decide_eq_true (by first | (with_reducible assumption) | assumption)
        obtain ⟨ad101, e101, hx101_0⟩ := Kd.at_int HSz9_0 (ji5) p101 q101
        cases e101
        have hn101_0 : ad101.block ≠ g := Nat.ne_of_lt (Nat.lt_of_lt_of_le (by have := World.block_lt_of_cell? _ _ hx101_0; first | rwa [add_block] at this | exact this) (IsS74.ge HI0.out))
        replace hx101_0 := pw_cell_below HB.out hx101_0
        replace hx101_0 := (cell_far (p := ⟨g, 1, none⟩) (by first | (rw [add_block]; exact hn101_0) | (show (Addr.add _ _).block ≠ _; rw [add_block]; exact hn101_0) | exact hn101_0) (.int .i64 (wrap64 (s0_1 + 1)))).trans hx101_0
        (try have hy101_0 := fun (n_ : Nat) => (show (((w.drewN n_).setCell ⟨g, 1, none⟩ (.int .i64 (wrap64 (s0_1 + 1))))).cell? _ = some _ from hx101_0))
        clear hn101_0
        replace p101 := eq_true p101
        replace q101 := eq_true q101
        go_enter Try.func47, Try.ntmps47
        go_wp2_with (first | (go_at_call 27; (with_reducible refine (corporamade_Mod.calls (rd s0_0 (ji5)) a1 t102 _ A8.out).mono ?_); rintro e w' ⟨rfl, ⟨nd, rfl⟩⟩; (try first | exact ⟨rfl, _, World.drewN_drewN _ _ _⟩ | exact ⟨rfl, _, Eq.trans (World.drewN_drewN _ _ _) (congrArg (World.drewN _) (Nat.add_assoc _ _ _))⟩)))
        repeat (go_quiet (first | (go_at_call 27; (with_reducible refine (corporamade_Mod.calls (rd s0_0 (ji5)) a1 t102 _ A8.out).mono ?_); rintro e w' ⟨rfl, ⟨nd, rfl⟩⟩; (try first | exact ⟨rfl, _, World.drewN_drewN _ _ _⟩ | exact ⟨rfl, _, Eq.trans (World.drewN_drewN _ _ _) (congrArg (World.drewN _) (Nat.add_assoc _ _ _))⟩))); try go_wp2_with (first | (go_at_call 27; (with_reducible refine (corporamade_Mod.calls (rd s0_0 (ji5)) a1 t102 _ A8.out).mono ?_); rintro e w' ⟨rfl, ⟨nd, rfl⟩⟩; (try first | exact ⟨rfl, _, World.drewN_drewN _ _ _⟩ | exact ⟨rfl, _, Eq.trans (World.drewN_drewN _ _ _) (congrArg (World.drewN _) (Nat.add_assoc _ _ _))⟩))))
        go_ret
        exact ⟨by first | rfl | (simp [errW_none, errW_some] <;> rfl) | (simp only [← hji5]; first | rfl | (simp [errW_none, errW_some] <;> rfl)) | (simp [*, errW_none, errW_some] <;> rfl), by repeat (first | (with_reducible first | exact HI0.out | apply IsS74.alloc | apply IsS74.drewN | apply IsS74.drew | apply IsS74.set_1) | exact HI0.out), by repeat (first | (with_reducible first | exact HB.out | apply below_alloc | apply pw_below_drewN | apply below_drew1 | refine below_set ?_ (IsS74.ge HI0.out)) | exact HB.out), by repeat (first | (with_reducible first | exact HK.out | apply KeepBut.set_ | apply keep_drewN | apply keep_drew | apply keep_alloc) | exact HK.out)⟩
      · rw [if_neg c7] at H
        exact absurd H (by simp)
    · rw [if_neg c6] at H
      exact absurd H (by simp)

mutual
def corporalaw40_records.l0 : Nat → List (S37) → Int → List Int → Int → Option ((List (S37)) × Int)
  | 0, _, _, _, _ => none
  | k + 1, x5, x6, x1000, x1001 => if x6 > 0 then ((corporamade_Tape_Next.f x1000 x1001 2).bind fun bt103 => ((corporamade_Tape_Next.f x1000 bt103.2 8).bind fun bt106 => (corporalaw40_records.l1 k x5 x6 bt106.1 x1000 bt106.2 (wrap64 (1 + bt103.1)) (⟨#[]⟩ : ByteArray)))) else (some (x5, x1001))
def corporalaw40_records.l1 : Nat → List (S37) → Int → Int → List Int → Int → Int → ByteArray → Option ((List (S37)) × Int)
  | 0, _, _, _, _, _, _, _ => none
  | k + 1, x5, x6, x8, x1000, x1001, x106000, x106001 => if x8 > 0 then ((some (([0, 1, 97, 98, 255, 128] : List Int) : List Int)).bind fun y108 => ((corporamade_Tape_Next.f x1000 x1001 6).bind fun bt111 => (if 0 ≤ bt111.1 then (if bt111.1 < (y108.length : Int) then ((some (([(rd y108 bt111.1) % 256] : List Int) : List Int)).bind fun y114 => (if x106001.size + (strOfNums y114).size ≤ 9223372036854775807 then (corporalaw40_records.l1 k x5 x6 (wrap64 (x8 - 1)) x1000 bt111.2 x106000 (x106001 ++ (strOfNums y114))) else (none))) else (none)) else (none)))) else (if x5.length < 5864062014805 then (corporalaw40_records.l0 k (x5 ++ [(⟨x106000, x106001⟩ : S37)]) (wrap64 (x6 - 1)) x1000 x1001) else (none))
end
def corporalaw40_records.f (k : Nat) (s0_0 : List Int) (s0_1 : Int) (a1 : Int) : Option ((List (S37)) × Int) := (corporamade_Tape_Next.f s0_0 s0_1 (wrap64 (a1 + 1))).bind fun bt101 => (corporalaw40_records.l0 k ([] : List (S37)) bt101.1 s0_0 bt101.2)
theorem corporalaw40_records.mono_l : ∀ k, (∀ y0 y1 y2 y3, LeO (corporalaw40_records.l0 k y0 y1 y2 y3) (corporalaw40_records.l0 (k + 1) y0 y1 y2 y3)) ∧ (∀ y0 y1 y2 y3 y4 y5 y6, LeO (corporalaw40_records.l1 k y0 y1 y2 y3 y4 y5 y6) (corporalaw40_records.l1 (k + 1) y0 y1 y2 y3 y4 y5 y6))
  | 0 => ⟨fun _ _ _ _ r h => by simp [corporalaw40_records.l0] at h, fun _ _ _ _ _ _ _ r h => by simp [corporalaw40_records.l1] at h⟩
  | k + 1 => by
    obtain ⟨ih0, ih1⟩ := corporalaw40_records.mono_l k
    refine ⟨?_, ?_⟩
    · intro y0 y1 y2 y3
      unfold corporalaw40_records.l0
      repeat' first
      | (with_reducible exact ih0 _ _ _ _)
      | (with_reducible exact ih1 _ _ _ _ _ _ _)
      | (with_reducible exact LeO.refl _)
      | (with_reducible exact LeO.none _)
      | (with_reducible refine LeO.ite ?_ ?_)
      | (with_reducible refine LeO.bind ?_ (fun _ => ?_))
      | exact ih0 _ _ _ _
      | exact ih1 _ _ _ _ _ _ _
      | exact LeO.none _
      | refine LeO.ite ?_ ?_
      | refine LeO.bind ?_ (fun _ => ?_)
    · intro y0 y1 y2 y3 y4 y5 y6
      unfold corporalaw40_records.l1
      repeat' first
      | (with_reducible exact ih0 _ _ _ _)
      | (with_reducible exact ih1 _ _ _ _ _ _ _)
      | (with_reducible exact LeO.refl _)
      | (with_reducible exact LeO.none _)
      | (with_reducible refine LeO.ite ?_ ?_)
      | (with_reducible refine LeO.bind ?_ (fun _ => ?_))
      | exact ih0 _ _ _ _
      | exact ih1 _ _ _ _ _ _ _
      | exact LeO.none _
      | refine LeO.ite ?_ ?_
      | refine LeO.bind ?_ (fun _ => ?_)
theorem corporalaw40_records.mono : ∀ a0 a1 a2 k, LeO (corporalaw40_records.f k a0 a1 a2) (corporalaw40_records.f (k + 1) a0 a1 a2) := by
  intro a0 a1 a2 k
  obtain ⟨ih0, ih1⟩ := corporalaw40_records.mono_l k
  unfold corporalaw40_records.f
  repeat' first
      | (with_reducible exact ih0 _ _ _ _)
      | (with_reducible exact ih1 _ _ _ _ _ _ _)
      | (with_reducible exact LeO.refl _)
      | (with_reducible exact LeO.none _)
      | (with_reducible refine LeO.ite ?_ ?_)
      | (with_reducible refine LeO.bind ?_ (fun _ => ?_))
      | exact ih0 _ _ _ _
      | exact ih1 _ _ _ _ _ _ _
      | exact LeO.none _
      | refine LeO.ite ?_ ?_
      | refine LeO.bind ?_ (fun _ => ?_)
def corporalaw40_records.T9 : Bool × List (List Nat × List Nat) := (true, [([], []), ([0], [0]), ([], []), ([], []), ([3], [3]), ([2, 4], [2, 4]), ([5], [5]), ([6], [6]), ([7], [7]), ([8], [8]), ([1, 9], [1, 9]), ([0, 1, 2, 3, 4, 5, 6, 7, 8, 9, 10], []), ([11, 10, 4, 0, 1, 2, 3, 4, 5, 6, 7, 8, 9, 10], [10, 11])])
def corporalaw40_records.B9 : List Nat := [0, 1, 0, 0, 8, 28, 60, 124, 252, 508, 1023, 2047, 4095]
theorem corporalaw40_records.tab9 : rtab .any (opsOf Try.f21 9) = corporalaw40_records.T9 := by kernel_rfl
theorem corporalaw40_records.bits9 : waitsOk corporalaw40_records.T9.2 corporalaw40_records.B9 = true := by kernel_rfl
set_option maxHeartbeats 8000000 in
set_option maxRecDepth 100000 in
theorem corporalaw40_records.calls (k : Nat) (g : Nat) (s0_0 : List Int) (s0_1 : Int) (a1 : Int) (r1 : List (S37)) (r2 : Int) (w0 w : World) (hI : IsS74 w0 w g s0_0 s0_1) (hB : Below w0.heap.size w0 w) (h : corporalaw40_records.f k s0_0 s0_1 a1 = some (r1, r2)) :
    Calls Try.prog 21 #[.pointer (some ⟨g, 0, none⟩), .int .i64 a1] w fun e w' => ∃ v0_ : Value, e = .returned (v0_) ∧ Kd.R k37 37 w' w.heap.size (fun _ => True) v0_ r1 ∧ IsS74 w0 w' g s0_0 r2 ∧ Below w0.heap.size w0 w' ∧ KeepBut w w' g none := by
  have hu37 := Try.underlying37
  have HI0 := Aside0.mk hI
  have HK := Aside0.mk (KeepBut.refl w g none)
  have HL := Aside0.mk hB.size
  clear hI
  have HW0 := Aside0.mk hB.size
  have HB := Aside0.mk hB
  clear hB
  have H : ((corporamade_Tape_Next.f s0_0 s0_1 (wrap64 (a1 + 1))).bind fun bt101 => (corporalaw40_records.l0 k ([] : List (S37)) bt101.1 s0_0 bt101.2)) = some (r1, r2) := h
  clear h
  replace H := Option.bind_eq_some_iff.mp H
  obtain ⟨⟨t101, t102⟩, A30, H⟩ := H
  replace H : (corporalaw40_records.l0 k ([] : List (S37)) t101 s0_0 t102) = some (r1, r2) := H
  have A3 := Aside0.mk A30
  clear A30
  have H' := Aside0.mk H
  clear H
  go_enter Try.func21, Try.ntmps21
  go_wp2_with (first | ((with_reducible refine gate_callee (f := 47) rfl ?_); refine goesL_ (some 12) rfl rfl Try.func47 (by kernel_rfl) rfl #[.pointer (some ⟨g, 0, none⟩), .int .i64 (wrap64 (a1 + 1))] rfl (by (try simp only [List.map_toArray, List.map_cons, List.map_nil]); first | done | rfl | (simp only [List.length_drop, List.length_take]; rfl)) ?_; (with_reducible refine (corporamade_Tape_Next.calls g s0_0 s0_1 (wrap64 (a1 + 1)) t101 t102 w0 _ ?side1 ?side2 A3.out).mono ?_); (case side1 => repeat (first | (with_reducible first | exact HI0.out | apply IsS74.alloc | apply IsS74.drewN | apply IsS74.drew | apply IsS74.set_1) | exact HI0.out)); (case side2 => repeat (first | (with_reducible first | exact HB.out | apply below_alloc | apply pw_below_drewN | apply below_drew1 | refine below_set ?_ (IsS74.ge HI0.out)) | exact HB.out)); rintro e w4 ⟨rfl, hi, hb, hk⟩; refine ⟨_, rfl, ?_⟩; have n0_ := Aside0.mk (KeepBut.trans (by repeat (first | (with_reducible first | exact HK.out | apply KeepBut.set_ | apply keep_drewN | apply keep_drew | apply keep_alloc) | exact HK.out)) hk (.inl rfl)); have n1_ := Aside0.mk (hb); have n2_ := Aside0.mk (hi); clear HK; clear HB; clear HI0; have HK := n0_; have HB := n1_; have HI0 := n2_; clear n0_ n1_ n2_; (try clear hb); (try clear hb2); (try clear hk); (try clear hi)))
  go_loopg [5, 6] k (fun kq v5 v6 w' => ∃ (x5_1 : List (S37)) (x6_1 : Int) (x1001_1 : Int), v6 = .int .i64 x6_1 ∧ Aside0 (corporalaw40_records.l0 kq x5_1 x6_1 s0_0 x1001_1 = some (r1, r2)) ∧ Aside0 (kq ≤ k) ∧ Aside0 (Kd.R k37 37 w' w.heap.size (fun _ => True) v5 x5_1) ∧ Aside0 (IsS74 w0 w' g s0_0 x1001_1) ∧ Aside0 (KeepBut w w' g none) ∧ Aside0 (Below w0.heap.size w0 w'))
  case atStart => exact ⟨(([] : List (S37))), (t101), (t102), (by first | rfl | (simp; done) | (simp [*]; done)), H', ⟨Nat.le_refl _⟩, ⟨by first | exact Kd.R_nil _ _ _ _ _ | exact Kd.N_nil _ _ _ _ _ | exact Kd.V_nil _ _ _ _ _ | exact Kd.Q_nil _ _ _ _ _ | exact Kd.S_nil _ _ _ _ _⟩, ⟨by repeat (first | (with_reducible first | exact HI0.out | apply IsS74.alloc | apply IsS74.drewN | apply IsS74.drew | apply IsS74.set_1) | exact HI0.out)⟩, ⟨by repeat (first | (with_reducible first | exact HK.out | apply KeepBut.set_ | apply keep_drewN | apply keep_drew | apply keep_alloc) | exact HK.out)⟩, ⟨by repeat (first | (with_reducible first | exact HB.out | apply below_alloc | apply pw_below_drewN | apply below_drew1 | refine below_set ?_ (IsS74.ge HI0.out)) | exact HB.out)⟩⟩
  case round =>
    clear H'
    try clear c2
    try clear p2
    try clear c4
    obtain ⟨x5_1, x6_1, x1001_1, rfl, HA, HK1, HO_5, HI0, HK, HB⟩ := hrel
    cases gk with
    | zero => exact absurd HA.out (by simp [corporalaw40_records.l0])
    | succ k1 =>
      have H := HA.out
      clear HA
      simp only [corporalaw40_records.l0] at H
      by_cases c5 : x6_1 > 0
      · rw [if_pos c5] at H
        have c5b0 : decide (0 < x6_1) = true := decide_eq_true c5
        clear c5
        replace H := Option.bind_eq_some_iff.mp H
        obtain ⟨⟨t103, t104⟩, A60, H⟩ := H
        replace H : ((corporamade_Tape_Next.f s0_0 t104 8).bind fun bt106 => (corporalaw40_records.l1 k1 x5_1 x6_1 bt106.1 s0_0 bt106.2 (wrap64 (1 + t103)) (⟨#[]⟩ : ByteArray))) = some (r1, r2) := H
        have A6 := Aside0.mk A60
        clear A60
        replace H := Option.bind_eq_some_iff.mp H
        obtain ⟨⟨t106, t107⟩, A70, H⟩ := H
        replace H : (corporalaw40_records.l1 k1 x5_1 x6_1 t106 s0_0 t107 (wrap64 (1 + t103)) (⟨#[]⟩ : ByteArray)) = some (r1, r2) := H
        have A7 := Aside0.mk A70
        clear A70
        have H' := Aside0.mk H
        clear H
        go_wp2_with (first | ((with_reducible refine gate_callee (f := 47) rfl ?_); refine goesL_ (some 18) rfl rfl Try.func47 (by kernel_rfl) rfl #[.pointer (some ⟨g, 0, none⟩), .int .i64 2] rfl (by (try simp only [List.map_toArray, List.map_cons, List.map_nil]); first | done | rfl | (simp only [List.length_drop, List.length_take]; rfl)) ?_; (with_reducible refine (corporamade_Tape_Next.calls g s0_0 x1001_1 2 t103 t104 w0 _ ?side1 ?side2 A6.out).mono ?_); (case side1 => repeat (first | (with_reducible first | exact HI0.out | apply IsS74.alloc | apply IsS74.drewN | apply IsS74.drew | apply IsS74.set_1) | exact HI0.out)); (case side2 => repeat (first | (with_reducible first | exact HB.out | apply below_alloc | apply pw_below_drewN | apply below_drew1 | refine below_set ?_ (IsS74.ge HI0.out)) | exact HB.out)); rintro e w8 ⟨rfl, hi, hb, hk⟩; refine ⟨_, rfl, ?_⟩; have n0_ := Aside0.mk (Kd.R_mono (Kd.R_keep (IsS74.apart (show IsS74 w0 _ g s0_0 x1001_1 from by repeat (first | (with_reducible first | exact HI0.out | apply IsS74.alloc | apply IsS74.drewN | apply IsS74.drew | apply IsS74.set_1) | exact HI0.out)) (by (with_reducible repeat (first | apply Kd.R_alloc | apply Kd.R_drewN | apply Kd.R_drew)); exact HO_5.out) (by decide)) hk (fun _ h => h.2)) (fun _ h => h.1)); have n1_ := Aside0.mk (KeepBut.trans (by repeat (first | (with_reducible first | exact HK.out | apply KeepBut.set_ | apply keep_drewN | apply keep_drew | apply keep_alloc) | exact HK.out)) hk (.inl rfl)); have n2_ := Aside0.mk (hb); have n3_ := Aside0.mk (hi); clear HO_5; clear HK; clear HB; clear HI0; have HO_5 := n0_; have HK := n1_; have HB := n2_; have HI0 := n3_; clear n0_ n1_ n2_ n3_; (try clear hb); (try clear hb2); (try clear hk); (try clear hi)) | ((with_reducible refine gate_dst (N := 7) rfl ?_); refine box_event ?hg (N := 7) ?hd (cs := #[.int .i64 0, .string (⟨#[]⟩ : ByteArray)]) (t := 37) ?hr ?_; (case hd => rfl); (case hg => rfl); (case hr => first | (go_simp; done) | (go_simp; rfl)); intro gb105 hg w9 hbox hb; have n0_ := Aside0.mk (Kd.R_below (Kd.R_elderB (by (with_reducible repeat (first | apply Kd.R_alloc | apply Kd.R_drewN | apply Kd.R_drew)); exact HO_5.out) gb105 (Nat.le_of_eq hg.symm)) hb); have n1_ := Aside0.mk (IsS74.below (by repeat (first | (with_reducible first | exact HI0.out | apply IsS74.alloc | apply IsS74.drewN | apply IsS74.drew | apply IsS74.set_1) | exact HI0.out)) hb); have n2_ := Aside0.mk (KeepBut.trans (by repeat (first | (with_reducible first | exact HK.out | apply KeepBut.set_ | apply keep_drewN | apply keep_drew | apply keep_alloc) | exact HK.out)) (KeepBut.of_below hb g none) (.inl rfl)); have n3_ := Aside0.mk (below_step (by repeat (first | (with_reducible first | exact HB.out | apply below_alloc | apply pw_below_drewN | apply below_drew1 | refine below_set ?_ (IsS74.ge HI0.out)) | exact HB.out)) hb); have n4_ := Aside0.mk (hbox); have n5_ := Aside0.mk ((by rw [hg]; exact (keep_size (w := w) (g := g) (row := none) (by repeat (first | (with_reducible first | exact HK.out | apply KeepBut.set_ | apply keep_drewN | apply keep_drew | apply keep_alloc) | exact HK.out))) : w.heap.size ≤ gb105)); have n6_ := Aside0.mk ((Nat.le_trans HW0.out (by rw [hg]; exact (keep_size (w := w) (g := g) (row := none) (by repeat (first | (with_reducible first | exact HK.out | apply KeepBut.set_ | apply keep_drewN | apply keep_drew | apply keep_alloc) | exact HK.out))) : w.heap.size ≤ gb105) : w0.heap.size ≤ gb105)); have n7_ := Aside0.mk ((by rw [hg]; exact Nat.ne_of_lt (IsS74.lt (show IsS74 w0 _ g s0_0 t104 from by repeat (first | (with_reducible first | exact HI0.out | apply IsS74.alloc | apply IsS74.drewN | apply IsS74.drew | apply IsS74.set_1) | exact HI0.out))) : g ≠ gb105)); have n8_ := Aside0.mk ((by rw [hg]; exact Nat.ne_of_gt (IsS74.lt (show IsS74 w0 _ g s0_0 t104 from by repeat (first | (with_reducible first | exact HI0.out | apply IsS74.alloc | apply IsS74.drewN | apply IsS74.drew | apply IsS74.set_1) | exact HI0.out))) : gb105 ≠ g)); clear HO_5; clear HI0; clear HK; clear HB; have HO_5 := n0_; have HI0 := n1_; have HK := n2_; have HB := n3_; have BK105 := n4_; have GW105 := n5_; have GE105 := n6_; have NB0_105 := n7_; have NB105_0 := n8_; clear n0_ n1_ n2_ n3_ n4_ n5_ n6_ n7_ n8_; clear hb hbox hg; have hnb10 := NB105_0.out; have hnc10 := NB0_105.out; have hcz11_0 : w9.cell? ⟨gb105, 0, none⟩ = some (.int .i64 0) := (blk_cell BK105.out 0).trans rfl; have hcz11_1 : w9.cell? ⟨gb105, 1, none⟩ = some (.string (⟨#[]⟩ : ByteArray)) := (blk_cell BK105.out 1).trans rfl; have hfz11_0 := blk_frozen BK105.out 0; have hfz11_1 := blk_frozen BK105.out 1) | ((with_reducible refine gate_callee (f := 47) rfl ?_); refine goesL_ (some 22) rfl rfl Try.func47 (by kernel_rfl) rfl #[.pointer (some ⟨g, 0, none⟩), .int .i64 8] rfl (by (try simp only [List.map_toArray, List.map_cons, List.map_nil]); first | done | rfl | (simp only [List.length_drop, List.length_take]; rfl)) ?_; (with_reducible refine (corporamade_Tape_Next.calls g s0_0 t104 8 t106 t107 w0 _ ?side1 ?side2 A7.out).mono ?_); (case side1 => repeat (first | (with_reducible first | exact HI0.out | apply IsS74.alloc | apply IsS74.drewN | apply IsS74.drew | apply IsS74.set_1 | refine IsS74.far ?_ NB0_105.out _) | exact HI0.out)); (case side2 => repeat (first | (with_reducible first | exact HB.out | apply below_alloc | apply pw_below_drewN | apply below_drew1 | refine below_set ?_ (IsS74.ge HI0.out) | refine below_set ?_ GE105.out) | exact HB.out)); rintro e w12 ⟨rfl, hi, hb, hk⟩; refine ⟨_, rfl, ?_⟩; have n0_ := Aside0.mk (Kd.R_mono (Kd.R_keep (IsS74.apart (show IsS74 w0 _ g s0_0 t104 from by repeat (first | (with_reducible first | exact HI0.out | apply IsS74.alloc | apply IsS74.drewN | apply IsS74.drew | apply IsS74.set_1 | refine IsS74.far ?_ NB0_105.out _) | exact HI0.out)) (by (with_reducible repeat (first | apply Kd.R_alloc | apply Kd.R_drewN | apply Kd.R_drew)); exact (Kd.R_mono (Kd.R_far (p := ⟨gb105, 1, none⟩) (Kd.R_far (p := ⟨gb105, 0, none⟩) (Kd.R_mono HO_5.out (fun k_ hk => (⟨hk, hk.2⟩ : _ ∧ k_ ≠ gb105))) (fun _ hk => hk.2) (.int .i64 (wrap64 (1 + t103)))) (fun _ hk => hk.2) (.string (⟨#[]⟩ : ByteArray))) (fun _ h_ => h_.1))) (by decide)) hk (fun _ h => h.2)) (fun _ h => h.1)); have n1_ := Aside0.mk (KeepBut.blk hk (g' := gb105) (o := .cells #[.int .i64 (wrap64 (1 + t103)), .string (⟨#[]⟩ : ByteArray)] 37 (0, 0)) (by (with_reducible repeat (first | refine blk_drewN ?_ _ | refine blk_drew ?_ | refine blk_alloc ?_ _)); refine blk_put (cs := #[.int .i64 (wrap64 (1 + t103)), .string (⟨#[]⟩ : ByteArray)]) ?_ 1 _ rfl; (with_reducible repeat (first | refine blk_drewN ?_ _ | refine blk_drew ?_ | refine blk_alloc ?_ _)); refine blk_put (cs := #[.int .i64 0, .string (⟨#[]⟩ : ByteArray)]) ?_ 0 _ rfl; (with_reducible repeat (first | refine blk_drewN ?_ _ | refine blk_drew ?_ | refine blk_alloc ?_ _)); exact BK105.out) NB105_0.out (by simp)); have n2_ := Aside0.mk (KeepBut.trans (by repeat (first | (with_reducible first | exact HK.out | apply KeepBut.set_ | apply keep_drewN | apply keep_drew | apply keep_alloc | refine keep_far ?_ GW105.out _) | exact HK.out)) hk (.inl rfl)); have n3_ := Aside0.mk (hb); have n4_ := Aside0.mk (hi); clear HO_5; clear BK105; clear HK; clear HB; clear HI0; have HO_5 := n0_; have BK105 := n1_; have HK := n2_; have HB := n3_; have HI0 := n4_; clear n0_ n1_ n2_ n3_ n4_; (try clear hb); (try clear hb2); (try clear hk); (try clear hi)))
        go_loopg [8] k1 (fun kq v8 w' => ∃ (x8_2 : Int) (x1001_2 : Int) (x106001_2 : ByteArray), v8 = .int .i64 x8_2 ∧ Aside0 (corporalaw40_records.l1 kq x5_1 x6_1 x8_2 s0_0 x1001_2 (wrap64 (1 + t103)) x106001_2 = some (r1, r2)) ∧ Aside0 (kq ≤ k1) ∧ Aside0 (Kd.R k37 37 w' w.heap.size (fun k_ => k_ ≠ gb105) u5 x5_1) ∧ Aside0 (w'.heap[gb105]? = some (.cells #[.int .i64 (wrap64 (1 + t103)), .string x106001_2] 37 (0, 0))) ∧ Aside0 (IsS74 w0 w' g s0_0 x1001_2) ∧ Aside0 (KeepBut w w' g none) ∧ Aside0 (Below w0.heap.size w0 w'))
        case atStart => exact ⟨(t106), (t107), ((⟨#[]⟩ : ByteArray)), (by first | rfl | (simp; done) | (simp [*]; done)), H', ⟨Nat.le_refl _⟩, ⟨by (with_reducible repeat (first | apply Kd.R_alloc | apply Kd.R_drewN | apply Kd.R_drew)); exact Kd.R_mono HO_5.out (fun _ hk => hk.2)⟩, ⟨by (with_reducible repeat (first | refine blk_drewN ?_ _ | refine blk_drew ?_ | refine blk_alloc ?_ _)); exact BK105.out⟩, ⟨by repeat (first | (with_reducible first | exact HI0.out | apply IsS74.alloc | apply IsS74.drewN | apply IsS74.drew | apply IsS74.set_1 | refine IsS74.far ?_ NB0_105.out _) | exact HI0.out)⟩, ⟨by repeat (first | (with_reducible first | exact HK.out | apply KeepBut.set_ | apply keep_drewN | apply keep_drew | apply keep_alloc | refine keep_far ?_ GW105.out _) | exact HK.out)⟩, ⟨by repeat (first | (with_reducible first | exact HB.out | apply below_alloc | apply pw_below_drewN | apply below_drew1 | refine below_set ?_ (IsS74.ge HI0.out) | refine below_set ?_ GE105.out) | exact HB.out)⟩⟩
        case round =>
          clear H'
          try clear c1
          try clear c2
          try clear p2
          try clear c4
          try clear c5
          try clear c5b0
          try clear p6
          try clear c10
          try clear hcz11_0
          try clear hcz11_1
          try clear hfz11_0
          try clear hfz11_1
          try clear p2
          obtain ⟨x8_2, x1001_2, x106001_2, rfl, HA, HK2, HO_5, BK105, HI0, HK, HB⟩ := hrel
          cases gk with
          | zero => exact absurd HA.out (by simp [corporalaw40_records.l1])
          | succ k2 =>
            have H := HA.out
            clear HA
            simp only [corporalaw40_records.l1] at H
            by_cases c13 : x8_2 > 0
            · rw [if_pos c13] at H
              have c13b0 : decide (0 < x8_2) = true := decide_eq_true c13
              clear c13
              obtain ⟨y108, hy108⟩ : ∃ y_ : List Int, y_ = (([0, 1, 97, 98, 255, 128] : List Int)) := ⟨_, rfl⟩
              replace H : ((corporamade_Tape_Next.f s0_0 x1001_2 6).bind fun bt111 => (if 0 ≤ bt111.1 then (if bt111.1 < (y108.length : Int) then ((some (([(rd y108 bt111.1) % 256] : List Int) : List Int)).bind fun y114 => (if x106001_2.size + (strOfNums y114).size ≤ 9223372036854775807 then (corporalaw40_records.l1 k2 x5_1 x6_1 (wrap64 (x8_2 - 1)) s0_0 bt111.2 (wrap64 (1 + t103)) (x106001_2 ++ (strOfNums y114))) else (none))) else (none)) else (none))) = some (r1, r2) := by first | (rw [hy108]; with_reducible exact H) | (have H2_ := (Option.bind_some _ _).symm.trans H; rw [hy108]; with_reducible exact H2_) | (have H2_ := (Option.bind_some _ _).symm.trans H; with_reducible exact H2_) | with_reducible exact H | (rw [hy108]; exact H) | exact H
              have Ny108 := Aside0.mk hy108
              clear hy108
              replace H := Option.bind_eq_some_iff.mp H
              obtain ⟨⟨t111, t112⟩, A140, H⟩ := H
              replace H : (if 0 ≤ t111 then (if t111 < (y108.length : Int) then ((some (([(rd y108 t111) % 256] : List Int) : List Int)).bind fun y114 => (if x106001_2.size + (strOfNums y114).size ≤ 9223372036854775807 then (corporalaw40_records.l1 k2 x5_1 x6_1 (wrap64 (x8_2 - 1)) s0_0 t112 (wrap64 (1 + t103)) (x106001_2 ++ (strOfNums y114))) else (none))) else (none)) else (none)) = some (r1, r2) := H
              have A14 := Aside0.mk A140
              clear A140
              by_cases c15 : 0 ≤ t111
              · rw [if_pos c15] at H
                have c15b0 : decide (0 ≤ t111) = true := decide_eq_true c15
                clear c15
                by_cases c16 : t111 < (y108.length : Int)
                · rw [if_pos c16] at H
                  have c16b0 : decide (t111 < (y108.length : Int)) = true := decide_eq_true c16
                  clear c16
                  obtain ⟨y114, hy114⟩ : ∃ y_ : List Int, y_ = (([(rd y108 t111) % 256] : List Int)) := ⟨_, rfl⟩
                  replace H : (if x106001_2.size + (strOfNums y114).size ≤ 9223372036854775807 then (corporalaw40_records.l1 k2 x5_1 x6_1 (wrap64 (x8_2 - 1)) s0_0 t112 (wrap64 (1 + t103)) (x106001_2 ++ (strOfNums y114))) else (none)) = some (r1, r2) := by first | (rw [hy114]; with_reducible exact H) | (have H2_ := (Option.bind_some _ _).symm.trans H; rw [hy114]; with_reducible exact H2_) | (have H2_ := (Option.bind_some _ _).symm.trans H; with_reducible exact H2_) | with_reducible exact H | (rw [hy114]; exact H) | exact H
                  have Ny114 := Aside0.mk hy114
                  clear hy114
                  by_cases c17 : x106001_2.size + (strOfNums y114).size ≤ 9223372036854775807
                  · rw [if_pos c17] at H
                    have c17b0 := eq_true c17
                    have c17b1 : decide (x106001_2.size + (strOfNums y114).size ≤ 9223372036854775807) = true := decide_eq_true c17
                    try have c17b2 : (9223372036854775807 < x106001_2.size + (strOfNums y114).size) = False := eq_false (Nat.not_lt.2 c17)
                    have H' := Aside0.mk H
                    clear H
                    try go_wp2
                    have pi113 : (0 ≤ (t111 : Int)) = True := eq_true (of_decide_eq_true (by first | (with_reducible assumption) | assumption))
                    have qi113 : (t111 < (y108.length : Int)) = True := eq_true (of_decide_eq_true (by first | (with_reducible assumption) | assumption))
                    have n0_ := Aside0.mk (Kd.R_drew HO_5.out)
                    have n1_ := Aside0.mk (blk_drew BK105.out)
                    have n2_ := Aside0.mk (IsS74.drew HI0.out)
                    have n3_ := Aside0.mk (keep_drew HK.out)
                    have n4_ := Aside0.mk (below_drew1 HB.out)
                    clear HO_5
                    clear BK105
                    clear HI0
                    clear HK
                    clear HB
                    have HO_5 := n0_
                    have BK105 := n1_
                    have HI0 := n2_
                    have HK := n3_
                    have HB := n4_
                    clear n0_ n1_ n2_ n3_ n4_
                    refine start_ (n := 13) (S := fun w' => w'.cell? ⟨gb105, 0, none⟩ = some (.int .i64 (wrap64 (1 + t103))) ∧ w'.cell? ⟨gb105, 1, none⟩ = some (.string x106001_2)) (ds := [12]) #[false, false, false, false, false, false, false, false, false, false, false, false, false] (by kernel_rfl) rfl rfl ⟨(blk_cell BK105.out 0).trans rfl, (blk_cell BK105.out 1).trans rfl⟩ (fun hHeld => ?_); refine with_tabW corporalaw40_records.tab9 corporalaw40_records.bits9 (fun HT_ HW_ => ?_)
                    generalize wr.drew = w18 at HO_5 BK105 HI0 HK HB hHeld ⊢
                    refine pure_ (i := 0) (N := some 27) (v := ?_) (a' := ?_) #[true, false, false, false, false, false, false, false, false, false, false, false, false] rfl rfl (any_of HT_.out (by kernel_rfl)) (fun _ _ _ h => h) (Or.inl ⟨by rfl, ?_⟩) ?_ ?_
                    rotate_left
                    · intro w'
                      go_simp
                      with_reducible rfl
                    rotate_left
                    · simp only [Act.put, List.setIfInBounds_toArray, List.set_cons_zero, List.set_cons_succ, i64_w, i32_w]
                      rfl
                    refine pure_ (i := 3) (N := some 30) (v := ?_) (a' := ?_) #[true, false, false, true, false, false, false, false, false, false, false, false, false] rfl rfl (any_of HT_.out (by kernel_rfl)) (fun _ _ _ h => h) (Or.inl ⟨by rfl, ?_⟩) ?_ ?_
                    rotate_left
                    · intro w'
                      go_simp
                      with_reducible rfl
                    rotate_left
                    · simp only [Act.put, List.setIfInBounds_toArray, List.set_cons_zero, List.set_cons_succ, i64_w, i32_w]
                      rfl
                    refine take_ (i := 1) (N := some 28) (v := ?_) (a' := ?_) #[true, true, false, true, false, false, false, false, false, false, false, false, false] rfl rfl (take_ofW HT_.out HW_.out (by kernel_rfl)) (fun _ _ _ h => h) (Or.inl ⟨by rfl, ?_⟩) hHeld ?_ ?_
                    rotate_left
                    · rintro w' ⟨s0, s1⟩
                      go_simp
                      with_reducible rfl
                    rotate_left
                    · simp only [Act.put, List.setIfInBounds_toArray, List.set_cons_zero, List.set_cons_succ, i64_w, i32_w]
                      rfl
                    refine join_ (σ := Value × Addr) 8 #[true, true, true, true, true, false, false, false, false, false, false, false, false] (fun s_ => [(29, s_.1), (31, .int .i64 t111)]) (fun s_ w' => (w'.cell? ⟨gb105, 0, none⟩ = some (.int .i64 (wrap64 (1 + t103))) ∧ w'.cell? ⟨gb105, 1, none⟩ = some (.string x106001_2)) ∧ (Kd.R (Kd.int .i64) 3 w' w.heap.size (fun _ => True) s_.1 y108) ∧ (Kd.R k37 37 w' w.heap.size (fun k_ => k_ ≠ gb105) u5 x5_1) ∧ (∃ c_, (s_.1 : Value) = .slice (some s_.2) y108.length c_) ∧ (w'.heap[gb105]? = some (.cells #[.int .i64 (wrap64 (1 + t103)), .string x106001_2] 37 (0, 0))) ∧ (IsS74 w0 w' g s0_0 t112) ∧ (KeepBut w w' g none) ∧ (Below w0.heap.size w0 w')) ?_ ?_
                    rotate_left
                    · intro hCont
                      refine two_ (i := 2) (j := 4) (Ni := some 29) (Nj := some 31) #[true, true, true, true, false, false, false, false, false, false, false, false, false] #[true, true, false, true, true, false, false, false, false, false, false, false, false] rfl rfl rfl rfl (two_of HT_.out (by kernel_rfl)) (by decide) (by decide) (fun K hK => ?_) (fun K hK => ?_)
                      · skip
                        refine Kd.R_lit_step (Kd.int .i64) _ 3 ?hg (N := 29) ?hd (xs := ([0, 1, 97, 98, 255, 128] : List Int)) (inner := [.int .i64 0, .int .i64 1, .int .i64 97, .int .i64 98, .int .i64 255, .int .i64 128]) (ok := fun _ => True) (okp := fun _ => True) ?hr ?hp (fun _ hk => hk) trivial (Below.refl _ _) (Nat.le_refl _) (by simp) ?_; (case hd => rfl); (case hg => rfl); (case hr => first | (go_simp; done) | (go_simp; rfl)); (case hp => exact (Reps.one (show Kd.M (Kd.int .i64) _ _ _ 0 [.int .i64 0] from rfl) (Reps.one (show Kd.M (Kd.int .i64) _ _ _ 1 [.int .i64 1] from rfl) (Reps.one (show Kd.M (Kd.int .i64) _ _ _ 97 [.int .i64 97] from rfl) (Reps.one (show Kd.M (Kd.int .i64) _ _ _ 98 [.int .i64 98] from rfl) (Reps.one (show Kd.M (Kd.int .i64) _ _ _ 255 [.int .i64 255] from rfl) (Reps.one (show Kd.M (Kd.int .i64) _ _ _ 128 [.int .i64 128] from rfl) (Reps.none _ _))))))))
                        intro v109 w19 ho20 hb hg_ hnew_
                        clear hg_ hnew_
                        (first | rw [← Ny108.out] at ho20 | (simp only [Int.reduceToNat] at ho20; rw [← Ny108.out] at ho20))
                        have n0_ := Aside0.mk (Kd.R_below (by (with_reducible repeat (first | apply Kd.R_alloc | apply Kd.R_drewN | apply Kd.R_drew)); exact HO_5.out) hb)
                        have n1_ := Aside0.mk (Kd.R_lower ho20 (keep_size (w := w) (g := g) (row := none) (by repeat (first | (with_reducible first | exact HK.out | apply KeepBut.set_ | apply keep_drewN | apply keep_drew | apply keep_alloc | refine keep_far ?_ GW105.out _) | exact HK.out))))
                        have n2_ := Aside0.mk (blk_below (g := gb105) (o := .cells #[.int .i64 (wrap64 (1 + t103)), .string x106001_2] 37 (0, 0)) (by (with_reducible repeat (first | refine blk_drewN ?_ _ | refine blk_drew ?_ | refine blk_alloc ?_ _)); exact BK105.out) hb)
                        have n3_ := Aside0.mk (IsS74.below (by repeat (first | (with_reducible first | exact HI0.out | apply IsS74.alloc | apply IsS74.drewN | apply IsS74.drew | apply IsS74.set_1 | refine IsS74.far ?_ NB0_105.out _) | exact HI0.out)) hb)
                        have n4_ := Aside0.mk (KeepBut.trans (by repeat (first | (with_reducible first | exact HK.out | apply KeepBut.set_ | apply keep_drewN | apply keep_drew | apply keep_alloc | refine keep_far ?_ GW105.out _) | exact HK.out)) (KeepBut.of_below hb g none) (.inl rfl))
                        have n5_ := Aside0.mk (below_step (by repeat (first | (with_reducible first | exact HB.out | apply below_alloc | apply pw_below_drewN | apply below_drew1 | refine below_set ?_ (IsS74.ge HI0.out) | refine below_set ?_ GE105.out) | exact HB.out)) hb)
                        clear HO_5
                        clear BK105
                        clear HI0
                        clear HK
                        clear HB
                        have HO_5 := n0_
                        have HO110 := n1_
                        have BK105 := n2_
                        have HI0 := n3_
                        have HK := n4_
                        have HB := n5_
                        clear n0_ n1_ n2_ n3_ n4_ n5_
                        clear hb ho20
                        obtain ⟨Ao21, co21, eo21⟩ := Kd.R_slice HO110.out
                        subst eo21
                        obtain ⟨ado21, fo21, _⟩ := Kd.at_int (Kd.R_reads' HO110.out).2.2 0 (by decide) (by rw [Ny108.out]; simp)
                        cases fo21
                        refine hK.out _ _ ⟨(blk_cell BK105.out 0).trans rfl, (blk_cell BK105.out 1).trans rfl⟩ (fun hHeld => ?_)
                        clear hK K
                        refine norm_ (a' := ?_) ?_ ?_
                        rotate_left
                        · show Act.put _ (some 29) _ = _
                          simp only [Act.put, List.setIfInBounds_toArray, List.set_cons_zero, List.set_cons_succ, i64_w, i32_w]
                          rfl
                        refine one_ (i := 4) (N := some 31) #[true, true, true, true, true, false, false, false, false, false, false, false, false] rfl rfl (one_of HT_.out (by kernel_rfl)) (by decide) (fun K hK => ?_)
                        refine goes_ Try.func47 (by kernel_rfl) rfl #[.pointer (some ⟨g, 0, none⟩), .int .i64 6] (by rfl) rfl rfl (by (try simp only [List.map_toArray, List.map_cons, List.map_nil]); first | done | rfl | (simp only [List.length_drop, List.length_take]; rfl)) ?_
                        with_reducible refine (corporamade_Tape_Next.calls g s0_0 x1001_2 6 t111 t112 w0 _ ?side1 ?side2 A14.out).mono ?_
                        (case side1 => repeat (first | (with_reducible first | exact HI0.out | apply IsS74.alloc | apply IsS74.drewN | apply IsS74.drew | apply IsS74.set_1 | refine IsS74.far ?_ NB0_105.out _) | exact HI0.out))
                        (case side2 => repeat (first | (with_reducible first | exact HB.out | apply below_alloc | apply pw_below_drewN | apply below_drew1 | refine below_set ?_ (IsS74.ge HI0.out) | refine below_set ?_ GE105.out) | exact HB.out))
                        rintro e w22 ⟨rfl, hi, hb, hk⟩
                        refine ⟨_, rfl, ?_⟩
                        have n0_ := Aside0.mk (Kd.R_mono (Kd.R_keep (IsS74.apart (show IsS74 w0 _ g s0_0 x1001_2 from by repeat (first | (with_reducible first | exact HI0.out | apply IsS74.alloc | apply IsS74.drewN | apply IsS74.drew | apply IsS74.set_1 | refine IsS74.far ?_ NB0_105.out _) | exact HI0.out)) (by (with_reducible repeat (first | apply Kd.R_alloc | apply Kd.R_drewN | apply Kd.R_drew)); exact HO_5.out) (by decide)) hk (fun _ h => h.2)) (fun _ h => h.1))
                        have n1_ := Aside0.mk (KeepBut.blk hk (g' := gb105) (o := .cells #[.int .i64 (wrap64 (1 + t103)), .string x106001_2] 37 (0, 0)) (by (with_reducible repeat (first | refine blk_drewN ?_ _ | refine blk_drew ?_ | refine blk_alloc ?_ _)); exact BK105.out) NB105_0.out (by simp))
                        have n2_ := Aside0.mk (Kd.R_mono (Kd.R_keep (IsS74.apart (show IsS74 w0 _ g s0_0 x1001_2 from by repeat (first | (with_reducible first | exact HI0.out | apply IsS74.alloc | apply IsS74.drewN | apply IsS74.drew | apply IsS74.set_1 | refine IsS74.far ?_ NB0_105.out _) | exact HI0.out)) (by (with_reducible repeat (first | apply Kd.R_alloc | apply Kd.R_drewN | apply Kd.R_drew)); exact HO110.out) (by decide)) hk (fun _ h => h.2)) (fun _ h => h.1))
                        have n3_ := Aside0.mk (KeepBut.trans (by repeat (first | (with_reducible first | exact HK.out | apply KeepBut.set_ | apply keep_drewN | apply keep_drew | apply keep_alloc | refine keep_far ?_ GW105.out _) | exact HK.out)) hk (.inl rfl))
                        have n4_ := Aside0.mk (hb)
                        have n5_ := Aside0.mk (hi)
                        clear HO_5
                        clear BK105
                        clear HO110
                        clear HK
                        clear HB
                        clear HI0
                        have HO_5 := n0_
                        have BK105 := n1_
                        have HO110 := n2_
                        have HK := n3_
                        have HB := n4_
                        have HI0 := n5_
                        clear n0_ n1_ n2_ n3_ n4_ n5_
                        (try clear hb)
                        (try clear hb2)
                        (try clear hk)
                        (try clear hi)
                        refine hK.out _ _ ⟨(blk_cell BK105.out 0).trans rfl, (blk_cell BK105.out 1).trans rfl⟩ (fun hHeld => ?_)
                        clear hK K
                        refine norm_ (a' := ?_) ?_ ?_
                        rotate_left
                        · show Act.put _ (some 31) _ = _
                          simp only [Act.put, List.setIfInBounds_toArray, List.set_cons_zero, List.set_cons_succ, i64_w, i32_w]
                          rfl
                        exact norm_ (by simp only [putAll, Act.put, List.setIfInBounds_toArray, List.set_cons_zero, List.set_cons_succ]) (hCont (.slice (some ado21) y108.length co21, ado21) _ ⟨hHeld, (by (with_reducible repeat (first | apply Kd.R_alloc | apply Kd.R_drewN | apply Kd.R_drew)); exact HO110.out), (by (with_reducible repeat (first | apply Kd.R_alloc | apply Kd.R_drewN | apply Kd.R_drew)); exact HO_5.out), ⟨_, rfl⟩, (by (with_reducible repeat (first | refine blk_drewN ?_ _ | refine blk_drew ?_ | refine blk_alloc ?_ _)); exact BK105.out), (by repeat (first | (with_reducible first | exact HI0.out | apply IsS74.alloc | apply IsS74.drewN | apply IsS74.drew | apply IsS74.set_1 | refine IsS74.far ?_ NB0_105.out _) | exact HI0.out)), (by repeat (first | (with_reducible first | exact HK.out | apply KeepBut.set_ | apply keep_drewN | apply keep_drew | apply keep_alloc | refine keep_far ?_ GW105.out _) | exact HK.out)), (by repeat (first | (with_reducible first | exact HB.out | apply below_alloc | apply pw_below_drewN | apply below_drew1 | refine below_set ?_ (IsS74.ge HI0.out) | refine below_set ?_ GE105.out) | exact HB.out))⟩)
                      · skip
                        refine goes_ Try.func47 (by kernel_rfl) rfl #[.pointer (some ⟨g, 0, none⟩), .int .i64 6] (by rfl) rfl rfl (by (try simp only [List.map_toArray, List.map_cons, List.map_nil]); first | done | rfl | (simp only [List.length_drop, List.length_take]; rfl)) ?_
                        with_reducible refine (corporamade_Tape_Next.calls g s0_0 x1001_2 6 t111 t112 w0 _ ?side1 ?side2 A14.out).mono ?_
                        (case side1 => repeat (first | (with_reducible first | exact HI0.out | apply IsS74.alloc | apply IsS74.drewN | apply IsS74.drew | apply IsS74.set_1 | refine IsS74.far ?_ NB0_105.out _) | exact HI0.out))
                        (case side2 => repeat (first | (with_reducible first | exact HB.out | apply below_alloc | apply pw_below_drewN | apply below_drew1 | refine below_set ?_ (IsS74.ge HI0.out) | refine below_set ?_ GE105.out) | exact HB.out))
                        rintro e w19 ⟨rfl, hi, hb, hk⟩
                        refine ⟨_, rfl, ?_⟩
                        have n0_ := Aside0.mk (Kd.R_mono (Kd.R_keep (IsS74.apart (show IsS74 w0 _ g s0_0 x1001_2 from by repeat (first | (with_reducible first | exact HI0.out | apply IsS74.alloc | apply IsS74.drewN | apply IsS74.drew | apply IsS74.set_1 | refine IsS74.far ?_ NB0_105.out _) | exact HI0.out)) (by (with_reducible repeat (first | apply Kd.R_alloc | apply Kd.R_drewN | apply Kd.R_drew)); exact HO_5.out) (by decide)) hk (fun _ h => h.2)) (fun _ h => h.1))
                        have n1_ := Aside0.mk (KeepBut.blk hk (g' := gb105) (o := .cells #[.int .i64 (wrap64 (1 + t103)), .string x106001_2] 37 (0, 0)) (by (with_reducible repeat (first | refine blk_drewN ?_ _ | refine blk_drew ?_ | refine blk_alloc ?_ _)); exact BK105.out) NB105_0.out (by simp))
                        have n2_ := Aside0.mk (KeepBut.trans (by repeat (first | (with_reducible first | exact HK.out | apply KeepBut.set_ | apply keep_drewN | apply keep_drew | apply keep_alloc | refine keep_far ?_ GW105.out _) | exact HK.out)) hk (.inl rfl))
                        have n3_ := Aside0.mk (hb)
                        have n4_ := Aside0.mk (hi)
                        clear HO_5
                        clear BK105
                        clear HK
                        clear HB
                        clear HI0
                        have HO_5 := n0_
                        have BK105 := n1_
                        have HK := n2_
                        have HB := n3_
                        have HI0 := n4_
                        clear n0_ n1_ n2_ n3_ n4_
                        (try clear hb)
                        (try clear hb2)
                        (try clear hk)
                        (try clear hi)
                        refine hK.out _ _ ⟨(blk_cell BK105.out 0).trans rfl, (blk_cell BK105.out 1).trans rfl⟩ (fun hHeld => ?_)
                        clear hK K
                        refine norm_ (a' := ?_) ?_ ?_
                        rotate_left
                        · show Act.put _ (some 31) _ = _
                          simp only [Act.put, List.setIfInBounds_toArray, List.set_cons_zero, List.set_cons_succ, i64_w, i32_w]
                          rfl
                        refine one_ (i := 2) (N := some 29) #[true, true, true, true, true, false, false, false, false, false, false, false, false] rfl rfl (one_of HT_.out (by kernel_rfl)) (by decide) (fun K hK => ?_)
                        refine Kd.R_lit_step (Kd.int .i64) _ 3 ?hg (N := 29) ?hd (xs := ([0, 1, 97, 98, 255, 128] : List Int)) (inner := [.int .i64 0, .int .i64 1, .int .i64 97, .int .i64 98, .int .i64 255, .int .i64 128]) (ok := fun _ => True) (okp := fun _ => True) ?hr ?hp (fun _ hk => hk) trivial (Below.refl _ _) (Nat.le_refl _) (by simp) ?_; (case hd => rfl); (case hg => rfl); (case hr => first | (go_simp; done) | (go_simp; rfl)); (case hp => exact (Reps.one (show Kd.M (Kd.int .i64) _ _ _ 0 [.int .i64 0] from rfl) (Reps.one (show Kd.M (Kd.int .i64) _ _ _ 1 [.int .i64 1] from rfl) (Reps.one (show Kd.M (Kd.int .i64) _ _ _ 97 [.int .i64 97] from rfl) (Reps.one (show Kd.M (Kd.int .i64) _ _ _ 98 [.int .i64 98] from rfl) (Reps.one (show Kd.M (Kd.int .i64) _ _ _ 255 [.int .i64 255] from rfl) (Reps.one (show Kd.M (Kd.int .i64) _ _ _ 128 [.int .i64 128] from rfl) (Reps.none _ _))))))))
                        intro v109 w20 ho21 hb hg_ hnew_
                        clear hg_ hnew_
                        (first | rw [← Ny108.out] at ho21 | (simp only [Int.reduceToNat] at ho21; rw [← Ny108.out] at ho21))
                        have n0_ := Aside0.mk (Kd.R_below (by (with_reducible repeat (first | apply Kd.R_alloc | apply Kd.R_drewN | apply Kd.R_drew)); exact HO_5.out) hb)
                        have n1_ := Aside0.mk (Kd.R_lower ho21 (keep_size (w := w) (g := g) (row := none) (by repeat (first | (with_reducible first | exact HK.out | apply KeepBut.set_ | apply keep_drewN | apply keep_drew | apply keep_alloc | refine keep_far ?_ GW105.out _) | exact HK.out))))
                        have n2_ := Aside0.mk (blk_below (g := gb105) (o := .cells #[.int .i64 (wrap64 (1 + t103)), .string x106001_2] 37 (0, 0)) (by (with_reducible repeat (first | refine blk_drewN ?_ _ | refine blk_drew ?_ | refine blk_alloc ?_ _)); exact BK105.out) hb)
                        have n3_ := Aside0.mk (IsS74.below (by repeat (first | (with_reducible first | exact HI0.out | apply IsS74.alloc | apply IsS74.drewN | apply IsS74.drew | apply IsS74.set_1 | refine IsS74.far ?_ NB0_105.out _) | exact HI0.out)) hb)
                        have n4_ := Aside0.mk (KeepBut.trans (by repeat (first | (with_reducible first | exact HK.out | apply KeepBut.set_ | apply keep_drewN | apply keep_drew | apply keep_alloc | refine keep_far ?_ GW105.out _) | exact HK.out)) (KeepBut.of_below hb g none) (.inl rfl))
                        have n5_ := Aside0.mk (below_step (by repeat (first | (with_reducible first | exact HB.out | apply below_alloc | apply pw_below_drewN | apply below_drew1 | refine below_set ?_ (IsS74.ge HI0.out) | refine below_set ?_ GE105.out) | exact HB.out)) hb)
                        clear HO_5
                        clear BK105
                        clear HI0
                        clear HK
                        clear HB
                        have HO_5 := n0_
                        have HO110 := n1_
                        have BK105 := n2_
                        have HI0 := n3_
                        have HK := n4_
                        have HB := n5_
                        clear n0_ n1_ n2_ n3_ n4_ n5_
                        clear hb ho21
                        obtain ⟨Ao22, co22, eo22⟩ := Kd.R_slice HO110.out
                        subst eo22
                        obtain ⟨ado22, fo22, _⟩ := Kd.at_int (Kd.R_reads' HO110.out).2.2 0 (by decide) (by rw [Ny108.out]; simp)
                        cases fo22
                        refine hK.out _ _ ⟨(blk_cell BK105.out 0).trans rfl, (blk_cell BK105.out 1).trans rfl⟩ (fun hHeld => ?_)
                        clear hK K
                        refine norm_ (a' := ?_) ?_ ?_
                        rotate_left
                        · show Act.put _ (some 29) _ = _
                          simp only [Act.put, List.setIfInBounds_toArray, List.set_cons_zero, List.set_cons_succ, i64_w, i32_w]
                          rfl
                        exact norm_ (by simp only [putAll, Act.put, List.setIfInBounds_toArray, List.set_cons_zero, List.set_cons_succ]) (hCont (.slice (some ado22) y108.length co22, ado22) _ ⟨hHeld, (by (with_reducible repeat (first | apply Kd.R_alloc | apply Kd.R_drewN | apply Kd.R_drew)); exact HO110.out), (by (with_reducible repeat (first | apply Kd.R_alloc | apply Kd.R_drewN | apply Kd.R_drew)); exact HO_5.out), ⟨_, rfl⟩, (by (with_reducible repeat (first | refine blk_drewN ?_ _ | refine blk_drew ?_ | refine blk_alloc ?_ _)); exact BK105.out), (by repeat (first | (with_reducible first | exact HI0.out | apply IsS74.alloc | apply IsS74.drewN | apply IsS74.drew | apply IsS74.set_1 | refine IsS74.far ?_ NB0_105.out _) | exact HI0.out)), (by repeat (first | (with_reducible first | exact HK.out | apply KeepBut.set_ | apply keep_drewN | apply keep_drew | apply keep_alloc | refine keep_far ?_ GW105.out _) | exact HK.out)), (by repeat (first | (with_reducible first | exact HB.out | apply below_alloc | apply pw_below_drewN | apply below_drew1 | refine below_set ?_ (IsS74.ge HI0.out) | refine below_set ?_ GE105.out) | exact HB.out))⟩)
                    rintro ⟨v109, adz_v109⟩ w23 ⟨hS_, h0_, h1_, h2_, h3_, h4_, h5_, h6_⟩
                    have n0_ : Aside0 (Kd.R (Kd.int .i64) 3 w23 w.heap.size (fun _ => True) v109 y108) := ⟨h0_⟩
                    have n1_ : Aside0 (Kd.R k37 37 w23 w.heap.size (fun k_ => k_ ≠ gb105) u5 x5_1) := ⟨h1_⟩
                    have n2_ : Aside0 (∃ c_, (v109 : Value) = .slice (some adz_v109) y108.length c_) := ⟨h2_⟩
                    have n3_ : Aside0 (w23.heap[gb105]? = some (.cells #[.int .i64 (wrap64 (1 + t103)), .string x106001_2] 37 (0, 0))) := ⟨h3_⟩
                    have n4_ : Aside0 (IsS74 w0 w23 g s0_0 t112) := ⟨h4_⟩
                    have n5_ : Aside0 (KeepBut w w23 g none) := ⟨h5_⟩
                    have n6_ : Aside0 (Below w0.heap.size w0 w23) := ⟨h6_⟩
                    clear HO_5
                    clear BK105
                    clear HI0
                    clear HK
                    clear HB
                    clear h0_ h1_ h2_ h3_ h4_ h5_ h6_
                    have HO110 := n0_
                    have HO_5 := n1_
                    have HA_HO110 := n2_
                    have BK105 := n3_
                    have HI0 := n4_
                    have HK := n5_
                    have HB := n6_
                    clear n0_ n1_ n2_ n3_ n4_ n5_ n6_
                    have hHeld : w23.cell? ⟨gb105, 0, none⟩ = some (.int .i64 (wrap64 (1 + t103))) ∧ w23.cell? ⟨gb105, 1, none⟩ = some (.string x106001_2) := hS_
                    obtain ⟨co24, eo24⟩ := HA_HO110.out
                    clear HA_HO110
                    subst eo24
                    refine norm_ (a' := ?_) ?_ ?_
                    rotate_left
                    · simp only [putAll, Act.put, List.setIfInBounds_toArray, List.set_cons_zero, List.set_cons_succ]
                      rfl
                    refine pure_ (i := 5) (N := some 32) (v := ?_) (a' := ?_) #[true, true, true, true, true, true, false, false, false, false, false, false, false] rfl rfl (any_of HT_.out (by kernel_rfl)) (fun _ _ _ h => h) (Or.inl ⟨by rfl, ?_⟩) ?_ ?_
                    rotate_left
                    · intro w'
                      go_simp
                      with_reducible rfl
                    rotate_left
                    · simp only [Act.put, List.setIfInBounds_toArray, List.set_cons_zero, List.set_cons_succ, i64_w, i32_w]
                      rfl
                    refine one_ (i := 6) (N := some 33) #[true, true, true, true, true, true, true, false, false, false, false, false, false] rfl rfl (one_of HT_.out (by kernel_rfl)) (by decide) (fun K hK => ?_)
                    (have p113 : 0 ≤ (t111 : Int) := of_decide_eq_true (by first | (with_reducible assumption) | assumption); have q113 : t111 < (y108.length : Int) := of_decide_eq_true (by first | (with_reducible assumption) | assumption); obtain ⟨ad113, e113, hx113_0⟩ := Kd.at_int (Kd.R_reads' HO110.out).2.2 t111 p113 q113; obtain rfl : adz_v109 = ad113 := (by injection e113))
                    refine value_ (w1 := ?_) (v := ?_) (by rfl) rfl ?_ ?_
                    rotate_left 2
                    · go_simp
                      constructor
                      · rfl
                      · rfl
                    clear hx113_0
                    refine hK.out _ _ ⟨(blk_cell BK105.out 0).trans rfl, (blk_cell BK105.out 1).trans rfl⟩ (fun hHeld => ?_)
                    clear hK K
                    refine norm_ (a' := ?_) ?_ ?_
                    rotate_left
                    · show Act.put _ (some 33) _ = _
                      simp only [Act.put, List.setIfInBounds_toArray, List.set_cons_zero, List.set_cons_succ, i64_w, i32_w]
                      rfl
                    refine pure_ (i := 7) (N := some 34) (v := ?_) (a' := ?_) #[true, true, true, true, true, true, true, true, false, false, false, false, false] rfl rfl (any_of HT_.out (by kernel_rfl)) (fun _ _ _ h => h) (Or.inl ⟨by rfl, ?_⟩) ?_ ?_
                    rotate_left
                    · intro w'
                      go_simp
                      with_reducible rfl
                    rotate_left
                    · simp only [Act.put, List.setIfInBounds_toArray, List.set_cons_zero, List.set_cons_succ, i64_w, i32_w]
                      rfl
                    refine one_ (i := 8) (N := some 35) #[true, true, true, true, true, true, true, true, true, false, false, false, false] rfl rfl (one_of HT_.out (by kernel_rfl)) (by decide) (fun K hK => ?_)
                    refine Kd.R_lit_step (Kd.int .u8) _ 5 ?hg (N := 35) ?hd (xs := ([(rd y108 t111) % 256] : List Int)) (inner := [.int .u8 ((rd y108 t111) % 256)]) (ok := fun _ => True) (okp := fun _ => True) ?hr ?hp (fun _ hk => hk) trivial (Below.refl _ _) (Nat.le_refl _) (by simp) ?_; (case hd => rfl); (case hg => rfl); (case hr => first | (go_simp; done) | (go_simp; rfl)); (case hp => exact (Reps.one (show Kd.M (Kd.int .u8) _ _ _ ((rd y108 t111) % 256) [.int .u8 ((rd y108 t111) % 256)] from rfl) (Reps.none _ _)))
                    intro v115 w25 ho26 hb hg_ hnew_
                    clear hg_ hnew_
                    (first | rw [← Ny114.out] at ho26 | (simp only [Int.reduceToNat] at ho26; rw [← Ny114.out] at ho26))
                    have n0_ := Aside0.mk (Kd.R_below (by (with_reducible repeat (first | apply Kd.R_alloc | apply Kd.R_drewN | apply Kd.R_drew)); exact HO_5.out) hb)
                    have n1_ := Aside0.mk (Kd.R_below (by (with_reducible repeat (first | apply Kd.R_alloc | apply Kd.R_drewN | apply Kd.R_drew)); exact HO110.out) hb)
                    have n2_ := Aside0.mk (Kd.R_lower ho26 (keep_size (w := w) (g := g) (row := none) (by repeat (first | (with_reducible first | exact HK.out | apply KeepBut.set_ | apply keep_drewN | apply keep_drew | apply keep_alloc | refine keep_far ?_ GW105.out _) | exact HK.out))))
                    have n3_ := Aside0.mk (blk_below (g := gb105) (o := .cells #[.int .i64 (wrap64 (1 + t103)), .string x106001_2] 37 (0, 0)) (by (with_reducible repeat (first | refine blk_drewN ?_ _ | refine blk_drew ?_ | refine blk_alloc ?_ _)); exact BK105.out) hb)
                    have n4_ := Aside0.mk (IsS74.below (by repeat (first | (with_reducible first | exact HI0.out | apply IsS74.alloc | apply IsS74.drewN | apply IsS74.drew | apply IsS74.set_1 | refine IsS74.far ?_ NB0_105.out _) | exact HI0.out)) hb)
                    have n5_ := Aside0.mk (KeepBut.trans (by repeat (first | (with_reducible first | exact HK.out | apply KeepBut.set_ | apply keep_drewN | apply keep_drew | apply keep_alloc | refine keep_far ?_ GW105.out _) | exact HK.out)) (KeepBut.of_below hb g none) (.inl rfl))
                    have n6_ := Aside0.mk (below_step (by repeat (first | (with_reducible first | exact HB.out | apply below_alloc | apply pw_below_drewN | apply below_drew1 | refine below_set ?_ (IsS74.ge HI0.out) | refine below_set ?_ GE105.out) | exact HB.out)) hb)
                    clear HO_5
                    clear HO110
                    clear BK105
                    clear HI0
                    clear HK
                    clear HB
                    have HO_5 := n0_
                    have HO110 := n1_
                    have HO116 := n2_
                    have BK105 := n3_
                    have HI0 := n4_
                    have HK := n5_
                    have HB := n6_
                    clear n0_ n1_ n2_ n3_ n4_ n5_ n6_
                    clear hb ho26
                    refine hK.out _ _ ⟨(blk_cell BK105.out 0).trans rfl, (blk_cell BK105.out 1).trans rfl⟩ (fun hHeld => ?_)
                    clear hK K
                    refine norm_ (a' := ?_) ?_ ?_
                    rotate_left
                    · show Act.put _ (some 35) _ = _
                      simp only [Act.put, List.setIfInBounds_toArray, List.set_cons_zero, List.set_cons_succ, i64_w, i32_w]
                      rfl
                    refine one_ (i := 9) (N := some 36) #[true, true, true, true, true, true, true, true, true, true, false, false, false] rfl rfl (one_of HT_.out (by kernel_rfl)) (by decide) (fun K hK => ?_)
                    have hcv27 := own_string (P := Try.prog) Try.underlying39 Try.underlying5 Try.underlying9 (Kd.own_of_R HO116.out)
                    refine value_ (w1 := ?_) (v := ?_) (by rfl) rfl ?_ ?_
                    rotate_left 2
                    · go_simp
                      constructor
                      · rfl
                      · rfl
                    clear hcv27
                    refine hK.out _ _ ⟨(blk_cell BK105.out 0).trans rfl, (blk_cell BK105.out 1).trans rfl⟩ (fun hHeld => ?_)
                    clear hK K
                    refine norm_ (a' := ?_) ?_ ?_
                    rotate_left
                    · show Act.put _ (some 36) _ = _
                      simp only [Act.put, List.setIfInBounds_toArray, List.set_cons_zero, List.set_cons_succ, i64_w, i32_w]
                      rfl
                    refine pure_ (i := 10) (N := some 37) (v := ?_) (a' := ?_) #[true, true, true, true, true, true, true, true, true, true, true, false, false] rfl rfl (any_of HT_.out (by kernel_rfl)) (fun _ _ _ h => h) (Or.inl ⟨by rfl, ?_⟩) ?_ ?_
                    rotate_left
                    · intro w'
                      go_simp
                      with_reducible rfl
                    rotate_left
                    · simp only [Act.put, List.setIfInBounds_toArray, List.set_cons_zero, List.set_cons_succ, i64_w, i32_w]
                      rfl
                    refine pure_ (i := 11) (N := some 38) (v := ?_) (a' := ?_) #[true, true, true, true, true, true, true, true, true, true, true, true, false] rfl rfl (any_of HT_.out (by kernel_rfl)) (fun _ _ _ h => h) (Or.inl ⟨by rfl, ?_⟩) ?_ ?_
                    rotate_left
                    · intro w'
                      go_simp
                      with_reducible rfl
                    rotate_left
                    · simp only [Act.put, List.setIfInBounds_toArray, List.set_cons_zero, List.set_cons_succ, i64_w, i32_w]
                      rfl
                    refine last_ (i := 12) (N := none) #[true, true, true, true, true, true, true, true, true, true, true, true, true] rfl rfl (one_of HT_.out (by kernel_rfl)) (by decide) (fun K hK => ?_)
                    have hs28 : w25.cell? ⟨gb105, 1, none⟩ = some (.string x106001_2) := (blk_cell BK105.out 1).trans rfl
                    have hfs28 := blk_frozen BK105.out 1
                    refine skip_ (w1 := ?_) (by rfl) rfl ?_ ?_
                    rotate_left
                    · go_simp
                      rfl
                    refine hK.out _ _ ?_
                    clear hK K
                    refine done_ (done_of HT_.out (by kernel_rfl)) ?_
                    try go_wp2
                    go_roundg k2
                    case measure => have := HK1.out; have := HK2.out; omega
                    case rel => exact ⟨(wrap64 (x8_2 - 1)), (t112), (x106001_2 ++ (strOfNums y114)), (by first | rfl | (simp; done) | (simp [*]; done)), H', ⟨by have := HK1.out; have := HK2.out; omega⟩, ⟨by (with_reducible repeat (first | apply Kd.R_alloc | apply Kd.R_drewN | apply Kd.R_drew)); exact Kd.R_mono (Kd.R_far (p := ⟨gb105, 1, none⟩) (Kd.R_mono HO_5.out (fun k_ hk => (⟨hk, hk⟩ : _ ∧ k_ ≠ gb105))) (fun _ hk => hk.2) (.string (x106001_2 ++ (strOfNums y114)))) (fun _ hk => hk.1)⟩, ⟨by (with_reducible repeat (first | refine blk_drewN ?_ _ | refine blk_drew ?_ | refine blk_alloc ?_ _)); refine blk_put (cs := #[.int .i64 (wrap64 (1 + t103)), .string x106001_2]) ?_ 1 _ rfl; (with_reducible repeat (first | refine blk_drewN ?_ _ | refine blk_drew ?_ | refine blk_alloc ?_ _)); exact BK105.out⟩, ⟨by repeat (first | (with_reducible first | exact HI0.out | apply IsS74.alloc | apply IsS74.drewN | apply IsS74.drew | apply IsS74.set_1 | refine IsS74.far ?_ NB0_105.out _) | exact HI0.out)⟩, ⟨by repeat (first | (with_reducible first | exact HK.out | apply KeepBut.set_ | apply keep_drewN | apply keep_drew | apply keep_alloc | refine keep_far ?_ GW105.out _) | exact HK.out)⟩, ⟨by repeat (first | (with_reducible first | exact HB.out | apply below_alloc | apply pw_below_drewN | apply below_drew1 | refine below_set ?_ (IsS74.ge HI0.out) | refine below_set ?_ GE105.out) | exact HB.out)⟩⟩
                  · rw [if_neg c17] at H
                    exact absurd H (by simp)
                · rw [if_neg c16] at H
                  exact absurd H (by simp)
              · rw [if_neg c15] at H
                exact absurd H (by simp)
            · rw [if_neg c13] at H
              have c13b0 : decide (0 < x8_2) = false := decide_eq_false c13
              clear c13
              by_cases c29 : x5_1.length < 5864062014805
              · rw [if_pos c29] at H
                have LMc29 := Aside0.mk c29
                clear c29
                obtain ⟨y117, hy117⟩ : ∃ y_ : List (S37), y_ = (x5_1 ++ [(⟨(wrap64 (1 + t103)), x106001_2⟩ : S37)]) := ⟨_, rfl⟩
                replace H : (corporalaw40_records.l0 k2 y117 (wrap64 (x6_1 - 1)) s0_0 x1001_2) = some (r1, r2) := by first | (rw [hy117]; with_reducible exact H) | (have H2_ := (Option.bind_some _ _).symm.trans H; rw [hy117]; with_reducible exact H2_) | (have H2_ := (Option.bind_some _ _).symm.trans H; with_reducible exact H2_) | with_reducible exact H | (rw [hy117]; exact H) | exact H
                have Ny117 := Aside0.mk hy117
                clear hy117
                have H' := Aside0.mk H
                clear H
                have hnb30 := NB105_0.out
                have hnc30 := NB0_105.out
                have hcz31_0 : wr.cell? ⟨gb105, 0, none⟩ = some (.int .i64 (wrap64 (1 + t103))) := (blk_cell BK105.out 0).trans rfl
                have hcz31_1 : wr.cell? ⟨gb105, 1, none⟩ = some (.string x106001_2) := (blk_cell BK105.out 1).trans rfl
                have hfz31_0 := blk_frozen BK105.out 0
                have hfz31_1 := blk_frozen BK105.out 1
                go_wp2_with (first | ((with_reducible refine gate_builtin (b := .append) (xs := #[.tmp 39, .tmp 41]) rfl ?_); at_builtin; refine Kd.R_append k37 w.heap.size rfl (.tmp 39) (.tmp 41) 26 37 (.agg #[(.int .i64 0), (.string ⟨#[]⟩)]) 24 rfl Try.underlying26 info37 rfl (by decide) (by omega) u5 x5_1 (⟨(wrap64 (1 + t103)), x106001_2⟩ : S37) [.int .i64 (wrap64 (1 + t103)), .string x106001_2] (fun k_ => k_ ≠ gb105) (fun _ => False) rfl rfl ?aP (fun _ hk => hk.elim) ?aF ?aO (Below.refl _ _) ?aS ?aL ?_; (case aP => exact k37_mkM _ _ _ (⟨(wrap64 (1 + t103)), x106001_2⟩ : S37)); (case aF => exact (fun k_ hk => Kd.freshB (g := gb105) (o := .cells #[.int .i64 (wrap64 (1 + t103)), .string x106001_2] 37 (0, 0)) (by (with_reducible repeat (first | refine blk_drewN ?_ _ | refine blk_drew ?_ | refine blk_alloc ?_ _)); exact BK105.out) k_ hk)); (case aO => exact (by (with_reducible repeat (first | apply Kd.R_alloc | apply Kd.R_drewN | apply Kd.R_drew)); exact HO_5.out)); (case aS => exact (keep_size (w := w) (g := g) (row := none) (by repeat (first | (with_reducible first | exact HK.out | apply KeepBut.set_ | apply keep_drewN | apply keep_drew | apply keep_alloc | refine keep_far ?_ GW105.out _) | exact HK.out)))); (case aL => have := LMc29.out; omega); intro v118 w32 ho hb hg hat; rw [← Ny117.out] at ho; have n0_ := Aside0.mk (blk_grown (g := gb105) (o := .cells #[.int .i64 (wrap64 (1 + t103)), .string x106001_2] 37 (0, 0)) (by (with_reducible repeat (first | refine blk_drewN ?_ _ | refine blk_drew ?_ | refine blk_alloc ?_ _)); exact BK105.out) hg (Kd.R_away HO_5.out (fun _ hk => hk))); have n1_ := Aside0.mk (IsS74.grown (by repeat (first | (with_reducible first | exact HI0.out | apply IsS74.alloc | apply IsS74.drewN | apply IsS74.drew | apply IsS74.set_1 | refine IsS74.far ?_ NB0_105.out _) | exact HI0.out)) hg (IsS74.own_ne HI0.out HO_5.out (by decide))); have n2_ := Aside0.mk (below_weaken (by repeat (first | (with_reducible first | exact HB.out | apply below_alloc | apply pw_below_drewN | apply below_drew1 | refine below_set ?_ (IsS74.ge HI0.out) | refine below_set ?_ GE105.out) | exact HB.out)) HL.out hb); have n3_ := Aside0.mk (KeepBut.trans (by repeat (first | (with_reducible first | exact HK.out | apply KeepBut.set_ | apply keep_drewN | apply keep_drew | apply keep_alloc | refine keep_far ?_ GW105.out _) | exact HK.out)) (KeepBut.of_grown hg g) (Kd.R_base2 HO_5.out)); have n4_ := Aside0.mk (ho); clear BK105; clear HI0; clear HB; clear HK; clear HO_5; have BK105 := n0_; have HI0 := n1_; have HB := n2_; have HK := n3_; have HO119 := n4_; clear n0_ n1_ n2_ n3_ n4_; clear ho hb hg hat))
                go_roundg k2
                case measure => have := HK1.out; have := HK2.out; omega
                case rel => exact ⟨(y117), (wrap64 (x6_1 - 1)), (x1001_2), (by first | rfl | (simp; done) | (simp [*]; done)), H', ⟨by have := HK1.out; have := HK2.out; omega⟩, ⟨by (with_reducible repeat (first | apply Kd.R_alloc | apply Kd.R_drewN | apply Kd.R_drew)); exact Kd.R_mono HO119.out (fun _ hk => trivial)⟩, ⟨by repeat (first | (with_reducible first | exact HI0.out | apply IsS74.alloc | apply IsS74.drewN | apply IsS74.drew | apply IsS74.set_1 | refine IsS74.far ?_ NB0_105.out _) | exact HI0.out)⟩, ⟨by repeat (first | (with_reducible first | exact HK.out | apply KeepBut.set_ | apply keep_drewN | apply keep_drew | apply keep_alloc | refine keep_far ?_ GW105.out _) | exact HK.out)⟩, ⟨by repeat (first | (with_reducible first | exact HB.out | apply below_alloc | apply pw_below_drewN | apply below_drew1 | refine below_set ?_ (IsS74.ge HI0.out) | refine below_set ?_ GE105.out) | exact HB.out)⟩⟩
              · rw [if_neg c29] at H
                exact absurd H (by simp)
      · rw [if_neg c5] at H
        have c5b0 : decide (0 < x6_1) = false := decide_eq_false c5
        clear c5
        simp only [Option.some.injEq, Prod.mk.injEq] at H
        obtain ⟨rfl, rfl⟩ := H
        go_wp2
        go_ret
        exact ⟨_, by first | rfl | (simp [errW_none, errW_some] <;> rfl) | (simp [*, errW_none, errW_some] <;> rfl), by (with_reducible repeat (first | apply Kd.R_alloc | apply Kd.R_drewN | apply Kd.R_drew)); exact HO_5.out, by repeat (first | (with_reducible first | exact HI0.out | apply IsS74.alloc | apply IsS74.drewN | apply IsS74.drew | apply IsS74.set_1) | exact HI0.out), by repeat (first | (with_reducible first | exact HB.out | apply below_alloc | apply pw_below_drewN | apply below_drew1 | refine below_set ?_ (IsS74.ge HI0.out)) | exact HB.out), by repeat (first | (with_reducible first | exact HK.out | apply KeepBut.set_ | apply keep_drewN | apply keep_drew | apply keep_alloc) | exact HK.out)⟩

def corporamade_New.f (l0 : List Int) : Option (List Int × Int) := if (l0.length : Int) > 120 then (if 120 ≤ (l0.length : Int) then (some (l0.take 120, 0)) else (none)) else (some (l0, 0))
set_option maxHeartbeats 8000000 in
set_option maxRecDepth 100000 in
theorem corporamade_New.calls (A0 : Option Addr) (c0 : Nat) (l0 : List Int) (r1 : List Int) (r2 : Int) (w0 w : World) (hB : Below w0.heap.size w0 w) (hr0 : Kd.C (Kd.int .i64) w0 A0 l0.length l0) (hc0 : l0.length ≤ c0) (h : corporamade_New.f l0 = some (r1, r2)) :
    Calls Try.prog 22 #[.slice A0 l0.length c0] w fun e w' => ∃ g_ : Nat, e = .returned (.pointer (some ⟨g_, 0, none⟩)) ∧ IsS74 w0 w' g_ r1 r2 ∧ Below w0.heap.size w0 w' ∧ Below w.heap.size w w' := by
  have hu74 := Try.underlying74
  have HR0 := Aside0.mk hr0
  have HC0 := Aside0.mk hc0
  clear hr0 hc0
  have HBW := Aside0.mk (Below.refl w.heap.size w)
  have HW0 := Aside0.mk hB.size
  have HB := Aside0.mk hB
  clear hB
  have H : (if (l0.length : Int) > 120 then (if 120 ≤ (l0.length : Int) then (some (l0.take 120, 0)) else (none)) else (some (l0, 0))) = some (r1, r2) := h
  clear h
  by_cases c2 : (l0.length : Int) > 120
  · rw [if_pos c2] at H
    have c2b0 : decide (120 < (l0.length : Int)) = true := decide_eq_true c2
    have c2b1 : decide (120 < l0.length) = true := decide_eq_true (by omega)
    clear c2
    by_cases c3 : 120 ≤ (l0.length : Int)
    · rw [if_pos c3] at H
      have c3b0 := eq_true c3
      have c3b1 : decide (120 ≤ (l0.length : Int)) = true := decide_eq_true c3
      clear c3
      simp only [Option.some.injEq, Prod.mk.injEq] at H
      obtain ⟨rfl, rfl⟩ := H
      obtain ⟨i04, hi04, _, hsz4, _⟩ := info_parts info3
      obtain ⟨hcut4, hA4, hC4⟩ := print_take_of (P := Try.prog) (Value.int .i64) 0 22 3 .i64 Try.underlying22 hi04 hsz4 A0 c0 l0 120 (by omega) (of_decide_eq_true (by first | (with_reducible assumption) | assumption)) HC0.out
      have HR101 := Aside0.mk (Kd.C_of_reads (h1 := fun _ => rfl) (hA4 _ (Kd.reads_of_C HR0.out)))
      have HC101 := Aside0.mk hC4
      clear hA4 hC4 hi04 hsz4
      go_enter Try.func22, Try.ntmps22
      go_wp2_with (first | ((with_reducible refine gate_dst (N := 10) rfl ?_); refine box_event ?hg (N := 10) ?hd (cs := #[.slice A0 (l0.take 120).length c0, .int .i64 0]) (t := 74) ?hr ?_; (case hd => rfl); (case hg => rfl); (case hr => first | (go_simp; done) | (go_simp; rfl)); intro gb102 hg w5 hbox hb; have n0_ := Aside0.mk (below_step HBW.out hb); have n1_ := Aside0.mk (below_step (by repeat (first | (with_reducible first | exact HB.out | apply below_alloc | apply pw_below_drewN | apply below_drew1) | exact HB.out)) hb); have n2_ := Aside0.mk (hbox); have n3_ := Aside0.mk ((by rw [hg]; exact (below_size (by repeat (first | (with_reducible first | exact HBW.out | apply below_alloc | apply pw_below_drewN | apply below_drew1) | exact HBW.out))) : w.heap.size ≤ gb102)); have n4_ := Aside0.mk ((Nat.le_trans HW0.out (by rw [hg]; exact (below_size (by repeat (first | (with_reducible first | exact HBW.out | apply below_alloc | apply pw_below_drewN | apply below_drew1) | exact HBW.out))) : w.heap.size ≤ gb102) : w0.heap.size ≤ gb102)); clear HBW; clear HB; have HBW := n0_; have HB := n1_; have BK102 := n2_; have GW102 := n3_; have GE102 := n4_; clear n0_ n1_ n2_ n3_ n4_; clear hb hbox hg))
      go_ret
      exact ⟨_, rfl, (show IsS74 w0 _ gb102 (l0.take 120) 0 from ⟨_, _, by (with_reducible repeat (first | refine blk_drewN ?_ _ | refine blk_drew ?_ | refine blk_alloc ?_ _)); exact BK102.out, GE102.out, HR101.out⟩), by repeat (first | (with_reducible first | exact HB.out | apply below_alloc | apply pw_below_drewN | apply below_drew1 | refine below_set ?_ GE102.out) | exact HB.out), by repeat (first | (with_reducible first | exact HBW.out | apply below_alloc | apply pw_below_drewN | apply below_drew1 | refine below_set ?_ GW102.out) | exact HBW.out)⟩
    · rw [if_neg c3] at H
      exact absurd H (by simp)
  · rw [if_neg c2] at H
    have c2b0 : decide (120 < (l0.length : Int)) = false := decide_eq_false c2
    have c2b1 : decide (120 < l0.length) = false := decide_eq_false (by omega)
    clear c2
    simp only [Option.some.injEq, Prod.mk.injEq] at H
    obtain ⟨rfl, rfl⟩ := H
    go_enter Try.func22, Try.ntmps22
    go_wp2_with (first | ((with_reducible refine gate_dst (N := 10) rfl ?_); refine box_event ?hg (N := 10) ?hd (cs := #[.slice A0 l0.length c0, .int .i64 0]) (t := 74) ?hr ?_; (case hd => rfl); (case hg => rfl); (case hr => first | (go_simp; done) | (go_simp; rfl)); intro gb103 hg w6 hbox hb; have n0_ := Aside0.mk (below_step HBW.out hb); have n1_ := Aside0.mk (below_step (by repeat (first | (with_reducible first | exact HB.out | apply below_alloc | apply pw_below_drewN | apply below_drew1) | exact HB.out)) hb); have n2_ := Aside0.mk (hbox); have n3_ := Aside0.mk ((by rw [hg]; exact (below_size (by repeat (first | (with_reducible first | exact HBW.out | apply below_alloc | apply pw_below_drewN | apply below_drew1) | exact HBW.out))) : w.heap.size ≤ gb103)); have n4_ := Aside0.mk ((Nat.le_trans HW0.out (by rw [hg]; exact (below_size (by repeat (first | (with_reducible first | exact HBW.out | apply below_alloc | apply pw_below_drewN | apply below_drew1) | exact HBW.out))) : w.heap.size ≤ gb103) : w0.heap.size ≤ gb103)); clear HBW; clear HB; have HBW := n0_; have HB := n1_; have BK103 := n2_; have GW103 := n3_; have GE103 := n4_; clear n0_ n1_ n2_ n3_ n4_; clear hb hbox hg))
    go_ret
    exact ⟨_, rfl, (show IsS74 w0 _ gb103 l0 0 from ⟨_, _, by (with_reducible repeat (first | refine blk_drewN ?_ _ | refine blk_drew ?_ | refine blk_alloc ?_ _)); exact BK103.out, GE103.out, HR0.out⟩), by repeat (first | (with_reducible first | exact HB.out | apply below_alloc | apply pw_below_drewN | apply below_drew1 | refine below_set ?_ GE103.out) | exact HB.out), by repeat (first | (with_reducible first | exact HBW.out | apply below_alloc | apply pw_below_drewN | apply below_drew1 | refine below_set ?_ GW103.out) | exact HBW.out)⟩

end Go.Proofs.Ytnaddmkaakdhoaa.J

end
section
namespace Go.Proofs.Ytnaddmkaakdhoaa.Jl
open Crc (Byte)

def be4 (n : Int) : List Int := [n / 16777216 % 256, n / 65536 % 256, n / 256 % 256, n % 256]
def dec4 (l : List Int) : Int := l.getD 0 0 * 16777216 + l.getD 1 0 * 65536 + l.getD 2 0 * 256 + l.getD 3 0
def Bytes (l : List Int) : Prop := ∀ c ∈ l, Byte c
def encL (k : Int) (p : List Int) : List Int := be4 p.length ++ be4 (Crc.sum (k :: p)) ++ (k :: p)
def nextL (l : List Int) : Option (Int × List Int) :=
  if l.length < 9 then none
  else if dec4 l > 1048576 ∨ (l.length : Int) < 9 + dec4 l then none
  else if (l.getD 8 0 = 1 ∨ l.getD 8 0 = 2) ∧ Crc.sum ((l.drop 8).take (1 + (dec4 l).toNat)) = dec4 (l.drop 4) then some (l.getD 8 0, (l.drop 9).take (dec4 l).toNat)
  else none

theorem be4_len (n : Int) : (be4 n).length = 4 := rfl
theorem be4_bytes (n : Int) : Bytes (be4 n) := by
  intro c hc
  simp only [be4, List.mem_cons, List.not_mem_nil, or_false] at hc
  unfold Byte
  rcases hc with rfl | rfl | rfl | rfl <;> omega
theorem dec4_be4 (n : Int) (h0 : 0 ≤ n) (h1 : n < 4294967296) (l : List Int) : dec4 (be4 n ++ l) = n := by
  simp [dec4, be4]
  omega
theorem be4_dec4 (a b c d : Int) (ha : Byte a) (hb : Byte b) (hc : Byte c) (hd : Byte d) (l : List Int) : be4 (dec4 (a :: b :: c :: d :: l)) = [a, b, c, d] := by
  unfold Byte at *
  simp [dec4, be4]
  omega
theorem dec4_range {l : List Int} (h : Bytes l) : 0 ≤ dec4 l ∧ dec4 l < 4294967296 := by
  have g : ∀ i, 0 ≤ l.getD i 0 ∧ l.getD i 0 ≤ 255 := by
    intro i
    rcases Nat.lt_or_ge i l.length with hi | hi
    · have := h (l.getD i 0) (by rw [List.getD_eq_getElem?_getD, List.getElem?_eq_getElem hi]; exact List.getElem_mem hi)
      exact this
    · rw [List.getD_eq_getElem?_getD, List.getElem?_eq_none hi]; simp
  have h0 := g 0
  have h1 := g 1
  have h2 := g 2
  have h3 := g 3
  unfold dec4
  omega

theorem encL_len (k : Int) (p : List Int) : (encL k p).length = 9 + p.length := by
  simp [encL, be4_len]; omega
theorem bytes_app {a b : List Int} (ha : Bytes a) (hb : Bytes b) : Bytes (a ++ b) := fun c hc => (List.mem_append.1 hc).elim (ha c) (hb c)
theorem encL_bytes {k : Int} {p : List Int} (hk : Byte k) (hp : Bytes p) : Bytes (encL k p) := by
  unfold encL
  refine bytes_app (bytes_app (be4_bytes _) (be4_bytes _)) ?_
  intro c hc
  rcases List.mem_cons.1 hc with rfl | hc
  · exact hk
  · exact hp c hc
theorem bytes_right {a b : List Int} (h : Bytes (a ++ b)) : Bytes b := fun c hc => h c (List.mem_append_right _ hc)

theorem nine {l : List Int} (h : 9 ≤ l.length) : ∃ a b c d e f g h i t, l = a :: b :: c :: d :: e :: f :: g :: h :: i :: t := by
  match l, h with
  | a :: b :: c :: d :: e :: f :: g :: h :: i :: t, _ => exact ⟨a, b, c, d, e, f, g, h, i, t, rfl⟩

theorem next_enc {k : Int} {p : List Int} (hk : k = 1 ∨ k = 2) (hl : p.length ≤ 1048576) (rest : List Int) : nextL (encL k p ++ rest) = some (k, p) := by
  have hd : dec4 (encL k p ++ rest) = p.length := by
    unfold encL
    rw [List.append_assoc, List.append_assoc]
    exact dec4_be4 _ (by omega) (by omega) _
  have hlen : (encL k p ++ rest).length = 9 + p.length + rest.length := by rw [List.length_append, encL_len]
  have hs := Crc.sum_bound (k :: p)
  have h4 : dec4 ((encL k p ++ rest).drop 4) = Crc.sum (k :: p) := by
    unfold encL
    rw [List.append_assoc, List.append_assoc, List.drop_append_of_le_length (by rw [be4_len]; omega)]
    rw [show (be4 (p.length : Int)).drop 4 = [] from rfl, List.nil_append]
    exact dec4_be4 _ hs.1 hs.2 _
  have e8 : (encL k p ++ rest).drop 8 = k :: (p ++ rest) := by
    unfold encL
    rw [List.append_assoc, List.drop_append_of_le_length (by simp [be4_len])]
    rw [show (be4 (p.length : Int) ++ be4 (Crc.sum (k :: p))).drop 8 = [] from rfl]
    simp
  have g8 : (encL k p ++ rest).getD 8 0 = k := by
    have := congrArg (fun z : List Int => z.head?) e8
    simp only [List.head?_drop, List.head?_cons] at this
    rw [List.getD_eq_getElem?_getD, this]; rfl
  have e9 : (encL k p ++ rest).drop 9 = p ++ rest := by
    have := congrArg (List.drop 1) e8
    rw [List.drop_drop] at this
    simpa using this
  unfold nextL
  rw [if_neg (by omega), hd, if_neg (by rw [hlen]; omega), g8, h4, e8, e9]
  have hp : (p ++ rest).take ((p.length : Int)).toNat = p := by simp
  have hp1 : (k :: (p ++ rest)).take (1 + ((p.length : Int)).toNat) = k :: p := by
    rw [Nat.add_comm, List.take_succ_cons, hp]
  rw [hp, hp1, if_pos ⟨hk, rfl⟩]

theorem next_some {l : List Int} (hb : Bytes l) {k : Int} {p : List Int} (h : nextL l = some (k, p)) : (k = 1 ∨ k = 2) ∧ p.length ≤ 1048576 ∧ Bytes p ∧ ∃ rest, l = encL k p ++ rest := by
  have hr := dec4_range hb
  unfold nextL at h
  by_cases c1 : l.length < 9
  · rw [if_pos c1] at h; cases h
  rw [if_neg c1] at h
  by_cases c2 : dec4 l > 1048576 ∨ (l.length : Int) < 9 + dec4 l
  · rw [if_pos c2] at h; cases h
  rw [if_neg c2] at h
  by_cases c3 : (l.getD 8 0 = 1 ∨ l.getD 8 0 = 2) ∧ Crc.sum ((l.drop 8).take (1 + (dec4 l).toNat)) = dec4 (l.drop 4)
  · rw [if_pos c3] at h
    simp only [Option.some.injEq, Prod.mk.injEq] at h
    obtain ⟨hk, hs⟩ := c3
    obtain ⟨h1, h2⟩ := h
    have hn : (dec4 l).toNat ≤ (l.drop 9).length := by rw [List.length_drop]; omega
    have hpl : p.length = (dec4 l).toNat := by rw [← h2, List.length_take]; omega
    refine ⟨by rw [← h1]; exact hk, by omega, fun c hc => hb c (List.mem_of_mem_drop (List.mem_of_mem_take (by rw [← h2] at hc; exact hc))), (l.drop 9).drop (dec4 l).toNat, ?_⟩
    obtain ⟨a, b, c, d, e, f, g, i, j, t, rfl⟩ := nine (l := l) (by omega)
    have B : ∀ x, x ∈ (a :: b :: c :: d :: e :: f :: g :: i :: j :: t) → Byte x := hb
    have e1 := be4_dec4 a b c d (B a (by simp)) (B b (by simp)) (B c (by simp)) (B d (by simp)) (e :: f :: g :: i :: j :: t)
    have e2 := be4_dec4 e f g i (B e (by simp)) (B f (by simp)) (B g (by simp)) (B i (by simp)) (j :: t)
    have hpl' : (p.length : Int) = dec4 (a :: b :: c :: d :: e :: f :: g :: i :: j :: t) := by rw [hpl]; omega
    have hp : t.take (dec4 (a :: b :: c :: d :: e :: f :: g :: i :: j :: t)).toNat = p := h2
    have hj : j = k := h1
    subst hj
    have hs' : Crc.sum (j :: p) = dec4 (e :: f :: g :: i :: j :: t) := by
      rw [← hp]
      rw [Nat.add_comm] at hs
      exact hs
    unfold encL
    rw [hpl', e1, hs', e2]
    show _ = a :: b :: c :: d :: e :: f :: g :: i :: j :: (p ++ t.drop _)
    rw [← hp, List.take_append_drop]
  · rw [if_neg c3] at h; cases h

def encAllL : List (Int × List Int) → List Int
  | [] => []
  | r :: l => encL r.1 r.2 ++ encAllL l
def Good (r : Int × List Int) : Prop := (r.1 = 1 ∨ r.1 = 2) ∧ r.2.length ≤ 1048576 ∧ Bytes r.2
theorem encAllL_app (l m : List (Int × List Int)) : encAllL (l ++ m) = encAllL l ++ encAllL m := by
  induction l with
  | nil => rfl
  | cons r l ih => simp only [List.cons_append, encAllL, ih, List.append_assoc]
theorem encAllL_bytes : ∀ {l : List (Int × List Int)}, (∀ r ∈ l, Good r) → Bytes (encAllL l)
  | [], _ => fun c hc => by simp [encAllL] at hc
  | r :: l, h => by
    have hr := h r (by simp)
    refine bytes_app (encL_bytes ?_ hr.2.2) (encAllL_bytes fun x hx => h x (by simp [hx]))
    unfold Byte
    rcases hr.1 with e | e <;> rw [e] <;> omega

def scanR : Nat → List Int → List (Int × List Int)
  | 0, _ => []
  | f + 1, l => match nextL l with
    | none => []
    | some r => r :: scanR f (l.drop (9 + r.2.length))

theorem scan_step {f : Nat} {l : List Int} {r : Int × List Int} (h : nextL l = some r) : scanR (f + 1) l = r :: scanR f (l.drop (9 + r.2.length)) := by
  simp only [scanR, h]
theorem scan_stop {f : Nat} {l : List Int} (h : nextL l = none) : scanR f l = [] := by
  cases f with
  | zero => rfl
  | succ f => simp only [scanR, h]
theorem scan_pre (x : List (Int × List Int)) : ∀ (f : Nat) (rest : List Int), (∀ r ∈ x, Good r) → x.length ≤ f → scanR f (encAllL x ++ rest) = x ++ scanR (f - x.length) rest := by
  induction x with
  | nil => intro f rest _ _; simp [encAllL]
  | cons r x ih =>
    intro f rest hg hl
    obtain ⟨f, rfl⟩ : ∃ g, f = g + 1 := ⟨f - 1, by simp at hl; omega⟩
    have hr := hg r (by simp)
    have e1 : encAllL (r :: x) ++ rest = encL r.1 r.2 ++ (encAllL x ++ rest) := by simp only [encAllL, List.append_assoc]
    have e2 : (encL r.1 r.2 ++ (encAllL x ++ rest)).drop (9 + r.2.length) = encAllL x ++ rest := by rw [← encL_len r.1 r.2]; simp
    rw [e1, scan_step (next_enc hr.1 hr.2.1 _), e2, ih f rest (fun y hy => hg y (by simp [hy])) (by simpa using hl)]
    simp

theorem next_short {l : List Int} (h : l.length < 9) : nextL l = none := by unfold nextL; rw [if_pos h]

end Go.Proofs.Ytnaddmkaakdhoaa.Jl

end
section
namespace Go.Proofs.Ytnaddmkaakdhoaa.J
open Go.RowKit Go.Proofs.YtnaddmkaakdhoaaW.PrintWords Go.Proofs.YtnaddmkaakdhoaaW.PrintLast Go.Proofs.YtnaddmkaakdhoaaW.PrintMore
open Jl
open Crc (Byte)
set_option linter.unusedVariables false
set_option linter.unusedSimpArgs false

theorem bytesOf_bytes (s : ByteArray) : Bytes (bytesOf s) := by
  intro c hc
  obtain ⟨b, _, rfl⟩ := List.mem_map.1 hc
  have := b.toNat_lt
  unfold Byte
  omega
theorem bytesOf_inj {a b : ByteArray} (h : bytesOf a = bytesOf b) : a = b := by
  have h' : a.data.toList = b.data.toList := by
    unfold bytesOf at h
    exact (List.map_inj_right (fun x y e => UInt8.toNat_inj.1 (Int.ofNat.inj e))).1 h
  have h2 : a.data = b.data := by
    have := congrArg List.toArray h'
    simpa using this
  cases a; cases b
  simp only at h2
  rw [h2]
theorem bytesOf_app (a b : ByteArray) : bytesOf (a ++ b) = bytesOf a ++ bytesOf b := by
  unfold bytesOf
  rw [← List.map_append]
  congr 1
theorem bytesOf_str {l : List Int} (h : Bytes l) : bytesOf (strOfNums l) = l := by
  unfold bytesOf
  rw [strOfNums_data, List.map_map]
  apply List.ext_getElem
  · simp
  · intro i h1 h2
    simp only [List.getElem_map, Function.comp_apply]
    have hb := h (l[i]) (List.getElem_mem _)
    unfold Byte at hb
    rw [show (UInt8.ofNat (l[i]).toNat).toNat = (l[i]).toNat from by rw [UInt8.toNat_ofNat']; omega]
    omega
theorem str_bytesOf (s : ByteArray) : strOfNums (bytesOf s) = s := bytesOf_inj (bytesOf_str (bytesOf_bytes s))
theorem bytesOf_extract (s : ByteArray) (i j : Nat) (hj : j ≤ s.size) : bytesOf (s.extract i j) = ((bytesOf s).drop i).take (j - i) := by
  apply List.ext_getElem?
  intro n
  have hs : (s.extract i j).size = j - i := by rw [ByteArray.size_extract]; omega
  rcases Nat.lt_or_ge n (j - i) with h | h
  · have e1 := rd_bytesOf (s.extract i j) n
    have e2 := rd_bytesOf s ((i : Int) + n)
    have e3 := bt_extract s i j hj n (by omega) (by omega)
    have l1 : n < (bytesOf (s.extract i j)).length := by rw [bytesOf_length, hs]; exact h
    have l2 : i + n < (bytesOf s).length := by rw [bytesOf_length]; omega
    rw [List.getElem?_take_of_lt h, List.getElem?_drop, List.getElem?_eq_getElem l1, List.getElem?_eq_getElem l2]
    unfold rd at e1 e2
    rw [show ((n : Int)).toNat = n by omega, List.getD_eq_getElem?_getD, List.getElem?_eq_getElem l1] at e1
    rw [show ((i : Int) + n).toNat = i + n by omega, List.getD_eq_getElem?_getD, List.getElem?_eq_getElem l2] at e2
    simp only [Option.getD_some] at e1 e2
    rw [e1, e2, e3]
  · rw [List.getElem?_eq_none (by rw [bytesOf_length, hs]; exact h), List.getElem?_eq_none (by rw [List.length_take]; omega)]
theorem bt_list (s : ByteArray) (i : Nat) : bt s i = (bytesOf s).getD i 0 := by
  have := rd_bytesOf s i
  unfold rd at this
  rw [← this]; rfl
theorem g32_dec (s : ByteArray) : g32 s = dec4 (bytesOf s) := by
  unfold g32 dec4
  rw [← bt_list, ← bt_list, ← bt_list, ← bt_list]; rfl
theorem extract_all (s : ByteArray) (i : Nat) : bytesOf (s.extract i s.size) = (bytesOf s).drop i := by
  rw [bytesOf_extract s i s.size (Nat.le_refl _), ← bytesOf_length s, ← List.length_drop, List.take_length]

def toR (r : S37) : Int × List Int := (r.f0, bytesOf r.f1)
theorem toR_inj {a b : S37} (h : toR a = toR b) : a = b := by
  cases a; cases b
  simp only [toR, Prod.mk.injEq] at h
  rw [h.1, bytesOf_inj h.2]

theorem nextS_none {s : ByteArray} (h : nextL (bytesOf s) = none) : (nextS s).2.2 = 0 := by
  have hr := g32_range s
  unfold nextL at h
  unfold nextS
  rw [← g32_dec, bytesOf_length] at h
  by_cases c1 : s.size < 9
  · rw [if_pos c1]
  rw [if_neg c1] at h ⊢
  by_cases c2 : g32 s > 1048576 ∨ (s.size : Int) < 9 + g32 s
  · rw [if_pos c2]
  rw [if_neg c2] at h ⊢
  rw [if_neg]
  intro c3
  rw [if_pos] at h
  · cases h
  · rw [← bt_list, ← extract_all s 4, ← g32_dec]
    refine ⟨c3.1, ?_⟩
    rw [← c3.2, bytesOf_extract s 8 _ (by omega)]
    congr 2
    omega

theorem nextS_some {s : ByteArray} {k : Int} {p : List Int} (h : nextL (bytesOf s) = some (k, p)) : (nextS s).1 = k ∧ bytesOf (nextS s).2.1 = p ∧ (nextS s).2.2 = 9 + p.length := by
  have hr := g32_range s
  unfold nextL at h
  unfold nextS
  rw [← g32_dec, bytesOf_length] at h
  by_cases c1 : s.size < 9
  · rw [if_pos c1] at h; cases h
  rw [if_neg c1] at h ⊢
  by_cases c2 : g32 s > 1048576 ∨ (s.size : Int) < 9 + g32 s
  · rw [if_pos c2] at h; cases h
  rw [if_neg c2] at h ⊢
  by_cases c3 : ((bytesOf s).getD 8 0 = 1 ∨ (bytesOf s).getD 8 0 = 2) ∧ Crc.sum (((bytesOf s).drop 8).take (1 + (g32 s).toNat)) = dec4 ((bytesOf s).drop 4)
  · rw [if_pos c3] at h
    simp only [Option.some.injEq, Prod.mk.injEq] at h
    have e8 : bt s 8 = (bytesOf s).getD 8 0 := bt_list s 8
    rw [if_pos]
    · refine ⟨e8.trans h.1, ?_, ?_⟩
      · rw [← h.2, bytesOf_extract s 9 _ (by omega)]
        congr 1
        omega
      · rw [← h.2, List.length_take, List.length_drop, bytesOf_length]
        dsimp only
        omega
    · rw [e8, g32_dec (s.extract 4 s.size), extract_all]
      refine ⟨c3.1, ?_⟩
      rw [← c3.2, bytesOf_extract s 8 _ (by omega)]
      congr 2
      omega
  · rw [if_neg c3] at h; cases h

theorem scan_list : ∀ (f : Nat) (s : ByteArray) (x : Int), 0 ≤ x → x ≤ s.size → ((scanL f s x).map fun p => toR p.2) = scanR f ((bytesOf s).drop x.toNat)
  | 0, _, _, _, _ => rfl
  | f + 1, s, x, h0, h1 => by
    have hs : (s.extract x.toNat s.size).size = s.size - x.toNat := by rw [ByteArray.size_extract]; omega
    have he := extract_all s x.toNat
    cases hn : nextL (bytesOf (s.extract x.toNat s.size)) with
    | none =>
      simp only [scanL]
      rw [if_pos (nextS_none hn), ← he, scan_stop hn]
      rfl
    | some q =>
      obtain ⟨k, p⟩ := q
      obtain ⟨e1, e2, e3⟩ := nextS_some hn
      have hl := nextS_len (s.extract x.toNat s.size)
      have hst := scan_step (f := f) hn
      rw [he] at hst
      rw [hst, List.drop_drop]
      simp only [scanL]
      rw [if_neg (by omega), List.map_cons, scan_list f s _ (by omega) (by omega)]
      have ea : toR (⟨(nextS (s.extract x.toNat s.size)).1, (nextS (s.extract x.toNat s.size)).2.1⟩ : S37) = (k, p) := by
        simp only [toR]; rw [e1, e2]
      rw [ea, e3]
      congr 3
      omega

theorem scan_last : ∀ (f : Nat) (s : ByteArray) (x : Int), 0 ≤ x → x ≤ s.size → ((scanL f s x).getLast?.map (·.1)).getD x = x + (encAllL (scanR f ((bytesOf s).drop x.toNat))).length
  | 0, _, _, _, _ => by simp [scanL, scanR, encAllL]
  | f + 1, s, x, h0, h1 => by
    have hs : (s.extract x.toNat s.size).size = s.size - x.toNat := by rw [ByteArray.size_extract]; omega
    have he := extract_all s x.toNat
    cases hn : nextL (bytesOf (s.extract x.toNat s.size)) with
    | none =>
      simp only [scanL]
      rw [if_pos (nextS_none hn), ← he, scan_stop hn]
      simp [encAllL]
    | some q =>
      obtain ⟨k, p⟩ := q
      obtain ⟨e1, e2, e3⟩ := nextS_some hn
      have hl := nextS_len (s.extract x.toNat s.size)
      have hst := scan_step (f := f) hn
      rw [he] at hst
      have ih := scan_last f s (x + (nextS (s.extract x.toNat s.size)).2.2) (by omega) (by omega)
      rw [hst, List.drop_drop]
      simp only [scanL]
      rw [if_neg (by omega)]
      rw [show ∀ (a : Int × S37) (l : List (Int × S37)) (z : Int), (((a :: l).getLast?.map (·.1)).getD z) = ((l.getLast?.map (·.1)).getD a.1) from by
        intro a l z
        cases l with
        | nil => rfl
        | cons b l => rw [List.getLast?_cons_cons]; cases h : (b :: l).getLast? with
          | none => simp at h
          | some q => rfl]
      rw [ih, e3, show (x + (9 + (p.length : Int))).toNat = x.toNat + (9 + p.length) by omega]
      simp only [encAllL, List.length_append, encL_len]
      push_cast
      omega

theorem scan_is (s : ByteArray) : ((scanL s.size s 0).map (·.2)).map toR = scanR s.size (bytesOf s) ∧ scanEnd s = (encAllL (scanR s.size (bytesOf s))).length := by
  constructor
  · rw [List.map_map]
    exact scan_list s.size s 0 (by omega) (by omega)
  · have := scan_last s.size s 0 (by omega) (by omega)
    unfold scanEnd lastAt
    simpa using this

end Go.Proofs.Ytnaddmkaakdhoaa.J

end
section
namespace Go.Proofs.Ytnaddmkaakdhoaa.J
open Go.RowKit Go.Proofs.YtnaddmkaakdhoaaW.PrintWords Go.Proofs.YtnaddmkaakdhoaaW.PrintLast Go.Proofs.YtnaddmkaakdhoaaW.PrintMore
open Jl
open Crc (Byte W32 stN upd crc)
set_option linter.unusedVariables false
set_option linter.unusedSimpArgs false

def encE (kind : Int) (p : ByteArray) : ByteArray × Int :=
  if kind = 1 ∨ kind = 2 then (if (p.size : Int) > 1048576 then (⟨#[]⟩, 2) else (strOfNums (encL kind (bytesOf p)), 0)) else (⟨#[]⟩, 1)

theorem str_app (a b : List Int) : strOfNums (a ++ b) = strOfNums a ++ strOfNums b := by
  unfold strOfNums
  rw [ByteArray.mk_append_mk]
  simp
theorem str_size (a : List Int) : (strOfNums a).size = a.length := strOfNums_size a

theorem enc_str (kind : Int) (p : ByteArray) : strOfNums (encL kind (bytesOf p)) = ((strOfNums (be4 p.size) ++ strOfNums (be4 (Crc.sum (kind :: bytesOf p)))) ++ strOfNums [kind]) ++ p := by
  unfold encL
  rw [bytesOf_length, show kind :: bytesOf p = [kind] ++ bytesOf p from rfl, ← List.append_assoc, str_app, str_app, str_app, str_bytesOf]

theorem put_f (l : List Int) (n : Int) (h : l.length ≤ 1000) : journal_put.f l n = some (l ++ be4 n) := by
  unfold journal_put.f
  simp only [Option.bind_some]
  rw [if_pos (by simp; omega)]
  rfl

theorem penc_f (kind : Int) (p : ByteArray) : Ev (fun k => journal_Encode.f k kind p) (encE kind p) := by
  have key : (kind = 1 ∨ kind = 2) → Ev (fun k => journal_Encode.j0 k false kind p) (encE kind p) := by
    intro hk
    have e : kind % 256 = kind := by omega
    unfold encE
    rw [if_pos hk]
    refine Ev.step (fun k => by simp only [journal_Encode.j0]; exact rfl) ?_
    refine Ev.congr (fun k => if_neg (by simp)) ?_
    by_cases c : (p.size : Int) > 1048576
    · refine Ev.congr (fun k => if_pos c) ?_
      rw [if_pos c]
      exact Ev.now _
    · refine Ev.congr (fun k => if_neg c) ?_
      rw [if_neg c, show (p.size : Int) % 4294967296 = p.size by omega]
      simp only [Option.bind_some, e]
      have z3 : (strOfNums [kind]).size = 1 := str_size _
      have z4 : (strOfNums [kind] ++ p).size = 1 + p.size := by rw [ByteArray.size_append, z3]
      have hb : bytesOf (strOfNums [kind] ++ p) = kind :: bytesOf p := by
        rw [bytesOf_app, bytesOf_str]
        · rfl
        · intro c hc
          rw [List.mem_singleton.1 hc]
          unfold Byte
          omega
      refine Ev.congr (fun k => if_pos (by omega)) ?_
      rw [put_f [] _ (by simp)]
      simp only [Option.bind_some]
      rw [sum_f _ (by omega), hb]
      simp only [Option.bind_some]
      rw [put_f _ _ (by simp [be4_len])]
      simp only [Option.bind_some, List.nil_append]
      have z5 : (strOfNums (be4 p.size ++ be4 (Crc.sum (kind :: bytesOf p)))).size = 8 := str_size _
      refine Ev.congr (fun k => if_pos (by omega)) ?_
      rw [enc_str, str_app, ByteArray.append_assoc, ByteArray.append_assoc, ByteArray.append_assoc]
      exact Ev.now _
  unfold journal_Encode.f
  by_cases h1 : kind = 1
  · refine Ev.congr (fun k => if_pos h1) ?_
    exact key (.inl h1)
  · refine Ev.congr (fun k => if_neg h1) ?_
    by_cases h2 : kind = 2
    · have : (kind != 2) = false := by simp [h2]
      rw [this]
      exact key (.inr h2)
    · have : (kind != 2) = true := by simp [h2]
      rw [this]
      refine Ev.step (fun k => by simp only [journal_Encode.j0]; exact rfl) ?_
      refine Ev.congr (fun k => if_pos trivial) ?_
      unfold encE
      rw [if_neg (by omega)]
      exact Ev.now _

theorem encE_good {r : S37} (h : Jl.Good (toR r)) : encE r.f0 r.f1 = (strOfNums (encL (toR r).1 (toR r).2), 0) := by
  have h1 : r.f0 = 1 ∨ r.f0 = 2 := h.1
  have h2 : (bytesOf r.f1).length ≤ 1048576 := h.2.1
  rw [bytesOf_length] at h2
  unfold encE
  rw [if_pos h1, if_neg (by omega)]
  rfl

def encAll : List S37 → ByteArray → ByteArray × Int
  | [], b => (b, 0)
  | r :: l, b => if (encE r.f0 r.f1).2 = 0 then encAll l (b ++ (encE r.f0 r.f1).1) else (⟨#[]⟩, (encE r.f0 r.f1).2)

theorem encE_size (kind : Int) (p : ByteArray) : (encE kind p).1.size ≤ 1048585 := by
  unfold encE
  split
  · split
    · simp [ByteArray.size]
    · rw [str_size, encL_len, bytesOf_length]; omega
  · simp [ByteArray.size]

theorem penc_l0 (l : List S37) (hl : l.length ≤ 1000) : ∀ (d : Nat) (b : List Int) (i : Nat), i ≤ l.length → l.length - i = d → b.length ≤ i * 1048585 →
    Ev (fun k => journal_EncodeAll.l0 k b l (l.length : Int) (i : Int)) (encAll (l.drop i) (strOfNums b))
  | 0, b, i, hi, hd, hb => by
    refine Ev.step (fun k => by simp only [journal_EncodeAll.l0]; exact rfl) ?_
    refine Ev.congr (fun k => if_neg (by omega)) ?_
    rw [List.drop_eq_nil_of_le (by omega)]
    exact Ev.now _
  | d + 1, b, i, hi, hd, hb => by
    have hlt : i < l.length := by omega
    have e : rd_T37 l i = l[i] := by simp [rd_T37, hlt]
    rw [List.drop_eq_getElem_cons hlt]
    refine Ev.step (fun k => by simp only [journal_EncodeAll.l0]; exact rfl) ?_
    refine Ev.congr (fun k => if_pos (by omega)) ?_
    refine Ev.congr (fun k => if_pos (by omega)) ?_
    refine Ev.congr (fun k => if_pos (by omega)) ?_
    rw [e]
    refine Ev.bind (penc_f _ _) ?_
    have hs := encE_size l[i].f0 l[i].f1
    simp only [encAll]
    by_cases c : (encE l[i].f0 l[i].f1).2 = 0
    · refine Ev.congr (fun k => if_pos c) ?_
      rw [if_pos c, show wrap64 ((i : Int) + 1) = ((i + 1 : Nat) : Int) by unfold wrap64; omega]
      refine Ev.congr (fun k => if_pos (by omega)) ?_
      have := penc_l0 l hl d (b ++ bytesOf (encE l[i].f0 l[i].f1).1) (i + 1) (by omega) (by omega) (by rw [List.length_append, bytesOf_length]; omega)
      rw [str_app, str_bytesOf] at this
      exact this
    · refine Ev.congr (fun k => if_neg c) ?_
      rw [if_neg c]
      exact Ev.now _
theorem pencAll_f (l : List S37) (hl : l.length ≤ 1000) : Ev (fun k => journal_EncodeAll.f k l) (encAll l ⟨#[]⟩) :=
  penc_l0 l hl l.length [] 0 (by omega) (by omega) (by simp)

theorem encAll_good : ∀ (l : List S37) (b : ByteArray), (∀ r ∈ l, Jl.Good (toR r)) → encAll l b = (b ++ strOfNums (encAllL (l.map toR)), 0)
  | [], b, _ => by
    simp only [encAll, List.map_nil, encAllL]
    rw [show strOfNums [] = ByteArray.empty from rfl, ByteArray.append_empty]
  | r :: l, b, h => by
    simp only [encAll]
    rw [encE_good (h r (by simp)), if_pos rfl, encAll_good l _ (fun x hx => h x (by simp [hx]))]
    simp only [List.map_cons, encAllL]
    rw [str_app, ByteArray.append_assoc]

def text (l : List S37) : ByteArray := strOfNums (encAllL (l.map toR))
theorem encAll_text (l : List S37) (h : ∀ r ∈ l, Jl.Good (toR r)) : encAll l ⟨#[]⟩ = (text l, 0) := by
  rw [encAll_good l _ h]
  unfold text
  rw [show (⟨#[]⟩ : ByteArray) = ByteArray.empty from rfl, ByteArray.empty_append]
theorem text_bytes (l : List S37) (h : ∀ r ∈ l, Jl.Good (toR r)) : bytesOf (text l) = encAllL (l.map toR) := by
  unfold text
  refine bytesOf_str (encAllL_bytes ?_)
  intro r hr
  obtain ⟨q, hq, rfl⟩ := List.mem_map.1 hr
  exact h q hq

end Go.Proofs.Ytnaddmkaakdhoaa.J

end
section
namespace Go.Proofs.Ytnaddmkaakdhoaa.J
open Go.RowKit Go.Proofs.YtnaddmkaakdhoaaW.PrintWords Go.Proofs.YtnaddmkaakdhoaaW.PrintLast Go.Proofs.YtnaddmkaakdhoaaW.PrintMore
open Jl
set_option linter.unusedVariables false
set_option linter.unusedSimpArgs false

theorem mod_f (x n : Int) (h0 : 1 ≤ n) (h1 : n ≤ 1000000) : ∃ v, corporamade_Mod.f x n = some v ∧ 0 ≤ v ∧ v < n := by
  unfold corporamade_Mod.f
  rw [if_neg (by omega), if_neg (by omega)]
  have a := Int.tmod_lt_of_pos x (show 0 < n by omega)
  have b := Int.lt_tmod_of_pos x (show 0 < n by omega)
  by_cases c : Int.tmod x n < 0
  · rw [if_pos c]
    refine ⟨_, rfl, ?_⟩
    unfold wrap64
    omega
  · rw [if_neg c]
    exact ⟨_, rfl, by omega, a⟩

theorem tnext_f (l : List Int) (at_ n : Int) (hl : l.length ≤ 1000000) (h0 : 0 ≤ at_) (hn0 : 1 ≤ n) (hn1 : n ≤ 1000000) : ∃ v a', corporamade_Tape_Next.f l at_ n = some (v, a') ∧ 0 ≤ v ∧ v < n ∧ 0 ≤ a' := by
  unfold corporamade_Tape_Next.f
  by_cases c : at_ ≥ (l.length : Int)
  · rw [if_pos c]
    exact ⟨0, at_, rfl, by omega, by omega, h0⟩
  · rw [if_neg c]
    have e : wrap64 (wrap64 (at_ + 1) - 1) = at_ := by unfold wrap64; omega
    rw [e, if_pos h0, if_pos (by omega)]
    obtain ⟨v, hv, a, b⟩ := mod_f (rd l at_) n hn0 hn1
    rw [hv]
    simp only [Option.bind_some]
    exact ⟨v, _, rfl, a, b, by unfold wrap64; omega⟩

def Small (r : S37) : Prop := (r.f0 = 1 ∨ r.f0 = 2) ∧ r.f1.size ≤ 7

theorem rec_l1 (l : List Int) (hl : l.length ≤ 1000000) (c : Int) (hc : 0 ≤ c) (hc1 : c ≤ 1000) (M : Nat)
    (P0 : ∀ (x5 : List S37) (a : Int), 0 ≤ a → x5.length ≤ M + 1 → (∀ r ∈ x5, Small r) → ∃ x a', Ev (fun k => corporalaw40_records.l0 k x5 c l a) (x, a') ∧ 0 ≤ a' ∧ (∀ r ∈ x, Small r) ∧ x.length ≤ x5.length + c.toNat)
    (x5 : List S37) (hx5 : x5.length ≤ M) (hM : M ≤ 1000) (hs : ∀ r ∈ x5, Small r) (kind : Int) (hk : kind = 1 ∨ kind = 2) :
    ∀ (j : Nat) (a : Int) (pay : ByteArray), 0 ≤ a → pay.size + j ≤ 7 → ∃ x a', Ev (fun k => corporalaw40_records.l1 k x5 (c + 1) (j : Int) l a kind pay) (x, a') ∧ 0 ≤ a' ∧ (∀ r ∈ x, Small r) ∧ x.length ≤ x5.length + 1 + c.toNat
  | 0, a, pay, ha, hp => by
    have hs' : ∀ r ∈ x5 ++ [(⟨kind, pay⟩ : S37)], Small r := by
      intro r hr
      rcases List.mem_append.1 hr with h | h
      · exact hs r h
      · rw [List.mem_singleton.1 h]
        exact ⟨hk, by simpa using hp⟩
    obtain ⟨x, a', h1, h2, h3, h4⟩ := P0 (x5 ++ [(⟨kind, pay⟩ : S37)]) a ha (by simp; omega) hs'
    refine ⟨x, a', ?_, h2, h3, by simp at h4; omega⟩
    refine Ev.step (fun k => by simp only [corporalaw40_records.l1]; exact rfl) ?_
    refine Ev.congr (fun k => if_neg (by omega)) ?_
    refine Ev.congr (fun k => if_pos (by omega)) ?_
    rw [show wrap64 (c + 1 - 1) = c by unfold wrap64; omega]
    exact h1
  | j + 1, a, pay, ha, hp => by
    obtain ⟨v, a1, hv, v0, v1, ha1⟩ := tnext_f l a 6 hl ha (by omega) (by omega)
    obtain ⟨x, a', h1, h2⟩ := rec_l1 l hl c hc hc1 M P0 x5 hx5 hM hs kind hk j a1 (pay ++ strOfNums [(rd [0, 1, 97, 98, 255, 128] v) % 256]) ha1 (by rw [ByteArray.size_append, strOfNums_size]; simp; omega)
    refine ⟨x, a', ?_, h2⟩
    refine Ev.step (fun k => by simp only [corporalaw40_records.l1]; exact rfl) ?_
    refine Ev.congr (fun k => if_pos (by omega)) ?_
    rw [hv]
    simp only [Option.bind_some]
    refine Ev.congr (fun k => if_pos v0) ?_
    refine Ev.congr (fun k => if_pos (by simp; omega)) ?_
    refine Ev.congr (fun k => if_pos (by rw [strOfNums_size]; simp; omega)) ?_
    rw [show wrap64 (((j + 1 : Nat) : Int) - 1) = (j : Int) by unfold wrap64; omega]
    exact h1

theorem rec_l0 (l : List Int) (hl : l.length ≤ 1000000) : ∀ (c : Nat) (x5 : List S37) (a : Int), c + x5.length ≤ 1000 → 0 ≤ a → (∀ r ∈ x5, Small r) →
    ∃ x a', Ev (fun k => corporalaw40_records.l0 k x5 (c : Int) l a) (x, a') ∧ 0 ≤ a' ∧ (∀ r ∈ x, Small r) ∧ x.length ≤ x5.length + c
  | 0, x5, a, hc, ha, hs => by
    refine ⟨x5, a, ?_, ha, hs, by omega⟩
    refine Ev.step (fun k => by simp only [corporalaw40_records.l0]; exact rfl) ?_
    refine Ev.congr (fun k => if_neg (by omega)) ?_
    exact Ev.now _
  | c + 1, x5, a, hc, ha, hs => by
    obtain ⟨v, a1, hv, v0, v1, ha1⟩ := tnext_f l a 2 hl ha (by omega) (by omega)
    obtain ⟨u, a2, hu, u0, u1, ha2⟩ := tnext_f l a1 8 hl ha1 (by omega) (by omega)
    obtain ⟨j, rfl⟩ := Int.eq_ofNat_of_zero_le u0
    obtain ⟨x, a', h1, h2, h3, h4⟩ := rec_l1 l hl c (by omega) (by omega) x5.length (fun y b hb hy hsy => by
      obtain ⟨x, a', g1, g2, g3, g4⟩ := rec_l0 l hl c y b (by omega) hb hsy
      exact ⟨x, a', g1, g2, g3, by omega⟩) x5 (Nat.le_refl _) (by omega) hs (wrap64 (1 + v)) (by unfold wrap64; omega) j a2 (⟨#[]⟩ : ByteArray) ha2 (by simp [ByteArray.size]; omega)
    refine ⟨x, a', ?_, h2, h3, by omega⟩
    refine Ev.step (fun k => by simp only [corporalaw40_records.l0]; exact rfl) ?_
    refine Ev.congr (fun k => if_pos (by omega)) ?_
    rw [hv]
    simp only [Option.bind_some]
    rw [hu]
    simp only [Option.bind_some]
    exact h1

theorem records_f (l : List Int) (hl : l.length ≤ 1000000) (a most : Int) (ha : 0 ≤ a) (h0 : 0 ≤ most) (h1 : most ≤ 900) :
    ∃ x a', Ev (fun k => corporalaw40_records.f k l a most) (x, a') ∧ 0 ≤ a' ∧ (∀ r ∈ x, Small r) ∧ x.length ≤ most := by
  unfold corporalaw40_records.f
  rw [show wrap64 (most + 1) = most + 1 by unfold wrap64; omega]
  obtain ⟨v, a1, hv, v0, v1, ha1⟩ := tnext_f l a (most + 1) hl ha (by omega) (by omega)
  obtain ⟨c, rfl⟩ := Int.eq_ofNat_of_zero_le v0
  obtain ⟨x, a', g1, g2, g3, g4⟩ := rec_l0 l hl c [] a1 (by simp; omega) ha1 (by simp)
  refine ⟨x, a', ?_, g2, g3, by simp at g4; omega⟩
  rw [hv]
  simp only [Option.bind_some]
  exact g1

theorem new_f (l : List Int) : ∃ m, corporamade_New.f l = some (m, 0) ∧ m.length ≤ 120 := by
  unfold corporamade_New.f
  by_cases c : (l.length : Int) > 120
  · rw [if_pos c, if_pos (by omega)]
    exact ⟨_, rfl, by rw [List.length_take]; omega⟩
  · rw [if_neg c]
    exact ⟨l, rfl, by omega⟩

theorem small_good {r : S37} (h : Small r) : Jl.Good (toR r) := ⟨h.1, by show (bytesOf r.f1).length ≤ _; rw [bytesOf_length]; have := h.2; omega, bytesOf_bytes _⟩

theorem text_size : ∀ (x : List S37), (∀ r ∈ x, Small r) → (encAllL (x.map toR)).length ≤ 16 * x.length
  | [], _ => by simp [encAllL]
  | r :: x, h => by
    have ih := text_size x fun y hy => h y (by simp [hy])
    have hr := (h r (by simp)).2
    simp only [List.map_cons, encAllL, List.length_append, encL_len, List.length_cons]
    have : (toR r).2.length = r.f1.size := bytesOf_length _
    omega

end Go.Proofs.Ytnaddmkaakdhoaa.J

end
section
namespace Go.Proofs.Ytnaddmkaakdhoaa.J
open Go.RowKit Go.Proofs.YtnaddmkaakdhoaaW.PrintWords Go.Proofs.YtnaddmkaakdhoaaW.PrintLast Go.Proofs.YtnaddmkaakdhoaaW.PrintMore
open Jl
set_option linter.unusedVariables false
set_option linter.unusedSimpArgs false

def scanAll (s : ByteArray) : List S37 × Int × Int := ((scanL s.size s 0).map (·.2), scanEnd s, scanState (s.extract (scanEnd s).toNat s.size))
theorem scan_f (s : ByteArray) (h : s.size ≤ 1099511627776) : journal_Scan.f s = some (scanAll s) := by
  unfold journal_Scan.f
  rw [if_pos h]
  rfl
theorem same_l0 (x : List S37) (hx : x.length ≤ 1099511627776) : ∀ (d i : Nat), i ≤ x.length → x.length - i = d → Ev (fun k => corporaref40_Same.l0 k x x (x.length : Int) (i : Int)) true
  | 0, i, hi, hd => by
    refine Ev.step (fun k => by simp only [corporaref40_Same.l0]; exact rfl) ?_
    refine Ev.congr (fun k => if_neg (by omega)) ?_
    exact Ev.now _
  | d + 1, i, hi, hd => by
    refine Ev.step (fun k => by simp only [corporaref40_Same.l0]; exact rfl) ?_
    refine Ev.congr (fun k => if_pos (by omega)) ?_
    refine Ev.congr (fun k => if_pos (by omega)) ?_
    refine Ev.congr (fun k => if_pos (by omega)) ?_
    refine Ev.congr (fun k => if_pos (by omega)) ?_
    refine Ev.congr (fun k => if_neg (by simp)) ?_
    rw [show wrap64 ((i : Int) + 1) = ((i + 1 : Nat) : Int) by unfold wrap64; omega]
    exact same_l0 x hx d (i + 1) (by omega) (by omega)
theorem same_f (x : List S37) (hx : x.length ≤ 1099511627776) : Ev (fun k => corporaref40_Same.f k x x) true := by
  unfold corporaref40_Same.f
  refine Ev.congr (fun k => if_pos rfl) ?_
  exact same_l0 x hx x.length 0 (by omega) (by omega)

theorem known_f : Ev (fun k => corporalaw40_known.f k) true := by
  unfold corporalaw40_known.f
  rw [scan_f _ (by decide)]
  simp only [Option.bind_some]
  refine Ev.bind (penc_f _ _) ?_
  have e0 : encE 2 (⟨#[116]⟩ : ByteArray) = ((encE 2 (⟨#[116]⟩ : ByteArray)).1, 0) := rfl
  have hs : (encE 2 (⟨#[116]⟩ : ByteArray)).1.size = 10 := rfl
  rw [e0]
  dsimp only
  rw [scan_f _ (by omega)]
  simp only [Option.bind_some]
  obtain ⟨E, hE⟩ : ∃ E, (encE 2 (⟨#[116]⟩ : ByteArray)).1 = E := ⟨_, rfl⟩
  have a1 : ((scanAll (⟨#[0, 0, 0, 0, 0, 0, 0, 0, 0]⟩ : ByteArray)).1.length : Int) = 0 := by decide +kernel
  have a2 : (scanAll (⟨#[0, 0, 0, 0, 0, 0, 0, 0, 0]⟩ : ByteArray)).2.1 = 0 := by decide +kernel
  have a3 : (scanAll (⟨#[0, 0, 0, 0, 0, 0, 0, 0, 0]⟩ : ByteArray)).2.2 = 1 := by decide +kernel
  have b1 : ((scanAll (encE 2 (⟨#[116]⟩ : ByteArray)).1).1.length : Int) = 1 := by decide +kernel
  have b2 : (scanAll (encE 2 (⟨#[116]⟩ : ByteArray)).1).2.1 = 10 := by decide +kernel
  have b3 : (scanAll (encE 2 (⟨#[116]⟩ : ByteArray)).1).2.2 = 0 := by decide +kernel
  rw [hE] at b1 b2 b3 hs ⊢
  refine Ev.congr (fun k => if_pos a1) ?_
  refine Ev.congr (fun k => if_pos a2) ?_
  refine Ev.congr (fun k => if_pos a3) ?_
  refine Ev.congr (fun k => if_pos trivial) ?_
  refine Ev.congr (fun k => if_pos (by omega)) ?_
  refine Ev.congr (fun k => if_pos b1) ?_
  refine Ev.congr (fun k => if_pos b2) ?_
  rw [b3]
  exact Ev.now _

end Go.Proofs.Ytnaddmkaakdhoaa.J

end
section
namespace Go.Proofs.Ytnaddmkaakdhoaa.J
open Go.RowKit Go.Proofs.YtnaddmkaakdhoaaW.PrintWords Go.Proofs.YtnaddmkaakdhoaaW.PrintLast Go.Proofs.YtnaddmkaakdhoaaW.PrintMore
open Jl
set_option linter.unusedVariables false
set_option linter.unusedSimpArgs false

theorem map_toR_inj {a b : List S37} (h : a.map toR = b.map toR) : a = b := (List.map_inj_right (fun _ _ e => toR_inj e)).1 h

theorem scan_begin (x : List S37) (hx : ∀ r ∈ x, Jl.Good (toR r)) (s : ByteArray) (rest : List Int) (hs : bytesOf s = encAllL (x.map toR) ++ rest) (hn : nextL rest = none) :
    (scanAll s).1 = x ∧ (scanAll s).2.1 = (encAllL (x.map toR)).length := by
  obtain ⟨h1, h2⟩ := scan_is s
  have hg : ∀ r ∈ x.map toR, Jl.Good r := by
    intro r hr
    obtain ⟨q, hq, rfl⟩ := List.mem_map.1 hr
    exact hx q hq
  have hlen : ∀ (y : List (Int × List Int)), y.length ≤ (encAllL y).length := by
    intro y
    induction y with
    | nil => simp [encAllL]
    | cons r y ih => simp only [encAllL, List.length_append, encL_len, List.length_cons]; omega
  have hl : (x.map toR).length ≤ s.size := by
    have e := congrArg List.length hs
    rw [bytesOf_length, List.length_append] at e
    have := hlen (x.map toR)
    omega
  rw [hs, scan_pre _ _ _ hg hl, scan_stop hn, List.append_nil] at h1 h2
  exact ⟨map_toR_inj h1, h2⟩

theorem scanAll_state (s : ByteArray) : (scanAll s).2.2 = scanState (s.extract (scanAll s).2.1.toNat s.size) := rfl
end Go.Proofs.Ytnaddmkaakdhoaa.J

end
section
namespace Go.Proofs.Ytnaddmkaakdhoaa.Jl
open Crc (Byte)
set_option linter.unusedVariables false

def Torn (R : List Int) : Prop := R = [] ∨ R.length < 9 ∨ (R.length : Int) < 9 + dec4 R ∨ R.getLast? = some 0

theorem zeros_bytes (z : Nat) : Bytes (List.replicate z 0) := by
  intro c hc
  rw [List.eq_of_mem_replicate hc]
  unfold Byte
  omega

theorem dec4_prefix {a b a' b' : List Int} (h : 4 ≤ a.length) (e : a.take 4 = a'.take 4) (h' : 4 ≤ a'.length) : dec4 (a ++ b) = dec4 (a' ++ b') := by
  match a, h, a', h' with
  | x :: y :: u :: v :: t, _, x' :: y' :: u' :: v' :: t', _ =>
    simp only [List.take_succ_cons, List.take_zero, List.cons.injEq, and_true] at e
    obtain ⟨rfl, rfl, rfl, rfl⟩ := e
    rfl

theorem dec4_enc (k : Int) (p r : List Int) (h : p.length ≤ 1048576) : dec4 (encL k p ++ r) = p.length := by
  unfold encL
  rw [List.append_assoc, List.append_assoc]
  exact dec4_be4 _ (by omega) (by omega) _

theorem touched {k k' : Int} {p p' A B rest : List Int} (hp : p.length ≤ 1048576) (hp' : p'.length ≤ 1048576) (hb : Bytes p) (hk : Byte k) (hb' : Bytes p') (hk' : k' = 1 ∨ k' = 2)
    (hA : 5 ≤ A.length) (hB : B.length ≤ 4) (e : encL k p = A ++ B) (e' : encL k' p' ++ rest = A ++ List.replicate B.length 0 ++ rest) (hl : p.length = p'.length) : encL k' p' = encL k p := by
  have e1 : encL k' p' = A ++ List.replicate B.length 0 := List.append_cancel_right e'
  have l1 := congrArg List.length e
  have l2 := congrArg List.length e1
  rw [encL_len, List.length_append] at l1
  have hsplit : ∀ (k : Int) (p : List Int), encL k p = (be4 p.length ++ be4 (Crc.sum (k :: p))) ++ (k :: p) := fun _ _ => rfl
  have h8 : ∀ (n m : Int), (be4 n ++ be4 m).length = 8 := fun _ _ => rfl
  by_cases c : 8 ≤ A.length
  · -- the sums are the same
    have t1 : (be4 p.length ++ be4 (Crc.sum (k :: p))) = A.take 8 := by
      have := congrArg (List.take 8) e
      rw [hsplit, List.take_left' (h8 _ _), List.take_append_of_le_length c] at this
      exact this
    have t2 : (be4 p'.length ++ be4 (Crc.sum (k' :: p'))) = A.take 8 := by
      have := congrArg (List.take 8) e1
      rw [hsplit, List.take_left' (h8 _ _), List.take_append_of_le_length c] at this
      exact this
    have d1 : k :: p = A.drop 8 ++ B := by
      have := congrArg (List.drop 8) e
      rw [hsplit, List.drop_left' (h8 _ _), List.drop_append_of_le_length c] at this
      exact this
    have d2 : k' :: p' = A.drop 8 ++ List.replicate B.length 0 := by
      have := congrArg (List.drop 8) e1
      rw [hsplit, List.drop_left' (h8 _ _), List.drop_append_of_le_length c] at this
      exact this
    have hsum : Crc.sum (k :: p) = Crc.sum (k' :: p') := by
      have e3 := t1.trans t2.symm
      have e4 := (List.append_inj e3 rfl).2
      have b1 := Crc.sum_bound (k :: p)
      have b2 := Crc.sum_bound (k' :: p')
      have := dec4_be4 (Crc.sum (k :: p)) b1.1 b1.2 []
      rw [e4, dec4_be4 _ b2.1 b2.2] at this
      exact this.symm
    have hBb : Bytes B := by
      have : Bytes (k :: p) := by
        intro c hc
        rcases List.mem_cons.1 hc with rfl | hc
        · exact hk
        · exact hb c hc
      rw [d1] at this
      exact bytes_right this
    rw [d1, d2] at hsum
    have hBz := Crc.sum_tail (p := A.drop 8) (l := B) (m := List.replicate B.length 0) (by simp) hB hBb (zeros_bytes _) hsum
    rw [e1, e, ← hBz]
  · -- the kind became zero
    exfalso
    have g : (encL k' p')[8]? = some k' := by
      rw [hsplit, List.getElem?_append_right (by rw [h8]; omega), h8]
      rfl
    rw [e1, List.getElem?_append_right (by omega), List.getElem?_replicate] at g
    split at g
    · simp only [Option.some.injEq] at g
      omega
    · cases g

theorem torn_scan : ∀ (X : List (Int × List Int)) (n z : Nat), (∀ r ∈ X, Good r) → n ≤ (encAllL X).length → z ≤ n → z ≤ 4 →
    ∃ (j : Nat) (R : List Int), j ≤ X.length ∧ (encAllL X).take (n - z) ++ List.replicate z 0 = encAllL (X.take j) ++ R ∧ nextL R = none ∧ Torn R ∧ (encAllL (X.take j)).length ≤ n ∧ (j < X.length → n - z < (encAllL (X.take (j + 1))).length)
  | [], n, z, _, hn, hz, h4 => by
    simp only [encAllL, List.length_nil] at hn
    obtain rfl : n = 0 := by omega
    obtain rfl : z = 0 := by omega
    exact ⟨0, [], by simp, by simp [encAllL], next_short (by simp), .inl rfl, by simp [encAllL], by simp⟩
  | r :: X, n, z, hg, hn, hz, h4 => by
    obtain ⟨k, p⟩ := r
    have hr := hg (k, p) (by simp)
    have hk : k = 1 ∨ k = 2 := hr.1
    have hp : p.length ≤ 1048576 := hr.2.1
    have hb : Bytes p := hr.2.2
    have hkb : Byte k := by unfold Byte; rcases hk with e | e <;> rw [e] <;> omega
    have hlen := encL_len k p
    simp only [encAllL, List.length_append] at hn
    by_cases c : (encL k p).length ≤ n - z
    · -- the record is whole
      obtain ⟨j, R, h1, h2, h3, h4', h5, h6⟩ := torn_scan X (n - (encL k p).length) z (fun x hx => hg x (by simp [hx])) (by omega) (by omega) h4
      refine ⟨j + 1, R, by simpa using h1, ?_, h3, h4', ?_, ?_⟩
      · simp only [encAllL, List.take_succ_cons]
        rw [List.take_append, List.take_of_length_le c, List.append_assoc, List.append_assoc, ← h2]
        congr 3
        omega
      · simp only [encAllL, List.take_succ_cons, List.length_append]; omega
      · intro hj
        have := h6 (by simpa using hj)
        simp only [encAllL, List.take_succ_cons, List.length_append] at this ⊢
        omega
    · -- it is touched
      have hD : (encAllL ((k, p) :: X)).take (n - z) = (encL k p).take (n - z) := by
        simp only [encAllL]
        rw [List.take_append_of_le_length (by omega)]
      have hDl : ((encL k p).take (n - z)).length = n - z := by rw [List.length_take]; omega
      have hlast : 0 < z → ((encL k p).take (n - z) ++ List.replicate z 0).getLast? = some 0 := by
        intro h
        obtain ⟨y, rfl⟩ : ∃ y, z = y + 1 := ⟨z - 1, by omega⟩
        rw [List.replicate_succ', ← List.append_assoc, List.getLast?_append]
        simp
      rw [hD]
      cases hnx : nextL ((encL k p).take (n - z) ++ List.replicate z 0) with
      | none =>
        refine ⟨0, _, by simp, by simp [encAllL], hnx, ?_, by simp [encAllL], ?_⟩
        · by_cases hz0 : 0 < z
          · exact .inr (.inr (.inr (hlast hz0)))
          · obtain rfl : z = 0 := by omega
            simp only [List.replicate_zero, List.append_nil, Nat.sub_zero] at *
            by_cases h9 : n < 9
            · exact .inr (.inl (by omega))
            · refine .inr (.inr (.inl ?_))
              have e := dec4_prefix (a := (encL k p).take n) (b := []) (a' := encL k p) (b' := []) (by omega) (by rw [List.take_take]; congr 1; omega) (by omega)
              rw [List.append_nil, dec4_enc k p [] hp] at e
              rw [e]
              omega
        · intro _
          simp only [encAllL, List.take_succ_cons, List.length_append]
          omega
      | some q =>
        obtain ⟨k', p'⟩ := q
        have hbD : Bytes ((encL k p).take (n - z) ++ List.replicate z 0) := bytes_app (fun c hc => encL_bytes hkb hb c (List.mem_of_mem_take hc)) (zeros_bytes z)
        obtain ⟨hk', hp', hb', rest, e⟩ := next_some hbD hnx
        have el := congrArg List.length e
        rw [List.length_append, List.length_append, hDl, List.length_replicate, encL_len] at el
        have ed : (p'.length : Int) = p.length := by
          have e2 := dec4_prefix (a := (encL k p).take (n - z)) (b := List.replicate z 0) (a' := encL k p) (b' := []) (by omega) (by rw [List.take_take]; congr 1; omega) (by omega)
          rw [e, dec4_enc k' p' _ hp', dec4_enc k p [] hp] at e2
          exact e2
        have hB : ((encL k p).drop (n - z)).length = 9 + p.length - (n - z) := by rw [List.length_drop, encL_len]
        have hzz : List.replicate z (0 : Int) = List.replicate ((encL k p).drop (n - z)).length 0 ++ List.replicate (z - ((encL k p).drop (n - z)).length) 0 := by
          rw [List.replicate_append_replicate]
          congr 1
          omega
        have hrest : rest = List.replicate (z - ((encL k p).drop (n - z)).length) 0 := by
          have e3 := e
          rw [hzz, ← List.append_assoc] at e3
          exact (List.append_inj e3.symm (by rw [encL_len, List.length_append, hDl, List.length_replicate]; omega)).2
        have hsame := touched (A := (encL k p).take (n - z)) (B := (encL k p).drop (n - z)) (rest := rest) hp hp' hb hkb hb' hk' (by omega) (by omega) (List.take_append_drop _ _).symm (by
          rw [← e, hzz, ← List.append_assoc, hrest]) (by omega)
        refine ⟨1, rest, by simp, ?_, next_short ?_, ?_, ?_, ?_⟩
        · rw [e, hsame]
          simp [encAllL]
        · rw [hrest, List.length_replicate]; omega
        · refine .inr (.inl ?_)
          rw [hrest, List.length_replicate]; omega
        · simp only [List.take_succ_cons, List.take_zero, encAllL, List.append_nil]
          omega
        · intro h1
          simp only [List.length_cons] at h1
          match X, h1 with
          | _ :: _, _ =>
            simp only [List.take_succ_cons, List.take_zero, encAllL, List.append_nil, List.length_append]
            omega

end Go.Proofs.Ytnaddmkaakdhoaa.Jl

end
