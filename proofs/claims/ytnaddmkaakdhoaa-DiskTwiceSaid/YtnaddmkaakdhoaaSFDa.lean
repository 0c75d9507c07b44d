/-
  Texts of this claim, joined, without what the claim does not use: XL14
-/
import Derived.Test.YtnaddmkaakdhoaaSDEj
section
namespace Go.Proofs.Ytnaddmkaakdhoaa.J
open Go.RowKit Go.Proofs.YtnaddmkaakdhoaaW.PrintWords Go.Proofs.YtnaddmkaakdhoaaW.PrintLast Go.Proofs.YtnaddmkaakdhoaaW.PrintMore
open Dk (Srt pos has valid app appAll applyAll Valid ent)
set_option linter.unusedVariables false
set_option linter.unusedSimpArgs false
attribute [local go_sem ↓] Go.wp_at_zero Go.wp_at_succ
set_option maxHeartbeats 8000000 in
set_option maxRecDepth 100000 in
theorem diskTwice_calls (A0 : Option Addr) (c0 : Nat) (l0 : List Int) (A1 : Option Addr) (c1 : Nat) (l1 : List Int) (A2 : Option Addr) (c2 : Nat) (l2 : List Int) (w : World) (hr0 : Kd.C (Kd.int .i64) w A0 l0.length l0) (hc0 : l0.length ≤ c0) (hr1 : Kd.C (Kd.int .i64) w A1 l1.length l1) (hc1 : l1.length ≤ c1) (hr2 : Kd.C (Kd.int .i64) w A2 l2.length l2) (hc2 : l2.length ≤ c2) :
    Calls Try.prog 14 #[.slice A0 l0.length c0, .slice A1 l1.length c1, .slice A2 l2.length c2] w fun e w' => e = .returned (.bool true) ∧ Below w.heap.size w w' := by
  obtain ⟨m, hm, hml⟩ := new_f l0
  have R1 := Aside0.mk hr1
  have R2 := Aside0.mk hr2
  go_enter Try.func14, Try.ntmps14
  go_wp2_with fail
  refine (corporamade_New.calls A0 c0 l0 m 0 w w (Below.refl _ _) hr0 hc0 hm).mono ?_
  rintro e w1 ⟨g, rfl, h1, h2, _⟩
  have HT1 := Aside0.mk (show Tp w w1 g from ⟨m, 0, h1, hml, Int.le_refl _⟩)
  have HB1 := Aside0.mk h2
  clear h1 h2 hm hml hr0 hc0 hr1 hr2
  go_wp2_with fail
  refine (build45_calls g 12 w w1 HT1.out HB1.out (by omega) (by omega)).mono ?_
  rintro e w2 ⟨v, d, rfl, h1, h2, h3, h4, h5, h6⟩
  have HD2 := Aside0.mk h1
  have HV := Aside0.mk h2
  have HS := Aside0.mk h3
  have HB2 := Aside0.mk h5
  clear h1 h2 h3 h4 h5 h6 HT1 HB1
  go_wp2_with fail
  refine (crash_calls v d A1 c1 l1 w2 HD2.out (Kd.C_below R1.out HB2.out) hc1 (HS.out.mono (by omega))).mono ?_
  rintro e w3 ⟨v1, rfl, h1, h2⟩
  have CD := Aside0.mk h1.reads
  have HB := Aside0.mk (below_step HB2.out h2)
  have h0 := Dk.crash_ops HV.out l1
  have TW := Aside0.mk (Dk.crash_twice HV.out l1 l2)
  have SM := Aside0.mk (Dk.crash_sml HV.out l1 HS.out)
  clear h1 h2 HD2 HB2
  obtain ⟨dc, hdc⟩ : ∃ dc, dc = Dk.crash d l1 := ⟨_, rfl⟩
  rw [← hdc] at CD h0 TW SM
  clear hdc
  obtain ⟨F0, f0, F1, f1, F2, f2, F3, f3, rfl, -⟩ := id CD.out
  have hz0 : dc.ops.length = 0 := by rw [h0]; rfl
  rw [hz0] at CD ⊢
  clear h0 hz0
  go_upto_region 2 with fail
  obtain ⟨ob1, hob1⟩ : ∃ q : Obj, q = .cells #[.slice F0 dc.ino.length f0, .slice F1 dc.dir.length f1, .slice F2 dc.dur.length f2, .slice F3 0 f3] 47 := ⟨_, rfl⟩
  rw [← hob1]
  obtain ⟨X, hX⟩ : ∃ q, q = w3.heap.size := ⟨_, rfl⟩
  have bb := below_alloc (Below.refl w3.heap.size w3) ob1
  have kk := blk_new w3 ob1
  rw [← hX] at kk ⊢
  have HB_ := Aside0.mk (below_step HB.out bb)
  have CD_ := Aside0.mk (CD.out.below bb)
  clear HB
  have HB := HB_
  clear HB_
  clear CD
  have CD := CD_
  clear CD_
  have KX := Aside0.mk kk
  clear bb kk
  generalize w3.alloc ob1 = wa1 at HB CD KX ⊢
  subst hob1
  clear hX
  have x0 := (blk_cell KX.out 0).trans rfl
  have x1 := (blk_cell KX.out 1).trans rfl
  have x2 := (blk_cell KX.out 2).trans rfl
  have x3 := (blk_cell KX.out 3).trans rfl
  have TK1 := Aside0.mk trivial
  go_region_with
    (first
      | (clear TK1; go_at_call 41; refine (crash_calls _ dc A2 c2 l2 _ (CD.out.below (below_drew1 (Below.refl _ _))) (Kd.C_below R2.out (below_drew1 HB.out)) hc2 (SM.out.mono (by omega))).mono ?_; rintro e w5 ⟨v5, rfl, h1, h2⟩; rw [TW.out] at h1; have C5 := Aside0.mk h1.reads; have b5 := below_step (below_drew1 (Below.refl wa1.heap.size wa1)) h2; have HB5 := Aside0.mk (below_step HB.out b5); have D5 := Aside0.mk (CD.out.below b5); have K5 := Aside0.mk (blk_below KX.out b5); have q0 := (blk_cell K5.out 0).trans rfl; have q1 := (blk_cell K5.out 1).trans rfl; have q2 := (blk_cell K5.out 2).trans rfl; have q3 : w5.cell? ⟨X, 3, none⟩ = some (.slice F3 0 f3) := (blk_cell K5.out 3).trans rfl; clear h1 h2 b5)
      | (go_at_call 37; refine (same37_calls _ _ dc w5 C5.out D5.out (SM.out.mono (by omega))).mono ?_; rintro e w6 ⟨rfl, h2⟩; have HB6 := Aside0.mk (below_step HB5.out h2); have K6 := Aside0.mk (blk_below K5.out h2); have r3 : w6.cell? ⟨X, 3, none⟩ = some (.slice F3 0 f3) := (blk_cell K6.out 3).trans rfl; clear h2)
      | (go_at_call 43; refine (known43_calls w6).mono ?_; rintro e w7 ⟨rfl, h2⟩; have HB7 := Aside0.mk (below_step HB6.out h2); clear h2))
  all_goals
    go_wp2
    go_ret
    exact ⟨rfl, HB7.out⟩
end Go.Proofs.Ytnaddmkaakdhoaa.J

end
