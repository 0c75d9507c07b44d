/-
  Texts of this claim, joined, without what the claim does not use: XL13
-/
import Derived.Test.YtnaddmkaakdhoaaSDEj
section
namespace Go.Proofs.Ytnaddmkaakdhoaa.J
open Go.RowKit Go.Proofs.YtnaddmkaakdhoaaW.PrintWords Go.Proofs.YtnaddmkaakdhoaaW.PrintLast Go.Proofs.YtnaddmkaakdhoaaW.PrintMore
open Dk (Srt pos has valid app appAll applyAll Valid ent)
set_option linter.unusedVariables false
set_option linter.unusedSimpArgs false
attribute [local go_sem ↓] Go.wp_at_zero Go.wp_at_succ
theorem Ci_take {w : World} {A : Option Addr} {n : Nat} {l : List Int} (h : Kd.C (Kd.int .i64) w A l.length l) (hm : n ≤ l.length) : Kd.C (Kd.int .i64) w A (l.take n).length (l.take n) := by
  have hl : (l.take n).length = n := by rw [List.length_take]; omega
  refine ⟨rfl, by have := h.2.1; omega, fun h0 => ?_⟩
  obtain ⟨ad, e, hc⟩ := h.2.2 (by omega)
  refine ⟨ad, e, fun j p hj => hc j p ?_⟩
  have hjn : j < (l.take n).length := (List.getElem?_eq_some_iff.1 hj).1
  rw [List.getElem?_take] at hj
  rw [if_pos (by omega)] at hj
  exact hj
theorem crash41_n (a : Value) (d : Dsk) (A4 : Option Addr) (c4 : Nat) (cs : List Int) (n : Nat) (hn : cs.length = n) (w : World) (hd : DC w a d) (hr : Kd.C (Kd.int .i64) w A4 cs.length cs) (hc : n ≤ c4) (hs : Sml 40000 d) :
    Calls Try.prog 41 #[a, .slice A4 n c4] w fun e w' => ∃ v, e = .returned v ∧ DR w' w.heap.size v (Dk.crash d cs) ∧ Below w.heap.size w w' := by
  subst hn
  exact crash_calls a d A4 c4 cs w hd hr hc hs
theorem crash42_n (a : Value) (d : Dsk) (A4 : Option Addr) (c4 : Nat) (cs : List Int) (n : Nat) (hn : cs.length = n) (w : World) (hd : DC w a d) (hr : Kd.C (Kd.int .i64) w A4 cs.length cs) (hc : n ≤ c4) (hs : Sml 20000 d) :
    Calls Try.prog 42 #[a, .slice A4 n c4] w fun e w' => ∃ v, e = .returned v ∧ DR w' w.heap.size v (Dk.crash d cs) ∧ Below w.heap.size w w' := by
  subst hn
  exact crash42_calls a d A4 c4 cs w hd hr hc hs
set_option maxHeartbeats 8000000 in
set_option maxRecDepth 100000 in
theorem diskCrashes_calls (A0 : Option Addr) (c0 : Nat) (l0 : List Int) (A1 : Option Addr) (c1 : Nat) (l1 : List Int) (w : World) (hr0 : Kd.C (Kd.int .i64) w A0 l0.length l0) (hc0 : l0.length ≤ c0) (hr1 : Kd.C (Kd.int .i64) w A1 l1.length l1) (hc1 : l1.length ≤ c1) :
    Calls Try.prog 13 #[.slice A0 l0.length c0, .slice A1 l1.length c1] w fun e w' => e = .returned (.bool true) ∧ Below w.heap.size w w' := by
  obtain ⟨m, hm, hml⟩ := new_f l0
  have R1 := Aside0.mk hr1
  have hl1 : l1.length ≤ 9223372036854775807 := hr1.2.1
  go_enter Try.func13, Try.ntmps13
  go_wp2_with fail
  refine (corporamade_New.calls A0 c0 l0 m 0 w w (Below.refl _ _) hr0 hc0 hm).mono ?_
  rintro e w1 ⟨g, rfl, h1, h2, _⟩
  have HT1 := Aside0.mk (show Tp w w1 g from ⟨m, 0, h1, hml, Int.le_refl _⟩)
  have HB1 := Aside0.mk h2
  clear h1 h2 hm hml hr0 hc0 hr1
  go_wp2_with fail
  refine (build45_calls g 14 w w1 HT1.out HB1.out (by omega) (by omega)).mono ?_
  rintro e w2 ⟨v, d, rfl, h1, h2, h3, h4, h5, h6⟩
  have CD := Aside0.mk h1
  have HV := Aside0.mk h2
  have HS := Aside0.mk h3
  have HB := Aside0.mk h5
  clear h1 h2 h3 h4 h5 h6 HT1 HB1
  obtain ⟨F0, f0, F1, f1, F2, f2, F3, f3, rfl, -⟩ := id CD.out
  go_upto_region 2 with fail
  obtain ⟨ob1, hob1⟩ : ∃ q : Obj, q = .cells #[.slice F0 d.ino.length f0, .slice F1 d.dir.length f1, .slice F2 d.dur.length f2, .slice F3 d.ops.length f3] 47 := ⟨_, rfl⟩
  rw [← hob1]
  obtain ⟨X, hX⟩ : ∃ q, q = w2.heap.size := ⟨_, rfl⟩
  have bb := below_alloc (Below.refl w2.heap.size w2) ob1
  have kk := blk_new w2 ob1
  rw [← hX] at kk ⊢
  have HB_ := Aside0.mk (below_step HB.out bb)
  have CD_ := Aside0.mk (CD.out.below bb)
  clear HB
  have HB := HB_
  clear HB_
  clear CD
  have CD := CD_
  clear CD_
  have KX := Aside0.mk kk
  clear bb kk
  generalize w2.alloc ob1 = wa1 at HB CD KX ⊢
  subst hob1
  clear hX
  by_cases hbig : (30 : Int) < (l1.length : Int)
  · obtain ⟨cs, hln, hcc, HR⟩ : ∃ cs : List Int, cs.length = 30 ∧ 30 ≤ c1 ∧ Aside0 (Kd.C (Kd.int .i64) w A1 cs.length cs) := ⟨l1.take 30, (by rw [List.length_take]; omega), (by omega), ⟨(Ci_take R1.out (by omega))⟩⟩
    have x0 := (blk_cell KX.out 0).trans rfl
    have x1 := (blk_cell KX.out 1).trans rfl
    have x2 := (blk_cell KX.out 2).trans rfl
    have x3 := (blk_cell KX.out 3).trans rfl
    go_wp2_with fail
    refine (crash41_n _ d A1 c1 cs 30 hln wa1 CD.out (Kd.C_below HR.out HB.out) hcc (HS.out.mono (by omega))).mono ?_
    rintro e w5 ⟨v5, rfl, h1, h2⟩
    have C5 := Aside0.mk h1.reads
    have HB5 := Aside0.mk (below_step HB.out h2)
    have D5 := Aside0.mk (CD.out.below h2)
    have K5 := Aside0.mk (blk_below KX.out h2)
    have V5 := Aside0.mk (Dk.valid_crash HV.out cs)
    have M5 := Aside0.mk (Dk.crash_sml HV.out cs HS.out)
    clear h1 h2 HB CD KX x0 x1 x2 x3
    have CR := Aside0.mk (fun W h1 h2 => crash42_n (.agg #[.slice F0 d.ino.length f0, .slice F1 d.dir.length f1, .slice F2 d.dur.length f2, .slice F3 d.ops.length f3]) d A1 c1 cs 30 hln W h1 h2 hcc (HS.out.mono (by omega)))
    obtain ⟨dc, hdc⟩ : ∃ dc, dc = Dk.crash d cs := ⟨_, rfl⟩
    rw [← hdc] at C5 V5 M5 CR
    clear hdc
    obtain ⟨H0, g0, H1, g1, H2, g2, H3, g3, rfl, -⟩ := id C5.out
    go_upto_region 5 with fail
    obtain ⟨ob21, hob21⟩ : ∃ q : Obj, q = .cells #[.slice H0 dc.ino.length g0, .slice H1 dc.dir.length g1, .slice H2 dc.dur.length g2, .slice H3 dc.ops.length g3] 47 := ⟨_, rfl⟩
    rw [← hob21]
    obtain ⟨Y, hY⟩ : ∃ q, q = w5.heap.size := ⟨_, rfl⟩
    have bb := below_alloc (Below.refl w5.heap.size w5) ob21
    have kk := blk_new w5 ob21
    rw [← hY] at kk ⊢
    have HB5_ := Aside0.mk (below_step HB5.out bb)
    have C5_ := Aside0.mk (C5.out.below bb)
    have D5_ := Aside0.mk (D5.out.below bb)
    have K5_ := Aside0.mk (blk_below K5.out bb)
    clear HB5
    have HB5 := HB5_
    clear HB5_
    clear C5
    have C5 := C5_
    clear C5_
    clear D5
    have D5 := D5_
    clear D5_
    clear K5
    have K5 := K5_
    clear K5_
    have KY := Aside0.mk kk
    clear bb kk
    generalize w5.alloc ob21 = wa21 at HB5 C5 D5 K5 KY ⊢
    subst hob21
    clear hY
    have x0 := (blk_cell K5.out 0).trans rfl
    have x1 := (blk_cell K5.out 1).trans rfl
    have x2 := (blk_cell K5.out 2).trans rfl
    have x3 := (blk_cell K5.out 3).trans rfl
    have y0 := (blk_cell KY.out 0).trans rfl
    have y1 := (blk_cell KY.out 1).trans rfl
    have y2 := (blk_cell KY.out 2).trans rfl
    have y3 := (blk_cell KY.out 3).trans rfl
    have TK1 := Aside0.mk trivial
    go_region_with
      (first
        | (clear TK1; go_at_call 42; refine (CR.out _ (D5.out.below (below_drew1 (Below.refl _ _))) (Kd.C_below HR.out (below_drew1 HB5.out))).mono ?_; rintro e w6 ⟨v6, rfl, h1, h2⟩; have b5 := below_step (below_drew1 (Below.refl wa21.heap.size wa21)) h2; have C6 := Aside0.mk h1.reads; have HB6 := Aside0.mk (below_step HB5.out b5); have E6 := Aside0.mk (C5.out.below b5); have K6 := Aside0.mk (blk_below KY.out b5); have q0 := (blk_cell K6.out 0).trans rfl; have q1 := (blk_cell K6.out 1).trans rfl; have q2 := (blk_cell K6.out 2).trans rfl; have q3 := (blk_cell K6.out 3).trans rfl; clear h1 h2 b5)
        | (go_at_call 37; refine (same37_calls _ _ dc w6 E6.out C6.out (M5.out.mono (by omega))).mono ?_; rintro e w7 ⟨rfl, h2⟩; have HB7 := Aside0.mk (below_step HB6.out h2); have E7 := Aside0.mk (E6.out.below h2); have K7 := Aside0.mk (blk_below K6.out h2); have r0 := (blk_cell K7.out 0).trans rfl; have r1 := (blk_cell K7.out 1).trans rfl; have r2 := (blk_cell K7.out 2).trans rfl; have r3 := (blk_cell K7.out 3).trans rfl; clear h2)
        | (go_at_call 35; refine (validate_calls _ dc w7 E7.out (M5.out.mono (by omega))).mono ?_; rintro e w8 ⟨rfl, h2⟩; rw [if_pos (Dk.valid_of.2 V5.out)]; have HB8 := Aside0.mk (below_step HB7.out h2); clear h2)
        | (go_at_call 43; refine (known43_calls w8).mono ?_; rintro e w9 ⟨rfl, h2⟩; have HB9 := Aside0.mk (below_step HB8.out h2); clear h2))
    all_goals
      go_wp2
      go_ret
      exact ⟨rfl, HB9.out⟩
  · obtain ⟨cs, hln, hcc, HR⟩ : ∃ cs : List Int, cs.length = l1.length ∧ l1.length ≤ c1 ∧ Aside0 (Kd.C (Kd.int .i64) w A1 cs.length cs) := ⟨l1, rfl, hc1, ⟨R1.out⟩⟩
    have x0 := (blk_cell KX.out 0).trans rfl
    have x1 := (blk_cell KX.out 1).trans rfl
    have x2 := (blk_cell KX.out 2).trans rfl
    have x3 := (blk_cell KX.out 3).trans rfl
    go_wp2_with fail
    refine (crash41_n _ d A1 c1 cs l1.length hln wa1 CD.out (Kd.C_below HR.out HB.out) hcc (HS.out.mono (by omega))).mono ?_
    rintro e w5 ⟨v5, rfl, h1, h2⟩
    have C5 := Aside0.mk h1.reads
    have HB5 := Aside0.mk (below_step HB.out h2)
    have D5 := Aside0.mk (CD.out.below h2)
    have K5 := Aside0.mk (blk_below KX.out h2)
    have V5 := Aside0.mk (Dk.valid_crash HV.out cs)
    have M5 := Aside0.mk (Dk.crash_sml HV.out cs HS.out)
    clear h1 h2 HB CD KX x0 x1 x2 x3
    have CR := Aside0.mk (fun W h1 h2 => crash42_n (.agg #[.slice F0 d.ino.length f0, .slice F1 d.dir.length f1, .slice F2 d.dur.length f2, .slice F3 d.ops.length f3]) d A1 c1 cs l1.length hln W h1 h2 hcc (HS.out.mono (by omega)))
    obtain ⟨dc, hdc⟩ : ∃ dc, dc = Dk.crash d cs := ⟨_, rfl⟩
    rw [← hdc] at C5 V5 M5 CR
    clear hdc
    obtain ⟨H0, g0, H1, g1, H2, g2, H3, g3, rfl, -⟩ := id C5.out
    go_upto_region 5 with fail
    obtain ⟨ob21, hob21⟩ : ∃ q : Obj, q = .cells #[.slice H0 dc.ino.length g0, .slice H1 dc.dir.length g1, .slice H2 dc.dur.length g2, .slice H3 dc.ops.length g3] 47 := ⟨_, rfl⟩
    rw [← hob21]
    obtain ⟨Y, hY⟩ : ∃ q, q = w5.heap.size := ⟨_, rfl⟩
    have bb := below_alloc (Below.refl w5.heap.size w5) ob21
    have kk := blk_new w5 ob21
    rw [← hY] at kk ⊢
    have HB5_ := Aside0.mk (below_step HB5.out bb)
    have C5_ := Aside0.mk (C5.out.below bb)
    have D5_ := Aside0.mk (D5.out.below bb)
    have K5_ := Aside0.mk (blk_below K5.out bb)
    clear HB5
    have HB5 := HB5_
    clear HB5_
    clear C5
    have C5 := C5_
    clear C5_
    clear D5
    have D5 := D5_
    clear D5_
    clear K5
    have K5 := K5_
    clear K5_
    have KY := Aside0.mk kk
    clear bb kk
    generalize w5.alloc ob21 = wa21 at HB5 C5 D5 K5 KY ⊢
    subst hob21
    clear hY
    have x0 := (blk_cell K5.out 0).trans rfl
    have x1 := (blk_cell K5.out 1).trans rfl
    have x2 := (blk_cell K5.out 2).trans rfl
    have x3 := (blk_cell K5.out 3).trans rfl
    have y0 := (blk_cell KY.out 0).trans rfl
    have y1 := (blk_cell KY.out 1).trans rfl
    have y2 := (blk_cell KY.out 2).trans rfl
    have y3 := (blk_cell KY.out 3).trans rfl
    have TK1 := Aside0.mk trivial
    go_region_with
      (first
        | (clear TK1; go_at_call 42; refine (CR.out _ (D5.out.below (below_drew1 (Below.refl _ _))) (Kd.C_below HR.out (below_drew1 HB5.out))).mono ?_; rintro e w6 ⟨v6, rfl, h1, h2⟩; have b5 := below_step (below_drew1 (Below.refl wa21.heap.size wa21)) h2; have C6 := Aside0.mk h1.reads; have HB6 := Aside0.mk (below_step HB5.out b5); have E6 := Aside0.mk (C5.out.below b5); have K6 := Aside0.mk (blk_below KY.out b5); have q0 := (blk_cell K6.out 0).trans rfl; have q1 := (blk_cell K6.out 1).trans rfl; have q2 := (blk_cell K6.out 2).trans rfl; have q3 := (blk_cell K6.out 3).trans rfl; clear h1 h2 b5)
        | (go_at_call 37; refine (same37_calls _ _ dc w6 E6.out C6.out (M5.out.mono (by omega))).mono ?_; rintro e w7 ⟨rfl, h2⟩; have HB7 := Aside0.mk (below_step HB6.out h2); have E7 := Aside0.mk (E6.out.below h2); have K7 := Aside0.mk (blk_below K6.out h2); have r0 := (blk_cell K7.out 0).trans rfl; have r1 := (blk_cell K7.out 1).trans rfl; have r2 := (blk_cell K7.out 2).trans rfl; have r3 := (blk_cell K7.out 3).trans rfl; clear h2)
        | (go_at_call 35; refine (validate_calls _ dc w7 E7.out (M5.out.mono (by omega))).mono ?_; rintro e w8 ⟨rfl, h2⟩; rw [if_pos (Dk.valid_of.2 V5.out)]; have HB8 := Aside0.mk (below_step HB7.out h2); clear h2)
        | (go_at_call 43; refine (known43_calls w8).mono ?_; rintro e w9 ⟨rfl, h2⟩; have HB9 := Aside0.mk (below_step HB8.out h2); clear h2))
    all_goals
      go_wp2
      go_ret
      exact ⟨rfl, HB9.out⟩
end Go.Proofs.Ytnaddmkaakdhoaa.J

end
