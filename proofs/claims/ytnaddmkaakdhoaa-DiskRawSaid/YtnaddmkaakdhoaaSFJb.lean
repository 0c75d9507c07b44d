/-
  Texts of this claim, joined, without what the claim does not use: XL7
-/
import Derived.Test.YtnaddmkaakdhoaaSFJa
section
namespace Go.Proofs.Ytnaddmkaakdhoaa.J
open Go.RowKit Go.Proofs.YtnaddmkaakdhoaaW.PrintWords Go.Proofs.YtnaddmkaakdhoaaW.PrintLast Go.Proofs.YtnaddmkaakdhoaaW.PrintMore
open Dk (Srt pos has valid app appAll applyAll Valid ent)
set_option linter.unusedVariables false
set_option linter.unusedSimpArgs false
theorem one_sml {d : Dsk} {o : S49} {k : Nat} (h : Sml k d) : Sml (k + 1) (applyAll d [o]).1 := by
  by_cases hv : valid d = true
  · rcases app_one (o := o) (Dk.valid_of.1 hv) with h2 | ⟨_, h2⟩
    · rw [h2]; exact Dk.Sml_app h o
    · rw [h2]; exact ⟨Nat.zero_le _, Nat.zero_le _, Nat.zero_le _, Nat.zero_le _⟩
  · unfold Dk.applyAll; rw [if_neg hv]; exact ⟨Nat.zero_le _, Nat.zero_le _, Nat.zero_le _, Nat.zero_le _⟩
theorem crash_sml2 {d : Dsk} {cs : List Int} {k : Nat} (h : Sml k d) : Sml (2 * k) (Dk.crash d cs) := by
  by_cases hv : valid d = true
  · exact Dk.crash_sml (Dk.valid_of.1 hv) cs h
  · unfold Dk.crash; rw [if_neg hv]; exact ⟨Nat.zero_le _, Nat.zero_le _, Nat.zero_le _, Nat.zero_le _⟩
theorem list_sml {d : Dsk} {k : Nat} (h : Sml k d) : (Dk.list d).length ≤ k := by
  unfold Dk.list
  split
  · rw [List.length_map]; exact h.2.1
  · exact Nat.zero_le _
set_option maxHeartbeats 8000000 in
set_option maxRecDepth 100000 in
theorem diskRaw_calls (a : Value) (d : Dsk) (o : S49) (A : Option Addr) (c : Nat) (cs : List Int) (w : World) (hd : DC w a d) (hz : o.f3.size ≤ 140737488355328) (hr : Kd.C (Kd.int .i64) w A cs.length cs) (hc : cs.length ≤ c) :
    Calls Try.prog 7 #[a, .agg #[.int .i64 o.f0, .string o.f1, .string o.f2, .string o.f3], .slice A cs.length c] w fun e w' => e = .returned (.bool true) ∧ Below w.heap.size w w' := by
  have CD0 := Aside0.mk hd
  obtain ⟨A0, c0, A1, c1, A2, c2, A3, c3, rfl, -⟩ := id hd
  have R1 := Aside0.mk hr
  clear hd hr
  go_enter Try.func7, Try.ntmps7
  go_upto_region 1 with fail
  obtain ⟨oD, hoD⟩ : ∃ q : Obj, q = .cells #[.slice A0 d.ino.length c0, .slice A1 d.dir.length c1, .slice A2 d.dur.length c2, .slice A3 d.ops.length c3] 47 := ⟨_, rfl⟩
  obtain ⟨oO, hoO⟩ : ∃ q : Obj, q = .cells #[.int .i64 o.f0, .string o.f1, .string o.f2, .string o.f3] 49 := ⟨_, rfl⟩
  rw [← hoD, ← hoO]
  have hB := below_alloc (below_alloc (Below.refl w.heap.size w) oD) oO
  have k1 := blk_alloc (blk_new w oD) oO
  have k2 := blk_new (w.alloc oD) oO
  rw [show (w.alloc oD).heap.size = w.heap.size + 1 by simp] at k2
  obtain ⟨D, hD⟩ : ∃ D, D = w.heap.size := ⟨_, rfl⟩
  obtain ⟨O, hO⟩ : ∃ O, O = w.heap.size + 1 := ⟨_, rfl⟩
  rw [← hO] at k2 ⊢
  rw [← hD] at k1 ⊢
  generalize (w.alloc oD).alloc oO = w1 at hB k1 k2 ⊢
  subst hoD hoO
  have HB := Aside0.mk hB
  have CD := Aside0.mk (CD0.out.below hB)
  have KD := Aside0.mk k1
  have KO := Aside0.mk k2
  clear hB k1 k2 hD hO CD0
  have d0 := (blk_cell KD.out 0).trans rfl
  have d1 := (blk_cell KD.out 1).trans rfl
  have d2 := (blk_cell KD.out 2).trans rfl
  have d3 := (blk_cell KD.out 3).trans rfl
  by_cases h0 : 8 < d.ino.length
  · go_wp2
    go_ret
    exact ⟨rfl, HB.out⟩
  by_cases h1 : 8 < d.dir.length
  · go_wp2
    go_ret
    exact ⟨rfl, HB.out⟩
  by_cases h2 : 8 < d.dur.length
  · go_wp2
    go_ret
    exact ⟨rfl, HB.out⟩
  by_cases h3 : 8 < d.ops.length
  · go_wp2
    go_ret
    exact ⟨rfl, HB.out⟩
  by_cases h4 : 20 < cs.length
  · go_wp2
    go_ret
    exact ⟨rfl, HB.out⟩
  have SM := Aside0.mk (show Sml 8 d from ⟨by omega, by omega, by omega, by omega⟩)
  obtain ⟨ad1, hap⟩ : ∃ ap : Dsk, ap = (applyAll d [o]).1 := ⟨_, rfl⟩
  obtain ⟨ae, her⟩ : ∃ er : Int, er = (applyAll d [o]).2 := ⟨_, rfl⟩
  have P1 := (fun W h => apply1_calls (.agg #[.slice A0 d.ino.length c0, .slice A1 d.dir.length c1, .slice A2 d.dur.length c2, .slice A3 d.ops.length c3]) d o W h (SM.out.mono (by omega)) hz)
  have P2 := (fun W h => apply32_calls (.agg #[.slice A0 d.ino.length c0, .slice A1 d.dir.length c1, .slice A2 d.dur.length c2, .slice A3 d.ops.length c3]) d o W h (SM.out.mono (by omega)) hz)
  simp only [← hap, ← her] at P1 P2
  have Q1 := Aside0.mk P1
  have Q2 := Aside0.mk P2
  have MA := Aside0.mk (show Sml 9 ad1 from by rw [hap]; exact one_sml SM.out)
  clear P1 P2 hap her
  obtain ⟨rs, hrs⟩ : ∃ q, q = (Dk.read d o.f1).1 := ⟨_, rfl⟩
  obtain ⟨rE, hre⟩ : ∃ q, q = (Dk.read d o.f1).2 := ⟨_, rfl⟩
  have P1 := (fun W h => read_calls (.agg #[.slice A0 d.ino.length c0, .slice A1 d.dir.length c1, .slice A2 d.dur.length c2, .slice A3 d.ops.length c3]) d o.f1 W h (SM.out.mono (by omega)))
  have P2 := (fun W h => read34_calls (.agg #[.slice A0 d.ino.length c0, .slice A1 d.dir.length c1, .slice A2 d.dur.length c2, .slice A3 d.ops.length c3]) d o.f1 W h (SM.out.mono (by omega)))
  rw [← hrs, ← hre] at P1 P2
  have Q3 := Aside0.mk P1
  have Q4 := Aside0.mk P2
  clear P1 P2 hrs hre
  have o0 := (blk_cell KO.out 0).trans rfl
  have o1 := (blk_cell KO.out 1).trans rfl
  have o2 := (blk_cell KO.out 2).trans rfl
  have o3 := (blk_cell KO.out 3).trans rfl
  go_wp2_with fail
  refine (Q1.out w1 CD.out).mono ?_
  rintro e w5 ⟨v1, rfl, h1, h2⟩
  have CE := Aside0.mk h1.reads
  clear h1 Q1 d0 d1 d2 d3 o0 o1 o2 o3
  obtain ⟨F0, f0, F1, f1, F2, f2, F3, f3, rfl, -⟩ := id CE.out
  have HB_ := Aside0.mk (below_step HB.out h2)
  have CD_ := Aside0.mk (CD.out.below h2)
  have KD_ := Aside0.mk (blk_below KD.out h2)
  have KO_ := Aside0.mk (blk_below KO.out h2)
  clear HB
  have HB := HB_
  clear HB_
  clear CD
  have CD := CD_
  clear CD_
  clear KD
  have KD := KD_
  clear KD_
  clear KO
  have KO := KO_
  clear KO_
  clear h2
  go_upto_region 4 with fail
  obtain ⟨ob1, hob1⟩ : ∃ q : Obj, q = .cells #[.slice F0 ad1.ino.length f0, .slice F1 ad1.dir.length f1, .slice F2 ad1.dur.length f2, .slice F3 ad1.ops.length f3] 47 := ⟨_, rfl⟩
  rw [← hob1]
  obtain ⟨X, hX⟩ : ∃ q, q = w5.heap.size := ⟨_, rfl⟩
  have bb := below_alloc (Below.refl w5.heap.size w5) ob1
  have kk := blk_new w5 ob1
  rw [← hX] at kk ⊢
  have HB_ := Aside0.mk (below_step HB.out bb)
  have CD_ := Aside0.mk (CD.out.below bb)
  have KD_ := Aside0.mk (blk_below KD.out bb)
  have KO_ := Aside0.mk (blk_below KO.out bb)
  have CE_ := Aside0.mk (CE.out.below bb)
  clear HB
  have HB := HB_
  clear HB_
  clear CD
  have CD := CD_
  clear CD_
  clear KD
  have KD := KD_
  clear KD_
  clear KO
  have KO := KO_
  clear KO_
  clear CE
  have CE := CE_
  clear CE_
  have KX := Aside0.mk kk
  clear bb kk
  generalize w5.alloc ob1 = wa1 at HB CD KD KO CE KX ⊢
  subst hob1
  clear hX
  have d0 := (blk_cell KD.out 0).trans rfl
  have d1 := (blk_cell KD.out 1).trans rfl
  have d2 := (blk_cell KD.out 2).trans rfl
  have d3 := (blk_cell KD.out 3).trans rfl
  have o0 := (blk_cell KO.out 0).trans rfl
  have o1 := (blk_cell KO.out 1).trans rfl
  have o2 := (blk_cell KO.out 2).trans rfl
  have o3 := (blk_cell KO.out 3).trans rfl
  go_wp2_with fail
  refine (Q2.out wa1 CD.out).mono ?_
  rintro e w6 ⟨v2, rfl, h1, h2⟩
  have CF := Aside0.mk h1
  clear h1 Q2 d0 d1 d2 d3 o0 o1 o2 o3
  obtain ⟨H0, g0, H1, g1, H2, g2, H3, g3, rfl, -⟩ := id CF.out
  have HB_ := Aside0.mk (below_step HB.out h2)
  have CD_ := Aside0.mk (CD.out.below h2)
  have KD_ := Aside0.mk (blk_below KD.out h2)
  have KO_ := Aside0.mk (blk_below KO.out h2)
  have CE_ := Aside0.mk (CE.out.below h2)
  have KX_ := Aside0.mk (blk_below KX.out h2)
  clear HB
  have HB := HB_
  clear HB_
  clear CD
  have CD := CD_
  clear CD_
  clear KD
  have KD := KD_
  clear KD_
  clear KO
  have KO := KO_
  clear KO_
  clear CE
  have CE := CE_
  clear CE_
  clear KX
  have KX := KX_
  clear KX_
  clear h2
  go_upto_region 5 with fail
  obtain ⟨ob2, hob2⟩ : ∃ q : Obj, q = .cells #[.slice H0 ad1.ino.length g0, .slice H1 ad1.dir.length g1, .slice H2 ad1.dur.length g2, .slice H3 ad1.ops.length g3] 47 := ⟨_, rfl⟩
  rw [← hob2]
  obtain ⟨Y, hY⟩ : ∃ q, q = w6.heap.size := ⟨_, rfl⟩
  have bb := below_alloc (Below.refl w6.heap.size w6) ob2
  have kk := blk_new w6 ob2
  rw [← hY] at kk ⊢
  have HB_ := Aside0.mk (below_step HB.out bb)
  have CD_ := Aside0.mk (CD.out.below bb)
  have KD_ := Aside0.mk (blk_below KD.out bb)
  have KO_ := Aside0.mk (blk_below KO.out bb)
  have CE_ := Aside0.mk (CE.out.below bb)
  have KX_ := Aside0.mk (blk_below KX.out bb)
  have CF_ := Aside0.mk (CF.out.below bb)
  clear HB
  have HB := HB_
  clear HB_
  clear CD
  have CD := CD_
  clear CD_
  clear KD
  have KD := KD_
  clear KD_
  clear KO
  have KO := KO_
  clear KO_
  clear CE
  have CE := CE_
  clear CE_
  clear KX
  have KX := KX_
  clear KX_
  clear CF
  have CF := CF_
  clear CF_
  have KY := Aside0.mk kk
  clear bb kk
  generalize w6.alloc ob2 = wa2 at HB CD KD KO CE KX CF KY ⊢
  subst hob2
  clear hY
  have d0 := (blk_cell KD.out 0).trans rfl
  have d1 := (blk_cell KD.out 1).trans rfl
  have d2 := (blk_cell KD.out 2).trans rfl
  have d3 := (blk_cell KD.out 3).trans rfl
  have o0 := (blk_cell KO.out 0).trans rfl
  have o1 := (blk_cell KO.out 1).trans rfl
  have o2 := (blk_cell KO.out 2).trans rfl
  have o3 := (blk_cell KO.out 3).trans rfl
  go_wp2_with fail
  refine (Q3.out wa2 CD.out).mono ?_
  rintro e w7 ⟨rfl, h2⟩
  clear Q3 d0 d1 d2 d3 o0 o1 o2 o3
  have HB_ := Aside0.mk (below_step HB.out h2)
  have CD_ := Aside0.mk (CD.out.below h2)
  have KD_ := Aside0.mk (blk_below KD.out h2)
  have KO_ := Aside0.mk (blk_below KO.out h2)
  have CE_ := Aside0.mk (CE.out.below h2)
  have KX_ := Aside0.mk (blk_below KX.out h2)
  have CF_ := Aside0.mk (CF.out.below h2)
  have KY_ := Aside0.mk (blk_below KY.out h2)
  clear HB
  have HB := HB_
  clear HB_
  clear CD
  have CD := CD_
  clear CD_
  clear KD
  have KD := KD_
  clear KD_
  clear KO
  have KO := KO_
  clear KO_
  clear CE
  have CE := CE_
  clear CE_
  clear KX
  have KX := KX_
  clear KX_
  clear CF
  have CF := CF_
  clear CF_
  clear KY
  have KY := KY_
  clear KY_
  clear h2
  have d0 := (blk_cell KD.out 0).trans rfl
  have d1 := (blk_cell KD.out 1).trans rfl
  have d2 := (blk_cell KD.out 2).trans rfl
  have d3 := (blk_cell KD.out 3).trans rfl
  have o0 := (blk_cell KO.out 0).trans rfl
  have o1 := (blk_cell KO.out 1).trans rfl
  have o2 := (blk_cell KO.out 2).trans rfl
  have o3 := (blk_cell KO.out 3).trans rfl
  go_wp2_with fail
  refine (Q4.out w7 CD.out).mono ?_
  rintro e w8 ⟨rfl, h2⟩
  clear Q4 d0 d1 d2 d3 o0 o1 o2 o3
  have HB_ := Aside0.mk (below_step HB.out h2)
  have CD_ := Aside0.mk (CD.out.below h2)
  have KD_ := Aside0.mk (blk_below KD.out h2)
  have KO_ := Aside0.mk (blk_below KO.out h2)
  have CE_ := Aside0.mk (CE.out.below h2)
  have KX_ := Aside0.mk (blk_below KX.out h2)
  have CF_ := Aside0.mk (CF.out.below h2)
  have KY_ := Aside0.mk (blk_below KY.out h2)
  clear HB
  have HB := HB_
  clear HB_
  clear CD
  have CD := CD_
  clear CD_
  clear KD
  have KD := KD_
  clear KD_
  clear KO
  have KO := KO_
  clear KO_
  clear CE
  have CE := CE_
  clear CE_
  clear KX
  have KX := KX_
  clear KX_
  clear CF
  have CF := CF_
  clear CF_
  clear KY
  have KY := KY_
  clear KY_
  clear h2
  have s0 : w8.cell? ⟨D, 0, none⟩ = some (.slice A0 d.ino.length c0) := (blk_cell KD.out 0).trans rfl
  have s1 : w8.cell? ⟨D, 1, none⟩ = some (.slice A1 d.dir.length c1) := (blk_cell KD.out 1).trans rfl
  have s2 : w8.cell? ⟨D, 2, none⟩ = some (.slice A2 d.dur.length c2) := (blk_cell KD.out 2).trans rfl
  have s3 : w8.cell? ⟨D, 3, none⟩ = some (.slice A3 d.ops.length c3) := (blk_cell KD.out 3).trans rfl
  have s4 : w8.cell? ⟨X, 0, none⟩ = some (.slice F0 ad1.ino.length f0) := (blk_cell KX.out 0).trans rfl
  have s5 : w8.cell? ⟨X, 1, none⟩ = some (.slice F1 ad1.dir.length f1) := (blk_cell KX.out 1).trans rfl
  have s6 : w8.cell? ⟨X, 2, none⟩ = some (.slice F2 ad1.dur.length f2) := (blk_cell KX.out 2).trans rfl
  have s7 : w8.cell? ⟨X, 3, none⟩ = some (.slice F3 ad1.ops.length f3) := (blk_cell KX.out 3).trans rfl
  have s8 : w8.cell? ⟨Y, 0, none⟩ = some (.slice H0 ad1.ino.length g0) := (blk_cell KY.out 0).trans rfl
  have s9 : w8.cell? ⟨Y, 1, none⟩ = some (.slice H1 ad1.dir.length g1) := (blk_cell KY.out 1).trans rfl
  have s10 : w8.cell? ⟨Y, 2, none⟩ = some (.slice H2 ad1.dur.length g2) := (blk_cell KY.out 2).trans rfl
  have s11 : w8.cell? ⟨Y, 3, none⟩ = some (.slice H3 ad1.ops.length g3) := (blk_cell KY.out 3).trans rfl
  obtain ⟨vr, hvr⟩ : ∃ vr : Int, vr = (if valid d = true then 0 else 9) := ⟨_, rfl⟩
  have VA0 := (fun W h => validate_calls (.agg #[.slice A0 d.ino.length c0, .slice A1 d.dir.length c1, .slice A2 d.dur.length c2, .slice A3 d.ops.length c3]) d W h (SM.out.mono (by omega)))
  have VB0 := (fun W h => validate36_calls (.agg #[.slice A0 d.ino.length c0, .slice A1 d.dir.length c1, .slice A2 d.dur.length c2, .slice A3 d.ops.length c3]) d W h (SM.out.mono (by omega)))
  rw [← hvr] at VA0 VB0
  have VA := Aside0.mk VA0
  have VB := Aside0.mk VB0
  have hvv : (vr == vr) = true := beq_self_eq_true vr
  have haa : (ae == ae) = true := beq_self_eq_true ae
  have hrr : (rE == rE) = true := beq_self_eq_true rE
  obtain ⟨ls, hls⟩ : ∃ ls, ls = Dk.list d := ⟨_, rfl⟩
  obtain ⟨n, hn⟩ : ∃ n, n = ls.length := ⟨_, rfl⟩
  have hn8 : n ≤ 8 := by rw [hn, hls]; exact list_sml SM.out
  have LA0 := (fun W h => list39_calls (.agg #[.slice A0 d.ino.length c0, .slice A1 d.dir.length c1, .slice A2 d.dur.length c2, .slice A3 d.ops.length c3]) d W h (SM.out.mono (by omega)))
  have LB0 := (fun W h => list40_calls (.agg #[.slice A0 d.ino.length c0, .slice A1 d.dir.length c1, .slice A2 d.dur.length c2, .slice A3 d.ops.length c3]) d W h (SM.out.mono (by omega)))
  rw [← hls] at LA0 LB0
  have LA := Aside0.mk LA0
  have LB := Aside0.mk LB0
  have HN := Aside0.mk hn
  obtain ⟨dc, hdc⟩ : ∃ dc, dc = Dk.crash d cs := ⟨_, rfl⟩
  have MC := Aside0.mk (show Sml 16 dc from by rw [hdc]; exact crash_sml2 SM.out)
  have CA0 := (fun W h hb => crash_calls (.agg #[.slice A0 d.ino.length c0, .slice A1 d.dir.length c1, .slice A2 d.dur.length c2, .slice A3 d.ops.length c3]) d A c cs W h (Kd.C_below R1.out hb) hc (SM.out.mono (by omega)))
  have CB0 := (fun W h hb => crash42_calls (.agg #[.slice A0 d.ino.length c0, .slice A1 d.dir.length c1, .slice A2 d.dur.length c2, .slice A3 d.ops.length c3]) d A c cs W h (Kd.C_below R1.out hb) hc (SM.out.mono (by omega)))
  rw [← hdc] at CA0 CB0
  have CA := Aside0.mk CA0
  have CB := Aside0.mk CB0
  clear VA0 VB0 LA0 LB0 CA0 CB0 hvr hls hn hdc
  go_upto_region 7 with fail
  have TK1 := Aside0.mk trivial
  have BW := Aside0.mk (below_drew1 (Below.refl w8.heap.size w8))
  go_region_held3 (fun w' => w'.cell? ⟨D, 0, none⟩ = some (.slice A0 d.ino.length c0) ∧ w'.cell? ⟨D, 1, none⟩ = some (.slice A1 d.dir.length c1) ∧ w'.cell? ⟨D, 2, none⟩ = some (.slice A2 d.dur.length c2) ∧ w'.cell? ⟨D, 3, none⟩ = some (.slice A3 d.ops.length c3) ∧ w'.cell? ⟨X, 0, none⟩ = some (.slice F0 ad1.ino.length f0) ∧ w'.cell? ⟨X, 1, none⟩ = some (.slice F1 ad1.dir.length f1) ∧ w'.cell? ⟨X, 2, none⟩ = some (.slice F2 ad1.dur.length f2) ∧ w'.cell? ⟨X, 3, none⟩ = some (.slice F3 ad1.ops.length f3) ∧ w'.cell? ⟨Y, 0, none⟩ = some (.slice H0 ad1.ino.length g0) ∧ w'.cell? ⟨Y, 1, none⟩ = some (.slice H1 ad1.dir.length g1) ∧ w'.cell? ⟨Y, 2, none⟩ = some (.slice H2 ad1.dur.length g2) ∧ w'.cell? ⟨Y, 3, none⟩ = some (.slice H3 ad1.ops.length g3))
    (first | (go_keep; done) | exact ⟨(blk_cell (blk_below KD.out BW.out) 0).trans rfl, (blk_cell (blk_below KD.out BW.out) 1).trans rfl, (blk_cell (blk_below KD.out BW.out) 2).trans rfl, (blk_cell (blk_below KD.out BW.out) 3).trans rfl, (blk_cell (blk_below KX.out BW.out) 0).trans rfl, (blk_cell (blk_below KX.out BW.out) 1).trans rfl, (blk_cell (blk_below KX.out BW.out) 2).trans rfl, (blk_cell (blk_below KX.out BW.out) 3).trans rfl, (blk_cell (blk_below KY.out BW.out) 0).trans rfl, (blk_cell (blk_below KY.out BW.out) 1).trans rfl, (blk_cell (blk_below KY.out BW.out) 2).trans rfl, (blk_cell (blk_below KY.out BW.out) 3).trans rfl⟩)
    (first
      | (go_at_call 35; refine (VA.out _ (CD.out.below BW.out)).mono ?_; rintro e w26 ⟨rfl, h2⟩; have n_ := Aside0.mk (below_step BW.out h2); clear BW h2; have BW := n_; clear n_)
      | (go_at_call 36; refine (VB.out _ (CD.out.below BW.out)).mono ?_; rintro e w27 ⟨rfl, h2⟩; have n_ := Aside0.mk (below_step BW.out h2); clear BW h2; have BW := n_; clear n_)
      | (clear TK1; go_at_call 37; refine (same37_calls _ _ ad1 _ (CE.out.below BW.out) (CF.out.below BW.out) (MA.out.mono (by omega))).mono ?_; rintro e w28 ⟨rfl, h2⟩; have n_ := Aside0.mk (below_step BW.out h2); clear BW h2; have BW := n_; clear n_)
      | (go_at_call 39; refine (LA.out _ (CD.out.below BW.out)).mono ?_; rintro e w29 ⟨v5, rfl, h1, h2⟩; obtain ⟨L1, cL1, rfl, lL1, rL1⟩ := Kd.R_reads h1; rw [← HN.out] at lL1 rL1 ⊢; have HL1 := Aside0.mk rL1; clear h1 rL1; have n_ := Aside0.mk (below_step BW.out h2); clear BW h2; have BW := n_; clear n_)
      | (go_at_call 40; refine (LB.out _ (CD.out.below BW.out)).mono ?_; rintro e w30 ⟨v6, rfl, h1, h2⟩; obtain ⟨L2, cL2, rfl, lL2, rL2⟩ := Kd.R_reads h1; rw [← HN.out] at lL2 rL2 ⊢; have HL2 := Aside0.mk rL2; have m_ := Aside0.mk (Kd.C_below HL1.out h2); clear HL1; have HL1 := m_; clear h1 rL2 m_; have n_ := Aside0.mk (below_step BW.out h2); clear BW h2; have BW := n_; clear n_)
      | (go_at_call 38; refine (texts38_calls _ _ _ _ ls n HN.out _ HL1.out lL1 HL2.out lL2 (by omega)).mono ?_; rintro e w31 ⟨rfl, h2⟩; have n_ := Aside0.mk (below_step BW.out h2); clear BW h2; have BW := n_; clear n_)
      | (go_at_call 41; refine (CA.out _ (CD.out.below BW.out) (below_step HB.out BW.out)).mono ?_; rintro e w32 ⟨v7, rfl, h1, h2⟩; have C7 := Aside0.mk h1.reads; clear h1; have n_ := Aside0.mk (below_step BW.out h2); clear BW h2; have BW := n_; clear n_)
      | (go_at_call 42; refine (CB.out _ (CD.out.below BW.out) (below_step HB.out BW.out)).mono ?_; rintro e w33 ⟨v8, rfl, h1, h2⟩; have C8 := Aside0.mk h1.reads; have m_ := Aside0.mk (C7.out.below h2); clear C7; have C7 := m_; clear h1 m_; have n_ := Aside0.mk (below_step BW.out h2); clear BW h2; have BW := n_; clear n_)
      | (go_at_call 37; refine (same37_calls _ _ dc _ C7.out C8.out (MC.out.mono (by omega))).mono ?_; rintro e w34 ⟨rfl, h2⟩; have n_ := Aside0.mk (below_step BW.out h2); clear BW h2; have BW := n_; clear n_)
      | (go_at_call 43; refine (known43_calls _).mono ?_; rintro e w35 ⟨rfl, h2⟩; have n_ := Aside0.mk (below_step BW.out h2); clear BW h2; have BW := n_; clear n_))
  all_goals
    go_wp2
    go_ret
    exact ⟨rfl, below_step HB.out BW.out⟩
end Go.Proofs.Ytnaddmkaakdhoaa.J

end
