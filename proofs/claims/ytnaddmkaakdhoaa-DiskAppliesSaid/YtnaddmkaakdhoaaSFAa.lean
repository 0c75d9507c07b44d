/-
  Texts of this claim, joined, without what the claim does not use: XL18
-/
import Derived.Test.YtnaddmkaakdhoaaSDEj
section
namespace Go.Proofs.Ytnaddmkaakdhoaa.J
open Go.RowKit Go.Proofs.YtnaddmkaakdhoaaW.PrintWords Go.Proofs.YtnaddmkaakdhoaaW.PrintLast Go.Proofs.YtnaddmkaakdhoaaW.PrintMore
open Dk (Srt pos has valid app appAll applyAll Valid ent)
set_option linter.unusedVariables false
set_option linter.unusedSimpArgs false
set_option maxHeartbeats 8000000 in
set_option maxRecDepth 100000 in
theorem diskApplies_calls (A0 : Option Addr) (c0 : Nat) (l0 : List Int) (w : World) (hr0 : Kd.C (Kd.int .i64) w A0 l0.length l0) (hc0 : l0.length ≤ c0) :
    Calls Try.prog 18 #[.slice A0 l0.length c0] w fun e w' => e = .returned (.bool true) ∧ Below w.heap.size w w' := by
  obtain ⟨m, hm, hml⟩ := new_f l0
  go_enter Try.func18, Try.ntmps18
  go_wp2_with fail
  refine (corporamade_New.calls A0 c0 l0 m 0 w w (Below.refl _ _) hr0 hc0 hm).mono ?_
  rintro e w1 ⟨g, rfl, h1, h2, _⟩
  have HT1 := Aside0.mk (show Tp w w1 g from ⟨m, 0, h1, hml, Int.le_refl _⟩)
  have HB1 := Aside0.mk h2
  clear h1 h2 hm hml hr0 hc0
  go_upto_region 3 with fail
  obtain ⟨oZ, hoZ⟩ : ∃ o : Obj, o = .cells #[.slice none 0 0, .slice none 0 0, .slice none 0 0, .slice none 0 0] 47 := ⟨_, rfl⟩
  rw [← hoZ]
  obtain ⟨D, hD⟩ : ∃ D, D = w1.heap.size := ⟨_, rfl⟩
  have b1 := below_alloc (Below.refl w1.heap.size w1) oZ
  have k1 := blk_new w1 oZ
  rw [← hD] at k1 ⊢
  have HT2 := Aside0.mk (HT1.out.below b1)
  have HB2 := Aside0.mk (below_step HB1.out b1)
  have hTD : w.heap.size ≤ D := by have := HB1.out.size; omega
  have hgD : g ≠ D := by have := HT1.out.lt; omega
  generalize w1.alloc oZ = w2 at HT2 HB2 k1 ⊢
  subst hoZ
  have HD2 := Aside0.mk k1
  clear b1 k1 hD HT1 HB1
  go_wp2_with fail
  refine (next47_calls g 14 w w2 HT2.out HB2.out (by omega) (by omega)).mono ?_
  rintro e w3 ⟨r, rfl, r0, r14, h3, h4, h5⟩
  have HD := Aside0.mk (h5.blk HD2.out (Ne.symm hgD) (by simp))
  have HT := Aside0.mk h3
  have HB := Aside0.mk h4
  have HC := Aside0.mk (show DC w3 (.agg #[.slice none 0 0, .slice none 0 0, .slice none 0 0, .slice none 0 0]) Dk.E0 from (DR.zero _ 0).reads)
  clear h3 h4 h5 HD2 HT2 HB2
  go_wp2_with fail
  go_loopg [5] r.toNat (fun kx s6 wr => ∃ (i : Int) (d' : Dsk) (C0 C1 C2 C3 : Option Addr) (e0 e1 e2 e3 : Nat), s6 = .int .i64 i ∧ 0 ≤ i ∧ i ≤ 100 ∧ i.toNat ≤ kx ∧ Aside0 (Valid d') ∧ Aside0 (Sml (1000 - i.toNat) d') ∧ Aside0 (wr.heap[D]? = some (.cells #[.slice C0 d'.ino.length e0, .slice C1 d'.dir.length e1, .slice C2 d'.dur.length e2, .slice C3 d'.ops.length e3] 47 (0, 0))) ∧ Aside0 (DC wr (.agg #[.slice C0 d'.ino.length e0, .slice C1 d'.dir.length e1, .slice C2 d'.dur.length e2, .slice C3 d'.ops.length e3]) d') ∧ Aside0 (Tp w wr g) ∧ Aside0 (Below w.heap.size w wr))
  case atStart => exact ⟨r, Dk.E0, none, none, none, none, 0, 0, 0, 0, rfl, r0, by omega, Nat.le_refl _, ⟨Dk.valid_of.1 Dk.valid_E0⟩, ⟨⟨Nat.zero_le _, Nat.zero_le _, Nat.zero_le _, Nat.zero_le _⟩⟩, HD, HC, HT, HB⟩
  case round =>
    clear HD HC HT HB
    obtain ⟨i, d', C0, C1, C2, C3, e0, e1, e2, e3, rfl, hi0, hi1, hk, hV, hS, HD, HC, HT, HB⟩ := hrel
    by_cases hlt : 0 < i
    · have hsub : IntKind.i64.wrap (i - 1) = i - 1 := by rw [IntKind.wrap_i64]; omega
      go_wp2_with fail
      refine (op48_calls g w wr HT.out HB.out).mono ?_
      rintro e w4 ⟨o, rfl, ho, h3, h4, h5⟩
      have T4 := Aside0.mk h3
      have B4 := Aside0.mk h4
      have D4 := Aside0.mk (h5.blk HD.out (Ne.symm hgD) (by simp))
      have C4 := Aside0.mk (HC.out.keep HT.out h5)
      clear h3 h4 h5 HD HC HT HB
      obtain ⟨ad1, hap⟩ : ∃ ap : Dsk, ap = (applyAll d' [o]).1 := ⟨_, rfl⟩
      obtain ⟨ae, her⟩ : ∃ er : Int, er = (applyAll d' [o]).2 := ⟨_, rfl⟩
      have P1 := (fun W h => apply1_calls (.agg #[.slice C0 d'.ino.length e0, .slice C1 d'.dir.length e1, .slice C2 d'.dur.length e2, .slice C3 d'.ops.length e3]) d' o W h (hS.out.mono (by omega)) (by omega))
      have P2 := (fun W h => apply32_calls (.agg #[.slice C0 d'.ino.length e0, .slice C1 d'.dir.length e1, .slice C2 d'.dur.length e2, .slice C3 d'.ops.length e3]) d' o W h (hS.out.mono (by omega)) (by omega))
      simp only [← hap, ← her] at P1 P2
      have AP := Aside0.mk (show applyAll d' [o] = (ad1, ae) from by rw [hap, her])
      have Q1 := Aside0.mk P1
      have Q2 := Aside0.mk P2
      clear P1 P2 hap her
      have d0 := (blk_cell D4.out 0).trans rfl
      have d1 := (blk_cell D4.out 1).trans rfl
      have d2 := (blk_cell D4.out 2).trans rfl
      have d3 := (blk_cell D4.out 3).trans rfl
      go_upto_region 7 with fail
      obtain ⟨oX, hoX⟩ : ∃ q : Obj, q = .cells #[.int .i64 o.f0, .string o.f1, .string o.f2, .string o.f3] 49 := ⟨_, rfl⟩
      rw [← hoX]
      obtain ⟨X, hX⟩ : ∃ X, X = w4.heap.size := ⟨_, rfl⟩
      have b1 := below_alloc (Below.refl w4.heap.size w4) oX
      have KX := Aside0.mk (blk_new w4 oX)
      rw [← hX] at KX ⊢
      have T5 := Aside0.mk (T4.out.below b1)
      have B5 := Aside0.mk (below_step B4.out b1)
      have D5 := Aside0.mk (blk_below D4.out b1)
      have C5 := Aside0.mk (C4.out.below b1)
      generalize w4.alloc oX = w5 at KX T5 B5 D5 C5 ⊢
      subst hoX
      clear b1 hX T4 B4 D4 C4 d0 d1 d2 d3
      have d0 := (blk_cell D5.out 0).trans rfl
      have d1 := (blk_cell D5.out 1).trans rfl
      have d2 := (blk_cell D5.out 2).trans rfl
      have d3 := (blk_cell D5.out 3).trans rfl
      have x0 := (blk_cell KX.out 0).trans rfl
      have x1 := (blk_cell KX.out 1).trans rfl
      have x2 := (blk_cell KX.out 2).trans rfl
      have x3 := (blk_cell KX.out 3).trans rfl
      go_wp2_with fail
      refine (Q1.out w5 C5.out).mono ?_
      rintro e w6 ⟨v1, rfl, h1, h2⟩
      have E6 := Aside0.mk h1.reads
      have T6 := Aside0.mk (T5.out.below h2)
      have B6 := Aside0.mk (below_step B5.out h2)
      have D6 := Aside0.mk (blk_below D5.out h2)
      have C6 := Aside0.mk (C5.out.below h2)
      have X6 := Aside0.mk (blk_below KX.out h2)
      clear h1 h2 T5 B5 D5 C5 KX Q1 d0 d1 d2 d3 x0 x1 x2 x3
      obtain ⟨F0, g0, F1, g1, F2, g2, F3, g3, rfl, -⟩ := id E6.out
      go_upto_region 8 with fail
      obtain ⟨oY, hoY⟩ : ∃ q : Obj, q = .cells #[.slice F0 ad1.ino.length g0, .slice F1 ad1.dir.length g1, .slice F2 ad1.dur.length g2, .slice F3 ad1.ops.length g3] 47 := ⟨_, rfl⟩
      rw [← hoY]
      obtain ⟨Y, hY⟩ : ∃ Y, Y = w6.heap.size := ⟨_, rfl⟩
      have b1 := below_alloc (Below.refl w6.heap.size w6) oY
      have KY := Aside0.mk (blk_new w6 oY)
      rw [← hY] at KY ⊢
      have T7 := Aside0.mk (T6.out.below b1)
      have B7 := Aside0.mk (below_step B6.out b1)
      have D7 := Aside0.mk (blk_below D6.out b1)
      have C7 := Aside0.mk (C6.out.below b1)
      have X7 := Aside0.mk (blk_below X6.out b1)
      have E7 := Aside0.mk (E6.out.below b1)
      generalize w6.alloc oY = w7 at KY T7 B7 D7 C7 X7 E7 ⊢
      subst hoY
      clear b1 hY T6 B6 D6 C6 X6 E6
      have d0 := (blk_cell D7.out 0).trans rfl
      have d1 := (blk_cell D7.out 1).trans rfl
      have d2 := (blk_cell D7.out 2).trans rfl
      have d3 := (blk_cell D7.out 3).trans rfl
      have x0 := (blk_cell X7.out 0).trans rfl
      have x1 := (blk_cell X7.out 1).trans rfl
      have x2 := (blk_cell X7.out 2).trans rfl
      have x3 := (blk_cell X7.out 3).trans rfl
      go_wp2_with fail
      refine (Q2.out w7 C7.out).mono ?_
      rintro e w8 ⟨v2, rfl, h1, h2⟩
      have G8 := Aside0.mk h1
      have E8 := Aside0.mk (E7.out.below h2)
      have T8 := Aside0.mk (T7.out.below h2)
      have B8 := Aside0.mk (below_step B7.out h2)
      have D8 := Aside0.mk (blk_below D7.out h2)
      have C8 := Aside0.mk (C7.out.below h2)
      have Y8 := Aside0.mk (blk_below KY.out h2)
      clear h1 h2 T7 B7 D7 C7 KY X7 E7 Q2 d0 d1 d2 d3 x0 x1 x2 x3
      obtain ⟨H0, j0, H1, j1, H2, j2, H3, j3, rfl, -⟩ := id G8.out
      go_upto_region 9 with fail
      obtain ⟨oZ, hoZ⟩ : ∃ q : Obj, q = .cells #[.slice H0 ad1.ino.length j0, .slice H1 ad1.dir.length j1, .slice H2 ad1.dur.length j2, .slice H3 ad1.ops.length j3] 47 := ⟨_, rfl⟩
      rw [← hoZ]
      obtain ⟨Z, hZ⟩ : ∃ Z, Z = w8.heap.size := ⟨_, rfl⟩
      have b1 := below_alloc (Below.refl w8.heap.size w8) oZ
      have KZ := Aside0.mk (blk_new w8 oZ)
      rw [← hZ] at KZ ⊢
      have T9 := Aside0.mk (T8.out.below b1)
      have B9 := Aside0.mk (below_step B8.out b1)
      have D9 := Aside0.mk (blk_below D8.out b1)
      have C9 := Aside0.mk (C8.out.below b1)
      have Y9 := Aside0.mk (blk_below Y8.out b1)
      have E9 := Aside0.mk (E8.out.below b1)
      have G9 := Aside0.mk (G8.out.below b1)
      generalize w8.alloc oZ = w9 at KZ T9 B9 D9 C9 Y9 E9 G9 ⊢
      subst hoZ
      clear b1 hZ T8 B8 D8 C8 Y8 E8 G8
      have AA := Aside0.mk (app_one (o := o) hV.out)
      rw [AP.out] at AA
      have SM := Aside0.mk (show Sml 1000 ad1 ∧ (ae = 0 → Valid ad1 ∧ Sml (1000 - (i - 1).toNat) ad1) from by
        rcases AA.out with h | ⟨h, h2⟩
        · have h1 : (app d' o).1 = ad1 := by rw [← h]
          have h2 : (app d' o).2 = ae := by rw [← h]
          have hs1 := Dk.Sml_app hS.out o
          rw [h1] at hs1
          refine ⟨hs1.mono (by omega), fun h0 => ⟨?_, hs1.mono (by omega)⟩⟩
          have := Dk.valid_app hV.out o (by rw [h2, h0])
          rwa [h1] at this
        · injection h2 with h2 h3
          refine ⟨by rw [h2]; exact ⟨Nat.zero_le _, Nat.zero_le _, Nat.zero_le _, Nat.zero_le _⟩, fun h0 => absurd (h3.symm.trans h0) h⟩)
      clear AA AP
      have y0 := (blk_cell Y9.out 0).trans rfl
      have y1 := (blk_cell Y9.out 1).trans rfl
      have y2 := (blk_cell Y9.out 2).trans rfl
      have y3 := (blk_cell Y9.out 3).trans rfl
      have z0 := (blk_cell KZ.out 0).trans rfl
      have z1 := (blk_cell KZ.out 1).trans rfl
      have z2 := (blk_cell KZ.out 2).trans rfl
      have z3 := (blk_cell KZ.out 3).trans rfl
      have haa : (ae == ae) = true := beq_self_eq_true ae
      go_wp2_with fail
      refine (same37_calls _ _ ad1 w9 E9.out G9.out (SM.out.1.mono (by omega))).mono ?_
      rintro e wA ⟨rfl, h2⟩
      have TA := Aside0.mk (T9.out.below h2)
      have BA := Aside0.mk (below_step B9.out h2)
      have DA := Aside0.mk (blk_below D9.out h2)
      have CA := Aside0.mk (C9.out.below h2)
      have GA := Aside0.mk (G9.out.below h2)
      have ZA := Aside0.mk (blk_below KZ.out h2)
      clear h2 T9 B9 D9 C9 Y9 E9 G9 KZ y0 y1 y2 y3 z0 z1 z2 z3
      by_cases hae : ae = 0
      · subst hae
        obtain ⟨V7, S7⟩ := SM.out.2 rfl
        have V8 := Aside0.mk V7
        have S8 := Aside0.mk S7
        have z0 := (blk_cell ZA.out 0).trans rfl
        have z1 := (blk_cell ZA.out 1).trans rfl
        have z2 := (blk_cell ZA.out 2).trans rfl
        have z3 := (blk_cell ZA.out 3).trans rfl
        have k0 := (blk_cell DA.out 0).trans rfl
        have k1 := (blk_cell DA.out 1).trans rfl
        have k2 := (blk_cell DA.out 2).trans rfl
        have k3 := (blk_cell DA.out 3).trans rfl
        have f0 := blk_frozen DA.out 0
        have f1 := blk_frozen DA.out 1
        have f2 := blk_frozen DA.out 2
        have f3 := blk_frozen DA.out 3
        clear V7 S7 SM
        go_upto_region 5 with fail
        have DB := Aside0.mk (put47 DA.out (.slice H0 ad1.ino.length j0) (.slice H1 ad1.dir.length j1) (.slice H2 ad1.dur.length j2) (.slice H3 ad1.ops.length j3))
        have CB := Aside0.mk (GA.out.put47 DA.out ⟨_, _, _, rfl⟩ ⟨_, _, _, rfl⟩ ⟨_, _, _, rfl⟩ ⟨_, _, _, rfl⟩ (.slice H0 ad1.ino.length j0) (.slice H1 ad1.dir.length j1) (.slice H2 ad1.dur.length j2) (.slice H3 ad1.ops.length j3))
        have TB := Aside0.mk (TA.out.put4 hgD (.slice H0 ad1.ino.length j0) (.slice H1 ad1.dir.length j1) (.slice H2 ad1.dur.length j2) (.slice H3 ad1.ops.length j3))
        have BB := Aside0.mk (below_put4 BA.out hTD (.slice H0 ad1.ino.length j0) (.slice H1 ad1.dir.length j1) (.slice H2 ad1.dur.length j2) (.slice H3 ad1.ops.length j3))
        generalize (((wA.setCell ⟨D, 0, none⟩ (.slice H0 ad1.ino.length j0)).setCell ⟨D, 1, none⟩ (.slice H1 ad1.dir.length j1)).setCell ⟨D, 2, none⟩ (.slice H2 ad1.dur.length j2)).setCell ⟨D, 3, none⟩ (.slice H3 ad1.ops.length j3) = wB at DB CB TB BB ⊢
        clear z0 z1 z2 z3 k0 k1 k2 k3 f0 f1 f2 f3 DA CA TA BA GA ZA
        go_wp2
        go_roundg (i - 1).toNat
        case measure => omega
        case rel => exact ⟨i - 1, ad1, _, _, _, _, _, _, _, _, by first | rfl | (simp [hsub]; done), by omega, by omega, by omega, V8, S8, DB, CB, TB, BB⟩
      · have hae2 : (ae == 0) = false := beq_eq_false_iff_ne.2 hae
        have S8 := Aside0.mk (show Sml (1000 - (i - 1).toNat) d' from hS.out.mono (by omega))
        clear SM GA ZA
        go_wp2
        go_roundg (i - 1).toNat
        case measure => omega
        case rel => exact ⟨i - 1, d', _, _, _, _, _, _, _, _, by first | rfl | (simp [hsub]; done), by omega, by omega, by omega, hV, S8, DA, CA, TA, BA⟩
    · have d0 := (blk_cell HD.out 0).trans rfl
      have d1 := (blk_cell HD.out 1).trans rfl
      have d2 := (blk_cell HD.out 2).trans rfl
      have d3 := (blk_cell HD.out 3).trans rfl
      go_wp2_with fail
      refine (validate_calls _ d' wr HC.out (hS.out.mono (by omega))).mono ?_
      rintro e w4 ⟨rfl, h2⟩
      rw [if_pos (Dk.valid_of.2 hV.out)]
      have B4 := Aside0.mk (below_step HB.out h2)
      clear h2 d0 d1 d2 d3 HD HC HT HB
      go_wp2_with fail
      refine (known43_calls w4).mono ?_
      rintro e w5 ⟨rfl, h2⟩
      have B5 := Aside0.mk (below_step B4.out h2)
      clear h2 B4
      go_wp2
      go_ret
      exact ⟨rfl, B5.out⟩
end Go.Proofs.Ytnaddmkaakdhoaa.J

end
