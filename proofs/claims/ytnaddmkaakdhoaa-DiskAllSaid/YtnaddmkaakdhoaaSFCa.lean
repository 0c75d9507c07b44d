/-
  Texts of this claim, joined, without what the claim does not use: XL19
-/
import Derived.Test.YtnaddmkaakdhoaaSDEj
section
namespace Go.Proofs.Ytnaddmkaakdhoaa.J
open Go.RowKit Go.Proofs.YtnaddmkaakdhoaaW.PrintWords Go.Proofs.YtnaddmkaakdhoaaW.PrintLast Go.Proofs.YtnaddmkaakdhoaaW.PrintMore
open Dk (Srt pos has valid app appAll applyAll Valid ent)
set_option linter.unusedVariables false
set_option linter.unusedSimpArgs false
theorem R49_keep {w0 W W' : World} {g T : Nat} {P : Nat → Prop} {v : Value} {l : List S49} (h : Kd.R k49 49 W T P v l) (hT : Tp w0 W g) (hk : KeepBut W W' g none) : Kd.R k49 49 W' T P v l := by
  obtain ⟨s, at_, ⟨A0, c0, hb, _, _⟩, _, _⟩ := hT
  exact Kd.R_mono (Kd.R_keep (Kd.R_types h hb (by decide)) hk (fun k hk => hk.2)) (fun k hk => hk.1)
theorem C49_off {W : World} {A : Option Addr} {n : Nat} {l : List S49} {D : Nat} {b0 b1 b2 b3 : Value} (hd : Kd.C k49 W A n l) (h : W.heap[D]? = some (.cells #[b0, b1, b2, b3] 47 (0, 0))) (h0 : ∃ B m c, b0 = .slice B m c) (h1 : ∃ B m c, b1 = .slice B m c) (h2 : ∃ B m c, b2 = .slice B m c) (h3 : ∃ B m c, b3 = .slice B m c) (a0 a1 a2 a3 : Value) : Kd.C k49 ((((W.setCell ⟨D, 0, none⟩ a0).setCell ⟨D, 1, none⟩ a1).setCell ⟨D, 2, none⟩ a2).setCell ⟨D, 3, none⟩ a3) A n l :=
  reads_far hd h (four_slices h0 h1 h2 h3) (fun k hk => (Below.heap_setCell _ ⟨D, 3, none⟩ a3 k hk).trans ((Below.heap_setCell _ ⟨D, 2, none⟩ a2 k hk).trans ((Below.heap_setCell _ ⟨D, 1, none⟩ a1 k hk).trans (Below.heap_setCell _ ⟨D, 0, none⟩ a0 k hk)))) (fun x c hk => by
    obtain rfl := k49_open hk
    exact ⟨k49_mk _ _, by simp⟩)
set_option maxHeartbeats 8000000 in
set_option maxRecDepth 100000 in
theorem diskAll_calls (A0 : Option Addr) (c0 : Nat) (l0 : List Int) (w : World) (hr0 : Kd.C (Kd.int .i64) w A0 l0.length l0) (hc0 : l0.length ≤ c0) :
    Calls Try.prog 19 #[.slice A0 l0.length c0] w fun e w' => e = .returned (.bool true) ∧ Below w.heap.size w w' := by
  obtain ⟨m, hm, hml⟩ := new_f l0
  go_enter Try.func19, Try.ntmps19
  go_wp2_with fail
  refine (corporamade_New.calls A0 c0 l0 m 0 w w (Below.refl _ _) hr0 hc0 hm).mono ?_
  rintro e w1 ⟨g, rfl, h1, h2, _⟩
  have HT1 := Aside0.mk (show Tp w w1 g from ⟨m, 0, h1, hml, Int.le_refl _⟩)
  have HB1 := Aside0.mk h2
  clear h1 h2 hm hml hr0 hc0
  go_wp2_with fail
  refine (next47_calls g 10 w w1 HT1.out HB1.out (by omega) (by omega)).mono ?_
  rintro e w3 ⟨r, rfl, r0, r14, h3, h4, h5⟩
  have HT := Aside0.mk h3
  have HB := Aside0.mk h4
  clear h3 h4 h5 HT1 HB1
  go_wp2_with fail
  go_loopg [4, 5] r.toNat (fun kx s4 s5 wr => ∃ (i : Int) (v : Value) (l : List S49), s5 = .int .i64 i ∧ s4 = v ∧ 0 ≤ i ∧ i ≤ 10 ∧ i.toNat ≤ kx ∧ l.length + i.toNat ≤ 10 ∧ Aside0 (∀ o ∈ l, o.f3.size ≤ 5) ∧ Aside0 (Kd.R k49 49 wr w.heap.size (fun _ => True) v l) ∧ Aside0 (Tp w wr g) ∧ Aside0 (Below w.heap.size w wr))
  case atStart => exact ⟨r, _, [], rfl, rfl, r0, by omega, Nat.le_refl _, by simp; omega, ⟨by simp⟩, ⟨Kd.R_nil _ _ _ _ _⟩, HT, HB⟩
  case round =>
    clear HT HB
    obtain ⟨i, v, l, rfl, rfl, hi0, hi1, hk, hll, HZ, HR, HT, HB⟩ := hrel
    by_cases hlt : 0 < i
    · have hsub : IntKind.i64.wrap (i - 1) = i - 1 := by rw [IntKind.wrap_i64]; omega
      go_wp2_with fail
      refine (op48_calls g w wr HT.out HB.out).mono ?_
      rintro e w4 ⟨o, rfl, ho, h3, h4, h5⟩
      have R4 := Aside0.mk (R49_keep HR.out HT.out h5)
      have T4 := Aside0.mk h3
      have B4 := Aside0.mk h4
      clear h3 h4 h5 HR HT HB
      obtain ⟨A, c, rfl⟩ := Kd.R_slice R4.out
      have bn := below_alloc (Below.refl w4.heap.size w4) (.cells #[.int .i64 o.f0, .string o.f1, .string o.f2, .string o.f3] 49)
      have QC := Aside0.mk (C49_one (x := o) (blk_new w4 (.cells #[.int .i64 o.f0, .string o.f1, .string o.f2, .string o.f3] 49)))
      have QR := Aside0.mk (Kd.R_below R4.out bn)
      have QT := Aside0.mk (Nat.le_trans B4.out.size bn.size)
      have QB := Aside0.mk (below_step B4.out bn)
      have QP := Aside0.mk (T4.out.below bn)
      have hl10 : l.length ≤ 10 := by omega
      clear bn
      go_wp2_with (at_builtin; go_loud (refine Kd.R_append_rows k49 (Rr := k49.K _) (w0 := w) w.heap.size rfl _ _ 45 49 (.agg #[.int .i64 0, .string ⟨#[]⟩, .string ⟨#[]⟩, .string ⟨#[]⟩]) 56 rfl Try.underlying45 info49 rfl (by decide) (by decide) (.slice A l.length c) l [o] (some ⟨w4.heap.size, 0, none⟩) 1 1 (fun _ => True) (fun _ => False) rfl rfl QR.out QC.out ?q2 ?q3 ?q4 QB.out QT.out ?q7 ?_); (case q2 => intro y cs h; obtain rfl := k49_open h; exact k49_mkM _ _ _ _); (case q3 => intro k h; exact h.elim); (case q4 => intro k hk; trivial); (case q7 => omega); intro v1 wA h1 h2 h3 h4; have RA := Aside0.mk h1; have BA := Aside0.mk h2; have TA := Aside0.mk (show Tp w wA g from by
        obtain ⟨s, at_, ⟨A0', c0', hb, hg, hr⟩, e1, e2⟩ := QP.out
        exact ⟨s, at_, ⟨A0', c0', blk_grown hb h3 (Kd.R_ne QR.out hb (by decide)), hg, hr⟩, e1, e2⟩); clear h1 h2 h3 h4)
      go_roundg (i - 1).toNat
      case measure => omega
      case rel => exact ⟨i - 1, v1, l ++ [o], by first | rfl | (simp [hsub]; done), rfl, by omega, by omega, by omega, by rw [List.length_append]; simp; omega, ⟨fun o' ho' => by
        rcases List.mem_append.1 ho' with h | h
        · exact HZ.out o' h
        · rw [List.mem_singleton.1 h]; exact ho⟩, RA, TA, BA⟩
    · obtain ⟨A, c, hv, hc, hC⟩ := Kd.R_reads HR.out
      subst hv
      have HL := Aside0.mk hC
      have hl10 : l.length ≤ 10 := by omega
      clear hC HR hk hll HT
      obtain ⟨dA, hdA⟩ : ∃ q : Dsk, q = (applyAll Dk.E0 l).1 := ⟨_, rfl⟩
      obtain ⟨eA, heA⟩ : ∃ q : Int, q = (applyAll Dk.E0 l).2 := ⟨_, rfl⟩
      have AC := (fun W h => applyAll_calls (.agg #[.slice none 0 0, .slice none 0 0, .slice none 0 0, .slice none 0 0]) Dk.E0 A c l W (DR.zero W 0).reads h hc ⟨Nat.zero_le _, Nat.zero_le _, Nat.zero_le _, Nat.zero_le _⟩ (by omega) (fun o ho => by have := HZ.out o ho; omega))
      rw [← hdA, ← heA] at AC
      have AP := Aside0.mk (show appAll Dk.E0 l = (dA, eA) from by
        rw [hdA, heA]; unfold Dk.applyAll; rw [if_pos Dk.valid_E0])
      have QA := Aside0.mk AC
      clear AC hdA heA
      obtain ⟨n, hn⟩ : ∃ n, n = l.length := ⟨_, rfl⟩
      have HN := Aside0.mk hn
      rw [← hn] at QA HL hc hl10 ⊢
      clear hn
      go_wp2_with fail
      refine (QA.out wr HL.out).mono ?_
      rintro e w5 ⟨v1, rfl, h1, h2⟩
      have CA := Aside0.mk h1.reads
      clear h1 QA
      obtain ⟨F0, f0, F1, f1, F2, f2, F3, f3, rfl, -⟩ := id CA.out
      have HB_ := Aside0.mk (below_step HB.out h2)
      have HL_ := Aside0.mk (Kd.C_below HL.out h2)
      clear HB
      have HB := HB_
      clear HB_
      clear HL
      have HL := HL_
      clear HL_
      clear h2
      go_upto_region 8 with fail
      obtain ⟨ob1, hob1⟩ : ∃ q : Obj, q = .cells #[.slice F0 dA.ino.length f0, .slice F1 dA.dir.length f1, .slice F2 dA.dur.length f2, .slice F3 dA.ops.length f3] 47 := ⟨_, rfl⟩
      rw [← hob1]
      obtain ⟨X, hX⟩ : ∃ q, q = w5.heap.size := ⟨_, rfl⟩
      have bb := below_alloc (Below.refl w5.heap.size w5) ob1
      have kk := blk_new w5 ob1
      rw [← hX] at kk ⊢
      have HB_ := Aside0.mk (below_step HB.out bb)
      have HL_ := Aside0.mk (Kd.C_below HL.out bb)
      have CA_ := Aside0.mk (CA.out.below bb)
      clear HB
      have HB := HB_
      clear HB_
      clear HL
      have HL := HL_
      clear HL_
      clear CA
      have CA := CA_
      clear CA_
      have KX := Aside0.mk kk
      clear bb kk
      generalize w5.alloc ob1 = wa1 at HB HL CA KX ⊢
      subst hob1
      clear hX
      go_upto_region 9 with fail
      obtain ⟨ob2, hob2⟩ : ∃ q : Obj, q = .cells #[.slice none 0 0, .slice none 0 0, .slice none 0 0, .slice none 0 0] 47 := ⟨_, rfl⟩
      rw [← hob2]
      obtain ⟨D, hD⟩ : ∃ q, q = wa1.heap.size := ⟨_, rfl⟩
      have bb := below_alloc (Below.refl wa1.heap.size wa1) ob2
      have kk := blk_new wa1 ob2
      rw [← hD] at kk ⊢
      have hTD : w.heap.size ≤ D := by have := HB.out.size; omega
      have hXD : X ≠ D := by have := blk_lt KX.out; omega
      have HB_ := Aside0.mk (below_step HB.out bb)
      have HL_ := Aside0.mk (Kd.C_below HL.out bb)
      have CA_ := Aside0.mk (CA.out.below bb)
      have KX_ := Aside0.mk (blk_below KX.out bb)
      clear HB
      have HB := HB_
      clear HB_
      clear HL
      have HL := HL_
      clear HL_
      clear CA
      have CA := CA_
      clear CA_
      clear KX
      have KX := KX_
      clear KX_
      have KD := Aside0.mk kk
      clear bb kk
      generalize wa1.alloc ob2 = wa2 at HB HL CA KX KD ⊢
      subst hob2
      clear hD
      have HC := Aside0.mk (show DC wa2 (.agg #[.slice none 0 0, .slice none 0 0, .slice none 0 0, .slice none 0 0]) Dk.E0 from (DR.zero _ 0).reads)
      go_wp2_with fail
      go_loopg [34] n (fun kx s wr2 => ∃ (i : Nat) (d' : Dsk) (C0 C1 C2 C3 : Option Addr) (e0 e1 e2 e3 : Nat), s = .int .i64 i ∧ i ≤ n ∧ n - i ≤ kx ∧ Aside0 (appAll d' (l.drop i) = (dA, eA)) ∧ Aside0 (Valid d') ∧ Aside0 (Sml (20000 + i) d') ∧ Aside0 (Below w.heap.size w wr2) ∧ Aside0 (Kd.C k49 wr2 A n l) ∧ Aside0 (wr2.heap[X]? = some (.cells #[.slice F0 dA.ino.length f0, .slice F1 dA.dir.length f1, .slice F2 dA.dur.length f2, .slice F3 dA.ops.length f3] 47 (0, 0))) ∧ Aside0 (wr2.heap[D]? = some (.cells #[.slice C0 d'.ino.length e0, .slice C1 d'.dir.length e1, .slice C2 d'.dur.length e2, .slice C3 d'.ops.length e3] 47 (0, 0))) ∧ Aside0 (DC wr2 (.agg #[.slice F0 dA.ino.length f0, .slice F1 dA.dir.length f1, .slice F2 dA.dur.length f2, .slice F3 dA.ops.length f3]) dA) ∧ Aside0 (DC wr2 (.agg #[.slice C0 d'.ino.length e0, .slice C1 d'.dir.length e1, .slice C2 d'.dur.length e2, .slice C3 d'.ops.length e3]) d'))
      case atStart => exact ⟨0, Dk.E0, none, none, none, none, 0, 0, 0, 0, rfl, Nat.zero_le _, by omega, AP, ⟨Dk.valid_of.1 Dk.valid_E0⟩, ⟨⟨Nat.zero_le _, Nat.zero_le _, Nat.zero_le _, Nat.zero_le _⟩⟩, HB, HL, KX, KD, CA, HC⟩
      case round =>
        clear HB HL KX KD CA HC
        obtain ⟨i, d', C0, C1, C2, C3, e0, e1, e2, e3, rfl, hi, hk, hA, hV, hS, HB, HL, KX, KD, CA, HC⟩ := hrel
        by_cases hlt : i < n
        · obtain ⟨ad, ea, hx0, hx1, hx2, hx3⟩ := at_T49 HL.out (i : Int) (by omega) (by omega)
          subst ea
          obtain ⟨y, hy⟩ : ∃ y, y = rd_T49 l (i : Int) := ⟨_, rfl⟩
          rw [← hy] at hx0 hx1 hx2 hx3
          have hil : i < l.length := by have := HN.out; omega
          have hyi : l[i] = y := by
            rw [hy]
            show _ = l.getD i z49
            rw [List.getD_eq_getElem?_getD, List.getElem?_eq_getElem hil]
            rfl
          have hdr := Aside0.mk (show appAll d' (y :: l.drop (i + 1)) = (dA, eA) from by rw [← hA.out, List.drop_eq_getElem_cons hil, hyi])
          have hyz := HZ.out y (hyi ▸ List.getElem_mem hil)
          clear hy hyi
          replace hx0 : wr.cell? (ad.add (i * 4)) = some (.int .i64 y.f0) := hx0
          replace hx1 : wr.cell? ⟨(ad.add (i * 4)).block, (ad.add (i * 4)).off + 1, none⟩ = some (.string y.f1) := hx1
          replace hx2 : wr.cell? ⟨(ad.add (i * 4)).block, (ad.add (i * 4)).off + 2, none⟩ = some (.string y.f2) := hx2
          replace hx3 : wr.cell? ⟨(ad.add (i * 4)).block, (ad.add (i * 4)).off + 3, none⟩ = some (.string y.f3) := hx3
          obtain ⟨ad1, hap⟩ : ∃ ap : Dsk, ap = (applyAll d' [y]).1 := ⟨_, rfl⟩
          obtain ⟨ae, her⟩ : ∃ er : Int, er = (applyAll d' [y]).2 := ⟨_, rfl⟩
          have P1 := (fun W h => apply1_calls (.agg #[.slice C0 d'.ino.length e0, .slice C1 d'.dir.length e1, .slice C2 d'.dur.length e2, .slice C3 d'.ops.length e3]) d' y W h (hS.out.mono (by omega)) (by omega))
          simp only [← hap, ← her] at P1
          have AP := Aside0.mk (show applyAll d' [y] = (ad1, ae) from by rw [hap, her])
          have Q1 := Aside0.mk P1
          clear P1 hap her
          go_upto_region 12 with fail
          obtain ⟨ob11, hob11⟩ : ∃ q : Obj, q = .cells #[.int .i64 y.f0, .string y.f1, .string y.f2, .string y.f3] 49 := ⟨_, rfl⟩
          rw [← hob11]
          obtain ⟨Y, hY⟩ : ∃ q, q = wr.heap.size := ⟨_, rfl⟩
          have bb := below_alloc (Below.refl wr.heap.size wr) ob11
          have kk := blk_new wr ob11
          rw [← hY] at kk ⊢
          have HB_ := Aside0.mk (below_step HB.out bb)
          have HL_ := Aside0.mk (Kd.C_below HL.out bb)
          have KX_ := Aside0.mk (blk_below KX.out bb)
          have KD_ := Aside0.mk (blk_below KD.out bb)
          have CA_ := Aside0.mk (CA.out.below bb)
          have HC_ := Aside0.mk (HC.out.below bb)
          clear HB
          have HB := HB_
          clear HB_
          clear HL
          have HL := HL_
          clear HL_
          clear KX
          have KX := KX_
          clear KX_
          clear KD
          have KD := KD_
          clear KD_
          clear CA
          have CA := CA_
          clear CA_
          clear HC
          have HC := HC_
          clear HC_
          have KY := Aside0.mk kk
          clear bb kk
          generalize wr.alloc ob11 = wa11 at HB HL KX KD CA HC KY ⊢
          subst hob11
          clear hY
          clear hx0 hx1 hx2 hx3
          have d0 := (blk_cell KD.out 0).trans rfl
          have d1 := (blk_cell KD.out 1).trans rfl
          have d2 := (blk_cell KD.out 2).trans rfl
          have d3 := (blk_cell KD.out 3).trans rfl
          have y0 := (blk_cell KY.out 0).trans rfl
          have y1 := (blk_cell KY.out 1).trans rfl
          have y2 := (blk_cell KY.out 2).trans rfl
          have y3 := (blk_cell KY.out 3).trans rfl
          go_wp2_with fail
          refine (Q1.out wa11 HC.out).mono ?_
          rintro e w8 ⟨v2, rfl, h1, h2⟩
          have CN := Aside0.mk h1.reads
          clear h1 Q1 d0 d1 d2 d3 y0 y1 y2 y3
          obtain ⟨H0, j0, H1, j1, H2, j2, H3, j3, rfl, -⟩ := id CN.out
          have HB_ := Aside0.mk (below_step HB.out h2)
          have HL_ := Aside0.mk (Kd.C_below HL.out h2)
          have KX_ := Aside0.mk (blk_below KX.out h2)
          have KD_ := Aside0.mk (blk_below KD.out h2)
          have CA_ := Aside0.mk (CA.out.below h2)
          have HC_ := Aside0.mk (HC.out.below h2)
          have KY_ := Aside0.mk (blk_below KY.out h2)
          clear HB
          have HB := HB_
          clear HB_
          clear HL
          have HL := HL_
          clear HL_
          clear KX
          have KX := KX_
          clear KX_
          clear KD
          have KD := KD_
          clear KD_
          clear CA
          have CA := CA_
          clear CA_
          clear HC
          have HC := HC_
          clear HC_
          clear KY
          have KY := KY_
          clear KY_
          clear h2
          go_upto_region 13 with fail
          obtain ⟨ob12, hob12⟩ : ∃ q : Obj, q = .cells #[.slice H0 ad1.ino.length j0, .slice H1 ad1.dir.length j1, .slice H2 ad1.dur.length j2, .slice H3 ad1.ops.length j3] 47 := ⟨_, rfl⟩
          rw [← hob12]
          obtain ⟨V, hV⟩ : ∃ q, q = w8.heap.size := ⟨_, rfl⟩
          have bb := below_alloc (Below.refl w8.heap.size w8) ob12
          have kk := blk_new w8 ob12
          rw [← hV] at kk ⊢
          have HB_ := Aside0.mk (below_step HB.out bb)
          have HL_ := Aside0.mk (Kd.C_below HL.out bb)
          have KX_ := Aside0.mk (blk_below KX.out bb)
          have KD_ := Aside0.mk (blk_below KD.out bb)
          have CA_ := Aside0.mk (CA.out.below bb)
          have HC_ := Aside0.mk (HC.out.below bb)
          have KY_ := Aside0.mk (blk_below KY.out bb)
          have CN_ := Aside0.mk (CN.out.below bb)
          clear HB
          have HB := HB_
          clear HB_
          clear HL
          have HL := HL_
          clear HL_
          clear KX
          have KX := KX_
          clear KX_
          clear KD
          have KD := KD_
          clear KD_
          clear CA
          have CA := CA_
          clear CA_
          clear HC
          have HC := HC_
          clear HC_
          clear KY
          have KY := KY_
          clear KY_
          clear CN
          have CN := CN_
          clear CN_
          have KV := Aside0.mk kk
          clear bb kk
          generalize w8.alloc ob12 = wa12 at HB HL KX KD CA HC KY CN KV ⊢
          subst hob12
          clear hV
          have AA := Aside0.mk (app_one (o := y) hV.out)
          rw [AP.out] at AA
          by_cases hae : ae = 0
          · subst hae
            have APP : app d' y = (ad1, 0) := by
              rcases AA.out with h | ⟨h, h2⟩
              · exact h.symm
              · injection h2 with _ h2; exact absurd h2.symm h
            have V7 := Aside0.mk (show Valid ad1 from by have := Dk.valid_app hV.out y (by rw [APP]); rwa [APP] at this)
            have S7 := Aside0.mk (show Sml (20000 + (i + 1)) ad1 from by have := Dk.Sml_app hS.out y; rwa [APP] at this)
            have A7 := Aside0.mk (show appAll ad1 (l.drop (i + 1)) = (dA, eA) from by
              have := hdr.out
              unfold Dk.appAll at this
              rwa [APP, if_pos rfl] at this)
            clear APP AA AP
            have v0 := (blk_cell KV.out 0).trans rfl
            have v1 := (blk_cell KV.out 1).trans rfl
            have v2 := (blk_cell KV.out 2).trans rfl
            have v3 := (blk_cell KV.out 3).trans rfl
            have d0 := (blk_cell KD.out 0).trans rfl
            have d1 := (blk_cell KD.out 1).trans rfl
            have d2 := (blk_cell KD.out 2).trans rfl
            have d3 := (blk_cell KD.out 3).trans rfl
            have df0 := blk_frozen KD.out 0
            have df1 := blk_frozen KD.out 1
            have df2 := blk_frozen KD.out 2
            have df3 := blk_frozen KD.out 3
            go_upto_region 16 with fail
            have KD2 := Aside0.mk (put47 KD.out (.slice H0 ad1.ino.length j0) (.slice H1 ad1.dir.length j1) (.slice H2 ad1.dur.length j2) (.slice H3 ad1.ops.length j3))
            have KX2 := Aside0.mk (far47 KX.out hXD (.slice H0 ad1.ino.length j0) (.slice H1 ad1.dir.length j1) (.slice H2 ad1.dur.length j2) (.slice H3 ad1.ops.length j3))
            have CN2 := Aside0.mk (CN.out.put47 KD.out ⟨_, _, _, rfl⟩ ⟨_, _, _, rfl⟩ ⟨_, _, _, rfl⟩ ⟨_, _, _, rfl⟩ (.slice H0 ad1.ino.length j0) (.slice H1 ad1.dir.length j1) (.slice H2 ad1.dur.length j2) (.slice H3 ad1.ops.length j3))
            have CA2 := Aside0.mk (CA.out.put47 KD.out ⟨_, _, _, rfl⟩ ⟨_, _, _, rfl⟩ ⟨_, _, _, rfl⟩ ⟨_, _, _, rfl⟩ (.slice H0 ad1.ino.length j0) (.slice H1 ad1.dir.length j1) (.slice H2 ad1.dur.length j2) (.slice H3 ad1.ops.length j3))
            have HL2 := Aside0.mk (C49_off HL.out KD.out ⟨_, _, _, rfl⟩ ⟨_, _, _, rfl⟩ ⟨_, _, _, rfl⟩ ⟨_, _, _, rfl⟩ (.slice H0 ad1.ino.length j0) (.slice H1 ad1.dir.length j1) (.slice H2 ad1.dur.length j2) (.slice H3 ad1.ops.length j3))
            have HB2 := Aside0.mk (below_put4 HB.out hTD (.slice H0 ad1.ino.length j0) (.slice H1 ad1.dir.length j1) (.slice H2 ad1.dur.length j2) (.slice H3 ad1.ops.length j3))
            generalize ((((wa12.setCell ⟨D, 0, none⟩ (.slice H0 ad1.ino.length j0)).setCell ⟨D, 1, none⟩ (.slice H1 ad1.dir.length j1)).setCell ⟨D, 2, none⟩ (.slice H2 ad1.dur.length j2)).setCell ⟨D, 3, none⟩ (.slice H3 ad1.ops.length j3)) = wB at KD2 KX2 CN2 CA2 HL2 HB2 ⊢
            clear v0 v1 v2 v3 d0 d1 d2 d3 df0 df1 df2 df3 KD KX CN CA HL HB KV KY HC
            go_wp2
            go_roundg (n - i - 1)
            case measure => omega
            case rel => exact ⟨i + 1, ad1, _, _, _, _, _, _, _, _, by first | rfl | (simp; done), hlt, by omega, A7, V7, S7, HB2, HL2, KX2, KD2, CA2, CN2⟩
          · have E2 : dA = Dk.E0 ∧ eA = ae := by
              have := hdr.out
              unfold Dk.appAll at this
              rcases AA.out with h | ⟨h, h2⟩
              · rw [← h, if_neg hae] at this
                injection this with h1 h2
                exact ⟨h1.symm, h2.symm⟩
              · injection h2 with h3 h4
                rw [if_neg h] at this
                injection this with h1 h2
                exact ⟨h1.symm, h2.symm.trans h4.symm⟩
            obtain ⟨rfl, rfl⟩ := E2
            have hae2 : (eA == 0) = false := beq_eq_false_iff_ne.2 hae
            have hae3 : (eA == eA) = true := beq_self_eq_true eA
            clear AA AP
            have x0 := (blk_cell KX.out 0).trans rfl
            have x1 := (blk_cell KX.out 1).trans rfl
            have x2 := (blk_cell KX.out 2).trans rfl
            have x3 := (blk_cell KX.out 3).trans rfl
            go_wp2_with fail
            refine (same37_calls _ _ Dk.E0 wa12 CA.out (DR.zero _ 0).reads ⟨Nat.zero_le _, Nat.zero_le _, Nat.zero_le _, Nat.zero_le _⟩).mono ?_
            rintro e w20 ⟨rfl, h2⟩
            clear KD KX CN CA HL KV KY HC x0 x1 x2 x3
            have HB_ := Aside0.mk (below_step HB.out h2)
            clear HB
            have HB := HB_
            clear HB_
            clear h2
            go_wp2_with fail
            refine (known43_calls w20).mono ?_
            rintro e w21 ⟨rfl, h2⟩
            have HB_ := Aside0.mk (below_step HB.out h2)
            clear HB
            have HB := HB_
            clear HB_
            clear h2
            go_wp2
            go_ret
            exact ⟨rfl, HB.out⟩
        · have E2 : dA = d' ∧ eA = 0 := by
            have := hA.out
            rw [List.drop_of_length_le (by have := HN.out; omega)] at this
            unfold Dk.appAll at this
            injection this with h1 h2
            exact ⟨h1.symm, h2.symm⟩
          obtain ⟨rfl, rfl⟩ := E2
          have x0 := (blk_cell KX.out 0).trans rfl
          have x1 := (blk_cell KX.out 1).trans rfl
          have x2 := (blk_cell KX.out 2).trans rfl
          have x3 := (blk_cell KX.out 3).trans rfl
          have d0 := (blk_cell KD.out 0).trans rfl
          have d1 := (blk_cell KD.out 1).trans rfl
          have d2 := (blk_cell KD.out 2).trans rfl
          have d3 := (blk_cell KD.out 3).trans rfl
          go_wp2_with fail
          refine (same37_calls _ _ dA wr CA.out HC.out (hS.out.mono (by omega))).mono ?_
          rintro e w20 ⟨rfl, h2⟩
          clear KD KX CA HL HC x0 x1 x2 x3 d0 d1 d2 d3
          have HB_ := Aside0.mk (below_step HB.out h2)
          clear HB
          have HB := HB_
          clear HB_
          clear h2
          go_wp2_with fail
          refine (known43_calls w20).mono ?_
          rintro e w21 ⟨rfl, h2⟩
          have HB_ := Aside0.mk (below_step HB.out h2)
          clear HB
          have HB := HB_
          clear HB_
          clear h2
          go_wp2
          go_ret
          exact ⟨rfl, HB.out⟩
end Go.Proofs.Ytnaddmkaakdhoaa.J

end
