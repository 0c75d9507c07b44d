/-
  Texts of this claim, joined, without what the claim does not use: XRe XRf XDy XDA XDR
-/
import Derived.Test.YtnaddmkaakdhoaaSCAi
section
namespace Go.Proofs.Ytnaddmkaakdhoaa.Dk
open J
def EntOK (p : List S69) (y : S69) (n : Nat) : Prop := vname y.f0 = true ∧ (∀ x, p.getLast? = some x → nk x.f0 < nk y.f0) ∧ 0 ≤ y.f1 ∧ y.f1 < n
noncomputable instance (p : List S69) (y : S69) (n : Nat) : Decidable (EntOK p y n) := Classical.propDecidable _
end Go.Proofs.Ytnaddmkaakdhoaa.Dk
namespace Go.Proofs.Ytnaddmkaakdhoaa.J
open Go.RowKit Go.Proofs.YtnaddmkaakdhoaaW.PrintWords Go.Proofs.YtnaddmkaakdhoaaW.PrintLast Go.Proofs.YtnaddmkaakdhoaaW.PrintMore
open Dk (Srt DirOK marked vname)
set_option linter.unusedVariables false
set_option linter.unusedSimpArgs false
set_option maxHeartbeats 8000000 in
set_option maxRecDepth 100000 in
theorem directory68_calls (A : Option Addr) (c : Nat) (l : List S69) (n : Nat) (w : World) (hr : Kd.C k69 w A l.length l) (hc : l.length ≤ c) :
    Calls Try.prog 68 #[.slice A l.length c, .int .i64 (n : Nat)] w fun e w' => e = .returned (.bool (decide (DirOK l n))) ∧ Below w.heap.size w w' := by
  have HR := Aside0.mk hr
  have hlen : l.length ≤ 9223372036854775807 := hr.2.1
  obtain ⟨ln, hln⟩ : ∃ ln, ln = l.length := ⟨_, rfl⟩
  have HL := Aside0.mk hln
  rw [← hln] at hlen hc ⊢
  obtain ⟨r, hrr⟩ : ∃ r, r = decide (DirOK l n) := ⟨_, rfl⟩
  rw [← hrr]
  have RR := Aside0.mk hrr
  have hfo : Try.prog.follows Departure.mixedOrders = true := by kernel_rfl
  clear hrr hr hln
  go_enter Try.func68, Try.ntmps68
  go_wp2_with fail
  go_loopg [11] ln (fun kx s11 wr => ∃ i : Nat, s11 = .int .i64 i ∧ i ≤ ln ∧ ln - i ≤ kx ∧ Aside0 (DirOK (l.take i) n) ∧ Aside0 (Below w.heap.size w wr))
  case atStart => exact ⟨0, rfl, Nat.zero_le _, by omega, ⟨⟨fun x hx => by simp at hx, List.Pairwise.nil, List.nodup_nil⟩⟩, ⟨Below.refl _ _⟩⟩
  case round =>
    obtain ⟨i, rfl, hi, hk, hD, HB⟩ := hrel
    by_cases hlt : i < ln
    · obtain ⟨ad, ea, hx0, hx1⟩ := at_T69 HR.out (i : Int) (by omega) (by have := HL.out; omega)
      subst ea
      obtain ⟨y, hy⟩ : ∃ y, y = rd_T69 l (i : Int) := ⟨_, rfl⟩
      rw [← hy] at hx0 hx1
      have hil : i < l.length := by have := HL.out; omega
      have hyi : l[i] = y := by
        rw [hy]
        show _ = l.getD i z69
        rw [Dk.getD_eq hil]
      have hsp : l = (l.take i ++ [y]) ++ l.drop (i + 1) := by
        rw [← hyi, List.append_assoc, List.singleton_append, ← List.drop_eq_getElem_cons hil, List.take_append_drop]
      have htk : l.take (i + 1) = l.take i ++ [y] := by rw [List.take_succ_eq_append_getElem hil, hyi]
      have HS := Aside0.mk hsp
      have HT := Aside0.mk htk
      have hlast : ∀ i' x, i = i' + 1 → l.getD i' z69 = x → (l.take i).getLast? = some x := fun i' x h1 h2 => by
        subst h1
        rw [List.take_succ_eq_append_getElem (by omega), List.getLast?_concat, ← h2, Dk.getD_eq (by omega)]
      have HLa := Aside0.mk hlast
      clear hy hsp htk hlast hyi
      replace hx0 : wr.cell? (ad.add (i * 2)) = some (.string y.f0) := pw_cell_below HB.out hx0
      replace hx1 : wr.cell? ⟨(ad.add (i * 2)).block, (ad.add (i * 2)).off + 1, none⟩ = some (.int .i64 y.f1) := pw_cell_below HB.out hx1
      have bN := (Below.refl wr.heap.size wr).alloc (Nat.le_refl _) (.cells #[.string y.f0, .int .i64 y.f1] 69)
      have kN := Aside0.mk (blk_new wr (.cells #[.string y.f0, .int .i64 y.f1] 69))
      have BN := Aside0.mk bN
      have z0 : (wr.alloc (.cells #[.string y.f0, .int .i64 y.f1] 69)).cell? ⟨wr.heap.size, 0, none⟩ = some (.string y.f0) := (blk_cell kN.out 0).trans rfl
      have z1 : (wr.alloc (.cells #[.string y.f0, .int .i64 y.f1] 69)).cell? ⟨wr.heap.size, 1, none⟩ = some (.int .i64 y.f1) := (blk_cell kN.out 1).trans rfl
      obtain ⟨bb, hbb⟩ : ∃ bb, bb = decide (¬ Dk.EntOK (l.take i) y n) := ⟨_, rfl⟩
      have HBB := Aside0.mk hbb
      clear hbb
      have V := Aside0.mk (fun w' => vname82_quiet y.f0 w')
      go_upto_region 4 with fail
      go_cut [45] (fun c wx => c = .bool bb ∧ ∃ nq, wx = (wr.alloc (.cells #[.string y.f0, .int .i64 y.f1] 69)).drewN nq)
      case first =>
        obtain ⟨vb, hvb⟩ : ∃ vb, vb = vname y.f0 := ⟨_, rfl⟩
        rw [← hvb] at V
        have HV := Aside0.mk hvb
        clear hvb
        cases vb with
        | false =>
          go_big_quiet_o ((go_at_call 82; exact Calls.quiet_of ((V.out _).mono (fun e w' h => ⟨h.1, h.2.out⟩))))
          go_wp2
          go_meet
          exact ⟨congrArg Value.bool (HBB.out.trans (decide_eq_true (fun h => by have := h.1; rw [← HV.out] at this; cases this))).symm, _, rfl⟩
        | true =>
          by_cases h0 : y.f1 < 0
          · have hd : decide (y.f1 < 0) = true := decide_eq_true h0
            go_big_quiet_o ((go_at_call 82; exact Calls.quiet_of ((V.out _).mono (fun e w' h => ⟨h.1, h.2.out⟩))))
            go_wp2
            go_meet
            exact ⟨congrArg Value.bool (HBB.out.trans (decide_eq_true (fun h => by have := h.2.2; omega))).symm, _, rfl⟩
          · by_cases h1 : (n : Int) ≤ y.f1
            · have hd : decide (y.f1 < 0) = false := decide_eq_false h0
              have hd2 : decide ((n : Int) ≤ y.f1) = true := decide_eq_true h1
              go_big_quiet_o ((go_at_call 82; exact Calls.quiet_of ((V.out _).mono (fun e w' h => ⟨h.1, h.2.out⟩))))
              go_wp2
              go_meet
              exact ⟨congrArg Value.bool (HBB.out.trans (decide_eq_true (fun h => by have := h.2.2; omega))).symm, _, rfl⟩
            · have hd : decide (y.f1 < 0) = false := decide_eq_false h0
              have hd2 : decide ((n : Int) ≤ y.f1) = false := decide_eq_false h1
              by_cases hpos : 0 < i
              · obtain ⟨k, hk1⟩ : ∃ k, i = k + 1 := ⟨i - 1, by omega⟩
                obtain ⟨ad2, ea, hp0, hp1⟩ := at_T69 HR.out (k : Int) (by omega) (by have := HL.out; omega)
                cases ea
                obtain ⟨yp, hyp⟩ : ∃ yp, yp = rd_T69 l (k : Int) := ⟨_, rfl⟩
                rw [← hyp] at hp0 hp1
                have LA := Aside0.mk (HLa.out k yp hk1 (by rw [hyp]; rfl))
                replace hp0 : (wr.alloc (.cells #[.string y.f0, .int .i64 y.f1] 69)).cell? (ad.add ((i - 1) * 2)) = some (.string yp.f0) := by
                  rw [show i - 1 = k by omega]
                  exact pw_cell_below bN (pw_cell_below HB.out hp0)
                clear hyp hp1
                have hk0 : (0 : Int) ≤ (i : Int) - 1 := by omega
                have hkl : (i : Int) - 1 < (ln : Int) := by omega
                have hg0 : decide ((0 : Int) < (i : Int)) = true := decide_eq_true (by omega)
                clear hk1
                by_cases hge : Dk.nk yp.f0 < Dk.nk y.f0
                · have hbl : Op.bytesLess yp.f0.toList y.f0.toList = true := by rw [bl_eq]; exact decide_eq_true hge
                  go_big_quiet_o ((go_at_call 82; exact Calls.quiet_of ((V.out _).mono (fun e w' h => ⟨h.1, h.2.out⟩))))
                  go_wp2
                  go_meet
                  exact ⟨congrArg Value.bool (HBB.out.trans (decide_eq_false (fun h => h ⟨HV.out.symm, fun x hx => by obtain rfl := Option.some.inj (hx.symm.trans LA.out); exact hge, by omega, by omega⟩))).symm, _, rfl⟩
                · have hbl : Op.bytesLess yp.f0.toList y.f0.toList = false := by rw [bl_eq]; exact decide_eq_false hge
                  go_big_quiet_o ((go_at_call 82; exact Calls.quiet_of ((V.out _).mono (fun e w' h => ⟨h.1, h.2.out⟩))))
                  go_wp2
                  go_meet
                  exact ⟨congrArg Value.bool (HBB.out.trans (decide_eq_true (fun h => by exact hge (h.2.1 _ LA.out)))).symm, _, rfl⟩
              · have hg0 : decide ((0 : Int) < (i : Int)) = false := decide_eq_false (by omega)
                go_big_quiet_o ((go_at_call 82; exact Calls.quiet_of ((V.out _).mono (fun e w' h => ⟨h.1, h.2.out⟩))))
                go_wp2
                go_meet
                exact ⟨congrArg Value.bool (HBB.out.trans (decide_eq_false (fun h => h ⟨HV.out.symm, fun x hx => by rw [show i = 0 by omega] at hx; simp at hx, by omega, by omega⟩))).symm, _, rfl⟩
      case rest =>
        obtain ⟨rfl, nq, rfl⟩ := hcut
        have WB := Aside0.mk (pw_below_drewN (HB.out.trans (bN.mono HB.out.size)) nq)
        cases bb with
        | true =>
          have hnot : ¬ DirOK l n := fun h => by
            have h2 := of_decide_eq_true HBB.out.symm
            rw [HS.out] at h
            have h3 := (Dk.DirOK_snoc.1 (Dk.DirOK_pre h)).2
            exact h2 ⟨h3.1, h3.2.1, h3.2.2.1, h3.2.2.2.1⟩
          have hr1 : r = false := by rw [RR.out]; exact decide_eq_false hnot
          subst hr1
          clear RR hnot
          go_wp2
          go_ret
          exact ⟨rfl, WB.out⟩
        | false =>
          have hok : Dk.EntOK (l.take i) y n := Classical.not_not.1 (of_decide_eq_false HBB.out.symm)
          have OKE := Aside0.mk hok
          have kM : ((wr.alloc (.cells #[.string y.f0, .int .i64 y.f1] 69)).drewN nq).heap[wr.heap.size]? = _ := kN.out
          generalize (wr.alloc (.cells #[.string y.f0, .int .i64 y.f1] 69)).drewN nq = W at WB kM ⊢
          obtain ⟨M, hM⟩ : ∃ M, M = wr.heap.size := ⟨_, rfl⟩
          rw [← hM] at kM ⊢
          have KM := Aside0.mk kM
          have MW := Aside0.mk (show M < W.heap.size from blk_lt kM)
          have HT2 := HT
          clear hok hx0 hx1 z0 z1 kN hM kM bN BN HT HLa HBB V HB
          have hic : i ≤ c := by omega
          go_wp2_with fail
          go_loopg [50] i (fun kx s50 wr => ∃ t : Nat, s50 = .int .i64 t ∧ t ≤ i ∧ i - t ≤ kx ∧ Aside0 (∀ s, s < t → (l.getD s z69).f1 ≠ y.f1) ∧ Aside0 (wr.heap[M]? = some (.cells #[.string y.f0, .int .i64 y.f1] 69)) ∧ Aside0 (Below w.heap.size w wr))
          case atStart => exact ⟨0, rfl, Nat.zero_le _, by omega, ⟨fun s hs => absurd hs (Nat.not_lt_zero _)⟩, KM, WB⟩
          case round =>
            clear WB KM MW
            obtain ⟨t, rfl, ht, hkt, hN, KM, WB⟩ := hrel
            by_cases hti : t < i
            · obtain ⟨ad2, ea, hp0, hp1⟩ := at_T69 HR.out (t : Int) (by omega) (by have := HL.out; omega)
              cases ea
              obtain ⟨yp, hyp⟩ : ∃ yp, yp = rd_T69 l (t : Int) := ⟨_, rfl⟩
              rw [← hyp] at hp0 hp1
              have YP := Aside0.mk (show l.getD t z69 = yp from by rw [hyp]; rfl)
              replace hp0 : wr.cell? (ad.add (t * 2)) = some (.string yp.f0) := pw_cell_below WB.out hp0
              replace hp1 : wr.cell? ⟨(ad.add (t * 2)).block, (ad.add (t * 2)).off + 1, none⟩ = some (.int .i64 yp.f1) := pw_cell_below WB.out hp1
              have bN := (Below.refl wr.heap.size wr).alloc (Nat.le_refl _) (.cells #[.string yp.f0, .int .i64 yp.f1] 69)
              have z1 : (wr.alloc (.cells #[.string yp.f0, .int .i64 yp.f1] 69)).cell? ⟨wr.heap.size, 1, none⟩ = some (.int .i64 yp.f1) := (blk_cell (blk_new wr (.cells #[.string yp.f0, .int .i64 yp.f1] 69)) 1).trans rfl
              have hlw : M < wr.heap.size := blk_lt KM.out
              have kM2 := (bN.block _ hlw).trans KM.out
              have y1 : (wr.alloc (.cells #[.string yp.f0, .int .i64 yp.f1] 69)).cell? ⟨M, 1, none⟩ = some (.int .i64 y.f1) := (blk_cell kM2 1).trans rfl
              have KM2 := Aside0.mk kM2
              have WB2 := Aside0.mk (WB.out.trans (bN.mono WB.out.size))
              clear hyp kM2 hlw bN
              go_wp2_with fail
              all_goals
                first
                | (have he : yp.f1 = y.f1 := eq_of_beq (by assumption : (yp.f1 == y.f1) = true)
                   have hnot : ¬ DirOK l n := fun h => by
                    have h2 : marked (l.take i) y.f1.toNat = false := by
                      rw [HS.out] at h
                      exact (Dk.DirOK_snoc.1 (Dk.DirOK_pre h)).2.2.2.2.2
                    have h3 : marked (l.take i) y.f1.toNat = true := List.any_eq_true.2 ⟨yp, by
                      have hil : t < l.length := by have := HL.out; omega
                      rw [← YP.out, Dk.getD_eq hil]
                      exact List.mem_take_iff_getElem.2 ⟨t, by omega, rfl⟩, decide_eq_true (by have := OKE.out.2.2; omega)⟩
                    rw [h2] at h3; cases h3
                   have hr1 : r = false := by rw [RR.out]; exact decide_eq_false hnot
                   subst hr1
                   go_ret
                   exact ⟨rfl, WB2.out⟩)
                | (have he : ¬ yp.f1 = y.f1 := ne_of_beq_false (by assumption : (yp.f1 == y.f1) = false)
                   have NE := Aside0.mk he
                   clear he
                   go_roundg (i - t - 1)
                   case measure => omega
                   case rel =>
                     exact ⟨t + 1, by first | rfl | (simp; done), hti, by omega, ⟨fun s hs => by
                       by_cases hst : s = t
                       · rw [hst, YP.out]; exact NE.out
                       · exact hN.out s (by omega)⟩, KM2, WB2⟩)
            · go_wp2_with fail
              go_roundg (ln - i - 1)
              case measure => omega
              case rel =>
                refine ⟨i + 1, by first | rfl | (simp; done), hlt, by omega, ⟨?_⟩, WB⟩
                rw [HT2.out]
                refine Dk.DirOK_snoc.2 ⟨hD.out, OKE.out.1, OKE.out.2.1, OKE.out.2.2.1, OKE.out.2.2.2, ?_⟩
                refine Bool.eq_false_iff.2 fun h => ?_
                obtain ⟨x, hx, hx2⟩ := List.any_eq_true.1 h
                obtain ⟨s, hs, rfl⟩ := List.mem_take_iff_getElem.1 hx
                have h5 := hN.out s (by omega)
                rw [Dk.getD_eq (by omega)] at h5
                have h6 := of_decide_eq_true hx2
                exact h5 (by have := OKE.out.2.2; omega)
    · have e : DirOK l n := by have := hD.out; rwa [List.take_of_length_le (by have := HL.out; omega)] at this
      have hr1 : r = true := by rw [RR.out]; exact decide_eq_true e
      subst hr1
      clear e hD RR
      go_wp2
      go_ret
      exact ⟨rfl, HB.out⟩
end Go.Proofs.Ytnaddmkaakdhoaa.J

end
section
namespace Go.Proofs.Ytnaddmkaakdhoaa.J
open Go.RowKit Go.Proofs.YtnaddmkaakdhoaaW.PrintWords Go.Proofs.YtnaddmkaakdhoaaW.PrintLast Go.Proofs.YtnaddmkaakdhoaaW.PrintMore
open Dk (Srt crt rep repd DirOK marked valid valid_iff inoBad)
set_option linter.unusedVariables false
set_option linter.unusedSimpArgs false
attribute [local go_sem high] eqA69
theorem marked_take {l : List S69} {t i : Nat} {y : S69} (h : t < l.length) (hy : l.getD t z69 = y) : marked (l.take (t + 1)) i = (marked (l.take t) i || decide (y.f1 = (i : Int))) := by
  rw [List.take_succ_eq_append_getElem h, Dk.marked_snoc, ← hy, Dk.getD_eq h]
set_option maxHeartbeats 8000000 in
set_option maxRecDepth 100000 in
theorem validate36_calls (a : Value) (d : Dsk) (w : World) (hd : DC w a d) (hs : Sml 40000 d) :
    Calls Try.prog 36 #[a] w fun e w' => e = .returned (.int .i64 (if valid d = true then 0 else 9)) ∧ Below w.heap.size w w' := by
  obtain ⟨A0, c0, A1, c1, A2, c2, A3, c3, rfl, ⟨r0, l0⟩, ⟨r1, l1⟩, ⟨r2, l2⟩, ⟨r3, l3⟩⟩ := hd
  have SM := Aside0.mk hs
  obtain ⟨n0, n1, n2, n3⟩ := hs
  obtain ⟨r, hr⟩ : ∃ r : Int, r = if valid d = true then 0 else 9 := ⟨_, rfl⟩
  rw [← hr]
  have HV := Aside0.mk (show ¬ valid d = true → r = 9 from fun h => by rw [hr, if_neg h])
  have HW := Aside0.mk (show valid d = true → r = 0 from fun h => by rw [hr, if_pos h])
  have R0 := Aside0.mk r0
  have R1 := Aside0.mk r1
  have R2 := Aside0.mk r2
  have R3 := Aside0.mk r3
  have DD := Aside0.mk (show DC w (.agg #[.slice A0 d.ino.length c0, .slice A1 d.dir.length c1, .slice A2 d.dur.length c2, .slice A3 d.ops.length c3]) d from ⟨A0, c0, A1, c1, A2, c2, A3, c3, rfl, ⟨r0, l0⟩, ⟨r1, l1⟩, ⟨r2, l2⟩, ⟨r3, l3⟩⟩)
  clear hr r0 r1 r2 r3
  obtain ⟨n, hn⟩ : ∃ n, n = d.ino.length := ⟨_, rfl⟩
  have HN := Aside0.mk hn
  rw [← hn] at l0 n0 ⊢
  obtain ⟨b1, hb1⟩ : ∃ b1, b1 = decide (DirOK d.dir n) := ⟨_, rfl⟩
  obtain ⟨b2, hb2⟩ : ∃ b2, b2 = decide (DirOK d.dur n) := ⟨_, rfl⟩
  have C1 := Aside0.mk (fun w' hr' => directory68_calls A1 c1 d.dir n w' hr' l1)
  have C2 := Aside0.mk (fun w' hr' => directory68_calls A2 c2 d.dur n w' hr' l2)
  rw [← hb1] at C1
  rw [← hb2] at C2
  have H1 := Aside0.mk hb1
  have H2 := Aside0.mk hb2
  have CQ := Aside0.mk (fun w' hC => creates_calls A3 c3 d.ops w' hC l3)
  have hqle : crt d.ops ≤ d.ops.length := List.countP_le_length
  obtain ⟨q, hq⟩ : ∃ q, q = crt d.ops := ⟨_, rfl⟩
  rw [← hq] at CQ hqle
  have HQ := Aside0.mk hq
  have hm0 : IntKind.i64.wrap ((n : Int) - (q : Int)) = (n : Int) - (q : Int) := by rw [IntKind.wrap_i64]; omega
  clear hb1 hb2 hq hn
  go_enter Try.func36, Try.ntmps36
  go_upto_region 2 with fail
  have B0 := (Below.refl w.heap.size w).alloc (Nat.le_refl _) (.cells #[.slice A0 n c0, .slice A1 d.dir.length c1, .slice A2 d.dur.length c2, .slice A3 d.ops.length c3] 47)
  have k0 := blk_new w (.cells #[.slice A0 n c0, .slice A1 d.dir.length c1, .slice A2 d.dur.length c2, .slice A3 d.ops.length c3] 47)
  generalize w.alloc (.cells #[.slice A0 n c0, .slice A1 d.dir.length c1, .slice A2 d.dur.length c2, .slice A3 d.ops.length c3] 47) = W0 at B0 k0 ⊢
  obtain ⟨D, hD⟩ : ∃ D, D = w.heap.size := ⟨_, rfl⟩
  have HD := Aside0.mk hD
  rw [← hD] at k0 ⊢
  have K0 := Aside0.mk k0
  have HB0 := Aside0.mk B0
  have z3 : W0.cell? ⟨D, 3, none⟩ = some (.slice A3 d.ops.length c3) := (blk_cell k0 3).trans rfl
  clear hD k0 B0
  go_wp2_with fail
  refine (CQ.out W0 (Kd.C_below R3.out HB0.out)).mono ?_
  rintro e w1 ⟨rfl, hb1⟩
  have HB1 := Aside0.mk (below_step HB0.out hb1)
  have K1 := Aside0.mk (blk_below K0.out hb1)
  clear z3 hb1 CQ HB0 K0
  have z1 : w1.cell? ⟨D, 1, none⟩ = some (.slice A1 d.dir.length c1) := (blk_cell K1.out 1).trans rfl
  go_wp2_with fail
  refine (C1.out w1 (Kd.C_below R1.out HB1.out)).mono ?_
  rintro e w2 ⟨rfl, hb2⟩
  have HB2 := Aside0.mk (below_step HB1.out hb2)
  have K2 := Aside0.mk (blk_below K1.out hb2)
  clear z1 hb2 C1 HB1 K1
  cases b1 with
  | false =>
    have e := HV.out (fun h => by
      have := (valid_iff.1 h).1
      rw [← HN.out] at this
      exact of_decide_eq_false H1.out.symm this)
    subst e
    clear HV HW
    go_wp2
    go_ret
    exact ⟨rfl, HB2.out⟩
  | true =>
    have z2 : w2.cell? ⟨D, 2, none⟩ = some (.slice A2 d.dur.length c2) := (blk_cell K2.out 2).trans rfl
    go_wp2_with fail
    refine (C2.out w2 (Kd.C_below R2.out HB2.out)).mono ?_
    rintro e w3 ⟨rfl, hb3⟩
    have HB3 := Aside0.mk (below_step HB2.out hb3)
    have K3 := Aside0.mk (blk_below K2.out hb3)
    clear z2 hb3 C2 HB2 K2
    cases b2 with
    | false =>
      have e := HV.out (fun h => by
        have := (valid_iff.1 h).2.1
        rw [← HN.out] at this
        exact of_decide_eq_false H2.out.symm this)
      subst e
      clear HV HW
      go_wp2
      go_ret
      exact ⟨rfl, HB3.out⟩
    | true =>
      have D1 := Aside0.mk (of_decide_eq_true H1.out.symm)
      have D2 := Aside0.mk (of_decide_eq_true H2.out.symm)
      clear H1 H2
      by_cases hqn : n < q
      · have e := HV.out (fun h => by
          have := (valid_iff.1 h).2.2.1
          rw [← HN.out, ← HQ.out] at this
          omega)
        subst e
        clear HV HW
        have hqn' : (n : Int) - (q : Int) < 0 := by omega
        go_wp2
        go_ret
        exact ⟨rfl, HB3.out⟩
      · obtain ⟨m, hm⟩ : ∃ m : Nat, (n : Int) - (q : Int) = (m : Int) := ⟨n - q, by omega⟩
        have HM := Aside0.mk hm
        rw [hm] at hm0 ⊢
        have hmn : m ≤ n := by omega
        clear hm hqn
        have z2 : w3.cell? ⟨D, 2, none⟩ = some (.slice A2 d.dur.length c2) := (blk_cell K3.out 2).trans rfl
        obtain ⟨ln, hln⟩ : ∃ ln, ln = d.dur.length := ⟨_, rfl⟩
        have HL := Aside0.mk hln
        rw [← hln] at l2 n2 z2
        clear hln
        go_wp2_with fail
        go_loopg [44] ln (fun kx s44 wr => ∃ i : Nat, s44 = .int .i64 i ∧ i ≤ ln ∧ ln - i ≤ kx ∧ Aside0 (∀ j, j < i → (d.dur.getD j z69).f1 < (m : Int)) ∧ Aside0 (Below w.heap.size w wr) ∧ Aside0 (wr.heap[D]? = some (.cells #[.slice A0 n c0, .slice A1 d.dir.length c1, .slice A2 d.dur.length c2, .slice A3 d.ops.length c3] 47 (0, 0))))
        case atStart => exact ⟨0, rfl, Nat.zero_le _, by omega, ⟨fun j hj => absurd hj (Nat.not_lt_zero _)⟩, HB3, K3⟩
        case round =>
          clear HB3 K3 z2
          obtain ⟨i, rfl, hi, hk, hA, HB, K⟩ := hrel
          by_cases hlt : i < ln
          · obtain ⟨ad, ea, hx0, hx1⟩ := at_T69 R2.out (i : Int) (by omega) (by have := HL.out; omega)
            cases ea
            obtain ⟨y, hy⟩ : ∃ y, y = rd_T69 d.dur (i : Int) := ⟨_, rfl⟩
            rw [← hy] at hx0 hx1
            replace hx0 : wr.cell? (ad.add (i * 2)) = some (.string y.f0) := pw_cell_below HB.out hx0
            replace hx1 : wr.cell? ⟨(ad.add (i * 2)).block, (ad.add (i * 2)).off + 1, none⟩ = some (.int .i64 y.f1) := pw_cell_below HB.out hx1
            have Y := Aside0.mk (show d.dur.getD i z69 = y from by rw [hy]; rfl)
            have hB := below_alloc HB.out (.cells #[.string y.f0, .int .i64 y.f1] 69)
            have hK := blk_alloc K.out (.cells #[.string y.f0, .int .i64 y.f1] 69)
            have y1 := (blk_cell (blk_new wr (.cells #[.string y.f0, .int .i64 y.f1] 69)) 1).trans rfl
            have HB' := Aside0.mk hB
            have HK' := Aside0.mk hK
            clear hy hB hK K HB
            by_cases hge : (m : Int) ≤ y.f1
            · have e := HV.out (fun h => by
                have := (valid_iff.1 h).2.2.2.1
                rw [List.any_eq_false] at this
                have hil : i < d.dur.length := by have := HL.out; omega
                have h2 := this y (by rw [← Y.out, Dk.getD_eq hil]; exact List.getElem_mem hil)
                rw [← HN.out, ← HQ.out, HM.out] at h2
                exact h2 (decide_eq_true hge))
              subst e
              clear HV HW
              go_wp2_with fail
              go_ret
              exact ⟨rfl, HB'.out⟩
            · go_wp2_with fail
              go_roundg (ln - i - 1)
              case measure => omega
              case rel =>
                exact ⟨i + 1, by first | rfl | (simp; done), hlt, by omega, ⟨fun j hj => by
                  by_cases hji : j = i
                  · rw [hji, Y.out]; omega
                  · exact hA.out j (by omega)⟩, HB', HK'⟩
          · have H3 := Aside0.mk (show d.dur.any (fun x => decide ((d.ino.length : Int) - (crt d.ops : Nat) ≤ x.f1)) = false from by
              rw [List.any_eq_false]
              intro x hx
              obtain ⟨j, hj, rfl⟩ := List.getElem_of_mem hx
              have := hA.out j (by have := HL.out; omega)
              rw [Dk.getD_eq hj] at this
              rw [← HN.out, ← HQ.out, HM.out]
              simp only [decide_eq_true_eq]; omega)
            have z0 : wr.cell? ⟨D, 0, none⟩ = some (.slice A0 n c0) := (blk_cell K.out 0).trans rfl
            have HB3 := HB
            have K3 := K
            clear hA HB K hk hi
            go_wp2_with fail
            go_loopg [56] n (fun kx s56 wr => ∃ i : Nat, s56 = .int .i64 i ∧ i ≤ n ∧ n - i ≤ kx ∧ Aside0 (∀ j, j < i → inoBad d j (d.ino.getD j z67) = false) ∧ Aside0 (Below w.heap.size w wr) ∧ Aside0 (wr.heap[D]? = some (.cells #[.slice A0 n c0, .slice A1 d.dir.length c1, .slice A2 d.dur.length c2, .slice A3 d.ops.length c3] 47 (0, 0))))
            case atStart => exact ⟨0, rfl, Nat.zero_le _, by omega, ⟨fun j hj => absurd hj (Nat.not_lt_zero _)⟩, HB3, K3⟩
            case round =>
              clear HB3 K3 z0
              obtain ⟨i, rfl, hi, hk, hA, HB, K⟩ := hrel
              by_cases hlt : i < n
              · obtain ⟨ad, ea, hx0, hx1⟩ := at_T67 R0.out (i : Int) (by omega) (by have := HN.out; omega)
                cases ea
                obtain ⟨y, hy⟩ : ∃ y, y = rd_T67 d.ino (i : Int) := ⟨_, rfl⟩
                rw [← hy] at hx0 hx1
                replace hx0 : wr.cell? (ad.add (i * 2)) = some (.string y.f0) := pw_cell_below HB.out hx0
                replace hx1 : wr.cell? ⟨(ad.add (i * 2)).block, (ad.add (i * 2)).off + 1, none⟩ = some (.int .i64 y.f1) := pw_cell_below HB.out hx1
                have Y := Aside0.mk (show d.ino.getD i z67 = y from by rw [hy]; rfl)
                have hB := below_alloc HB.out (.cells #[.string y.f0, .int .i64 y.f1] 67)
                have hK := blk_alloc K.out (.cells #[.string y.f0, .int .i64 y.f1] 67)
                have h8 := blk_new wr (.cells #[.string y.f0, .int .i64 y.f1] 67)
                have z1 := (blk_cell hK 1).trans rfl
                have HB' := Aside0.mk hB
                have HK' := Aside0.mk hK
                have H8 := Aside0.mk h8
                obtain ⟨kb, hkb⟩ : ∃ kb, kb = decide (m ≤ i) := ⟨_, rfl⟩
                have KB := Aside0.mk hkb
                obtain ⟨ld, hld⟩ : ∃ ld, ld = d.dir.length := ⟨_, rfl⟩
                have HLD := Aside0.mk hld
                obtain ⟨lu, hlu⟩ : ∃ lu, lu = d.dur.length := ⟨_, rfl⟩
                have HLU := Aside0.mk hlu
                have z1' : (wr.alloc (.cells #[.string y.f0, .int .i64 y.f1] 67)).cell? ⟨D, 1, none⟩ = some (.slice A1 ld c1) := by rw [hld]; exact z1
                have hld2 : ld ≤ 40000 := by omega
                have hld3 : ld ≤ c1 := by omega
                clear hy hB hK h8 K HB hkb z1 hld hlu
                go_upto_region 15 with fail
                rw [← KB.out]
                generalize wr.alloc (.cells #[.string y.f0, .int .i64 y.f1] 67) = W1 at HB' HK' H8 z1' ⊢
                obtain ⟨M, hM⟩ : ∃ M, M = wr.heap.size := ⟨_, rfl⟩
                rw [← hM] at H8 ⊢
                clear hM hx0 hx1
                go_wp2_with fail
                go_loopg [9, 67] ld (fun kx s9 s67 wr => ∃ (t : Nat) (b : Bool), s9 = .bool b ∧ s67 = .int .i64 t ∧ t ≤ ld ∧ ld - t ≤ kx ∧ Aside0 (b = (kb || marked (d.dir.take t) i)) ∧ Aside0 (Below w.heap.size w wr) ∧ Aside0 (wr.heap[D]? = some (.cells #[.slice (some ad) n c0, .slice A1 d.dir.length c1, .slice A2 d.dur.length c2, .slice A3 d.ops.length c3] 47 (0, 0))) ∧ Aside0 (wr.heap[M]? = some (.cells #[.string y.f0, .int .i64 y.f1] 67 (0, 0))))
                case atStart => exact ⟨0, kb, rfl, rfl, Nat.zero_le _, by omega, ⟨by simp [marked]⟩, HB', HK', H8⟩
                case round =>
                  clear HB' HK' H8 z1'
                  obtain ⟨t, b, rfl, rfl, ht, hkt, hb, HB, K, K8⟩ := hrel
                  by_cases hti : t < ld
                  · obtain ⟨ad2, ea, hp0, hp1⟩ := at_T69 R1.out (t : Int) (by omega) (by have := HLD.out; omega)
                    cases ea
                    obtain ⟨yp, hyp⟩ : ∃ yp, yp = rd_T69 d.dir (t : Int) := ⟨_, rfl⟩
                    rw [← hyp] at hp0 hp1
                    have MT := Aside0.mk (marked_take (l := d.dir) (t := t) (i := i) (y := yp) (by have := HLD.out; omega) (by rw [hyp]; rfl))
                    replace hp0 : wr.cell? (ad2.add (t * 2)) = some (.string yp.f0) := pw_cell_below HB.out hp0
                    replace hp1 : wr.cell? ⟨(ad2.add (t * 2)).block, (ad2.add (t * 2)).off + 1, none⟩ = some (.int .i64 yp.f1) := pw_cell_below HB.out hp1
                    have HB2 := Aside0.mk (below_alloc HB.out (.cells #[.string yp.f0, .int .i64 yp.f1] 69))
                    have K2 := Aside0.mk (blk_alloc K.out (.cells #[.string yp.f0, .int .i64 yp.f1] 69))
                    have K82 := Aside0.mk (blk_alloc K8.out (.cells #[.string yp.f0, .int .i64 yp.f1] 69))
                    have y1 := (blk_cell (blk_new wr (.cells #[.string yp.f0, .int .i64 yp.f1] 69)) 1).trans rfl
                    clear hyp HB K K8
                    cases b
                    all_goals go_wp2_with fail
                    all_goals
                      go_roundg (ld - t - 1)
                      case measure => omega
                      case rel =>
                        refine ⟨t + 1, _, rfl, by first | rfl | (simp; done), hti, by omega, ⟨?_⟩, HB2, K2, K82⟩
                        rw [MT.out, ← Bool.or_assoc, ← hb.out]
                        rfl
                  · have hb2 := Aside0.mk (show b = (kb || marked d.dir i) from by
                      have := hb.out
                      rwa [List.take_of_length_le (by have := HLD.out; omega)] at this)
                    have z2 : wr.cell? ⟨D, 2, none⟩ = some (.slice A2 lu c2) := by rw [HLU.out]; exact (blk_cell K.out 2).trans rfl
                    have hlu2 : lu ≤ 40000 := by have := SM.out.2.2.1; have := HLU.out; omega
                    have hlu3 : lu ≤ c2 := by have := HL.out; have := HLU.out; omega
                    have HB' := HB
                    have K' := K
                    have K8' := K8
                    clear hb HB K K8 ht hkt
                    go_wp2_with fail
                    go_loopg [9, 82] lu (fun kx s9 s82 wr => ∃ (t : Nat) (b : Bool), s9 = .bool b ∧ s82 = .int .i64 t ∧ t ≤ lu ∧ lu - t ≤ kx ∧ Aside0 (b = ((kb || marked d.dir i) || marked (d.dur.take t) i)) ∧ Aside0 (Below w.heap.size w wr) ∧ Aside0 (wr.heap[D]? = some (.cells #[.slice (some ad) n c0, .slice A1 d.dir.length c1, .slice A2 d.dur.length c2, .slice A3 d.ops.length c3] 47 (0, 0))) ∧ Aside0 (wr.heap[M]? = some (.cells #[.string y.f0, .int .i64 y.f1] 67 (0, 0))))
                    case atStart => exact ⟨0, b, rfl, rfl, Nat.zero_le _, by omega, ⟨by rw [← hb2.out]; simp [marked]⟩, HB', K', K8'⟩
                    case round =>
                      clear HB' K' K8' z2 hb2
                      obtain ⟨t, b, rfl, rfl, ht, hkt, hb, HB, K, K8⟩ := hrel
                      by_cases hti : t < lu
                      · obtain ⟨ad2, ea, hp0, hp1⟩ := at_T69 R2.out (t : Int) (by omega) (by have := HLU.out; omega)
                        cases ea
                        obtain ⟨yp, hyp⟩ : ∃ yp, yp = rd_T69 d.dur (t : Int) := ⟨_, rfl⟩
                        rw [← hyp] at hp0 hp1
                        have MT := Aside0.mk (marked_take (l := d.dur) (t := t) (i := i) (y := yp) (by have := HLU.out; omega) (by rw [hyp]; rfl))
                        replace hp0 : wr.cell? (ad2.add (t * 2)) = some (.string yp.f0) := pw_cell_below HB.out hp0
                        replace hp1 : wr.cell? ⟨(ad2.add (t * 2)).block, (ad2.add (t * 2)).off + 1, none⟩ = some (.int .i64 yp.f1) := pw_cell_below HB.out hp1
                        have HB2 := Aside0.mk (below_alloc HB.out (.cells #[.string yp.f0, .int .i64 yp.f1] 69))
                        have K2 := Aside0.mk (blk_alloc K.out (.cells #[.string yp.f0, .int .i64 yp.f1] 69))
                        have K82 := Aside0.mk (blk_alloc K8.out (.cells #[.string yp.f0, .int .i64 yp.f1] 69))
                        have y1 := (blk_cell (blk_new wr (.cells #[.string yp.f0, .int .i64 yp.f1] 69)) 1).trans rfl
                        clear hyp HB K K8
                        cases b
                        all_goals go_wp2_with fail
                        all_goals
                          go_roundg (lu - t - 1)
                          case measure => omega
                          case rel =>
                            refine ⟨t + 1, _, rfl, by first | rfl | (simp; done), hti, by omega, ⟨?_⟩, HB2, K2, K82⟩
                            rw [MT.out, ← Bool.or_assoc, ← hb.out]
                            rfl
                      · have BAD := Aside0.mk (show inoBad d i y = ((!b) || decide (y.f1 < 0) || decide ((y.f0.size : Int) < y.f1) || decide (1048576 < (y.f0.size : Int))) from by
                          have := hb.out
                          rw [List.take_of_length_le (by have := HLU.out; omega)] at this
                          unfold Dk.inoBad
                          have e1 : decide (m ≤ i) = !decide ((i : Int) < (m : Int)) := by rw [← decide_not]; exact decide_eq_decide.2 (by omega)
                          rw [this, ← HN.out, ← HQ.out, HM.out, KB.out, e1]
                          cases decide ((i : Int) < (m : Int)) <;> cases marked d.dir i <;> cases marked d.dur i <;> rfl)
                        have y0 := (blk_cell K8.out 0).trans rfl
                        have y1 := (blk_cell K8.out 1).trans rfl
                        clear hb
                        cases b
                        all_goals go_wp2
                        all_goals first
                          | (go_roundg (n - i - 1)
                             case measure => omega
                             case rel =>
                              refine ⟨i + 1, by first | rfl | (simp; done), hlt, by omega, ⟨fun j hj => ?_⟩, HB, K⟩
                              rcases Nat.lt_or_ge j i with h | h
                              · exact hA.out j h
                              · rw [show j = i by omega, Y.out, BAD.out]
                                simp only [Bool.not_true, Bool.not_false, Bool.true_or, Bool.false_or, Bool.or_eq_false_iff, decide_eq_false_iff_not]
                                omega)
                          | (go_ret
                             have e := HV.out (fun h => by
                              have := (valid_iff.1 h).2.2.2.2.1 i (by have := HN.out; omega)
                              rw [Y.out, BAD.out] at this
                              simp only [Bool.not_true, Bool.not_false, Bool.true_or, Bool.false_or, Bool.or_eq_false_iff, decide_eq_false_iff_not] at this
                              first | omega | (cases this; done))
                             exact ⟨by rw [e]; rfl, HB.out⟩)
              · have I6 := Aside0.mk (show ∀ j, j < n → inoBad d j (d.ino.getD j z67) = false from fun j hj => hA.out j (by omega))
                have z0 := (blk_cell K.out 0).trans rfl
                have z1 := (blk_cell K.out 1).trans rfl
                have z2 := (blk_cell K.out 2).trans rfl
                have z3 := (blk_cell K.out 3).trans rfl
                have DW := Aside0.mk (DD.out.below HB.out)
                rw [← HN.out] at DW
                have CR := Aside0.mk (replay69_calls _ d d.ops.length wr DW.out (Nat.le_refl _) D2.out.2.1 (fun x hx => (D2.out.1 x hx).2.1) (by have := HN.out; have := HQ.out; have := HM.out; omega) SM.out)
                rw [List.take_length, ← HN.out, ← HQ.out, HM.out] at CR
                obtain ⟨rr, hrr⟩ : ∃ rr, rr = rep d.dur (m : Int) d.ops := ⟨_, rfl⟩
                rw [← hrr] at CR
                have HRR := Aside0.mk hrr
                clear hrr hA
                go_wp2_with fail
                refine CR.out.mono ?_
                rintro e w6 ⟨v', rfl, h1, h2⟩
                have HB6 := Aside0.mk (below_step HB.out h2)
                have K6 := Aside0.mk (blk_below K.out h2)
                have O6 := Aside0.mk h1
                clear z0 z1 z2 z3 h1 h2 CR HB K
                cases rr with
                | none =>
                  have e := HV.out (fun h => by
                    have := (valid_iff.1 h).2.2.2.2.2
                    rw [← HN.out, ← HQ.out, HM.out, ← HRR.out] at this
                    cases this)
                  subst e
                  clear HV HW
                  simp only [repd]
                  go_wp2
                  go_ret
                  exact ⟨rfl, HB6.out⟩
                | some l' =>
                  obtain ⟨A', c', rfl, hlc, hrd⟩ := Kd.R_reads O6.out
                  have z1 : w6.cell? ⟨D, 1, none⟩ = some (.slice A1 d.dir.length c1) := (blk_cell K6.out 1).trans rfl
                  have R1' := Aside0.mk (Kd.C_below R1.out HB6.out)
                  have RL' := Aside0.mk (show Kd.C k69 w6 A' l'.length l' from hrd)
                  have VV := Aside0.mk (show valid d = decide (l' = d.dir) from by
                    by_cases h : l' = d.dir
                    · rw [decide_eq_true h]
                      exact valid_iff.2 (by
                        rw [← HN.out, ← HQ.out, HM.out, ← HRR.out]
                        refine ⟨D1.out, D2.out, by have := HM.out; omega, ?_, I6.out, congrArg some h⟩
                        have := H3.out
                        rwa [← HN.out, ← HQ.out, HM.out] at this)
                    · rw [decide_eq_false h]
                      refine Bool.eq_false_iff.2 fun h2 => ?_
                      have := (valid_iff.1 h2).2.2.2.2.2
                      rw [← HN.out, ← HQ.out, HM.out, ← HRR.out] at this
                      exact h (Option.some.inj this))
                  obtain ⟨ld, hld⟩ : ∃ ld, ld = d.dir.length := ⟨_, rfl⟩
                  have HLD := Aside0.mk hld
                  rw [← hld] at z1 l1 n1
                  clear hrd H3 I6 D1 D2 DW hld
                  simp only [repd] at hlc ⊢
                  obtain ⟨lx, hlx⟩ : ∃ lx, lx = l'.length := ⟨_, rfl⟩
                  have HLX := Aside0.mk hlx
                  rw [← hlx] at hlc ⊢
                  clear hlx
                  by_cases hne : lx = ld
                  · subst hne
                    go_wp2_with fail
                    go_loopg [136] lx (fun kx s136 wr => ∃ i : Nat, s136 = .int .i64 i ∧ i ≤ lx ∧ lx - i ≤ kx ∧ Aside0 (l'.take i = d.dir.take i) ∧ Aside0 (Below w6.heap.size w6 wr))
                    case atStart => exact ⟨0, rfl, Nat.zero_le _, by omega, ⟨rfl⟩, ⟨Below.refl _ _⟩⟩
                    case round =>
                      obtain ⟨i, rfl, hi, hk, hA, HB⟩ := hrel
                      by_cases hlt : i < lx
                      · obtain ⟨ad, ea, hx0, hx1⟩ := at_T69 RL'.out (i : Int) (by omega) (by have := HLX.out; omega)
                        cases ea
                        obtain ⟨ad', ea, hy0, hy1⟩ := at_T69 R1'.out (i : Int) (by omega) (by have := HLD.out; omega)
                        cases ea
                        obtain ⟨x, hx⟩ : ∃ x, x = rd_T69 l' (i : Int) := ⟨_, rfl⟩
                        obtain ⟨y, hy⟩ : ∃ y, y = rd_T69 d.dir (i : Int) := ⟨_, rfl⟩
                        rw [← hx] at hx0 hx1
                        rw [← hy] at hy0 hy1
                        replace hx0 : wr.cell? (ad.add (i * 2)) = some (.string x.f0) := pw_cell_below HB.out hx0
                        replace hx1 : wr.cell? ⟨(ad.add (i * 2)).block, (ad.add (i * 2)).off + 1, none⟩ = some (.int .i64 x.f1) := pw_cell_below HB.out hx1
                        replace hy0 : wr.cell? (ad'.add (i * 2)) = some (.string y.f0) := pw_cell_below HB.out hy0
                        replace hy1 : wr.cell? ⟨(ad'.add (i * 2)).block, (ad'.add (i * 2)).off + 1, none⟩ = some (.int .i64 y.f1) := pw_cell_below HB.out hy1
                        have zd : wr.cell? ⟨D, 1, none⟩ = some (.slice (some ad') lx c1) := pw_cell_below HB.out z1
                        have hil : i < l'.length := by have := HLX.out; omega
                        have him : i < d.dir.length := by have := HLD.out; omega
                        have X := Aside0.mk (show l'[i] = x by rw [hx]; show _ = l'.getD i z69; rw [Dk.getD_eq hil])
                        have Y := Aside0.mk (show d.dir[i] = y by rw [hy]; show _ = d.dir.getD i z69; rw [Dk.getD_eq him])
                        have hi0 : (0 : Int) ≤ (i : Int) := by omega
                        have hi1 : (i : Int) < (lx : Int) := by omega
                        clear hx hy z1
                        obtain ⟨p, hp⟩ : ∃ p, (x.f0.toList == y.f0.toList) = p := ⟨_, rfl⟩
                        obtain ⟨q, hq⟩ : ∃ q, (x.f1 == y.f1) = q := ⟨_, rfl⟩
                        have E := Aside0.mk (eq69_iff hp hq)
                        cases p <;> cases q
                        all_goals go_wp2_with fail
                        all_goals go_quiet (fail)
                        all_goals go_wp2
                        all_goals first
                          | (go_roundg (lx - i - 1)
                             case measure => omega
                             case rel => exact ⟨i + 1, by first | rfl | (simp; done), hlt, by omega, ⟨take_snoc hil him hA.out (by rw [X.out, Y.out]; have e1 := E.out; simpa using e1)⟩, ⟨pw_below_drewN HB.out _⟩⟩)
                          | (go_ret
                             have e := HV.out (by rw [VV.out, decide_eq_false (take_ne hil him (by rw [X.out, Y.out]; have e1 := E.out; simpa using e1))]; decide)
                             exact ⟨by rw [e]; rfl, pw_below_drewN (below_step HB6.out HB.out) _⟩)
                      · have e := HW.out (by
                          rw [VV.out]
                          have := hA.out
                          rw [List.take_of_length_le (by have := HLX.out; omega), List.take_of_length_le (by have := HLD.out; omega)] at this
                          exact decide_eq_true this)
                        subst e
                        clear HV HW
                        go_wp2
                        go_ret
                        exact ⟨rfl, below_step HB6.out HB.out⟩
                  · have e := HV.out (by rw [VV.out, decide_eq_false (fun e => hne (by rw [HLX.out, HLD.out, e]))]; decide)
                    subst e
                    clear HV HW
                    go_wp2
                    go_ret
                    exact ⟨rfl, HB6.out⟩
end Go.Proofs.Ytnaddmkaakdhoaa.J

end
section
namespace Go.Proofs.Ytnaddmkaakdhoaa.J
open Go.RowKit Go.Proofs.YtnaddmkaakdhoaaW.PrintWords Go.Proofs.YtnaddmkaakdhoaaW.PrintLast Go.Proofs.YtnaddmkaakdhoaaW.PrintMore
open Dk (Srt pos has chg fieldsOK app ent)
set_option linter.unusedVariables false
set_option linter.unusedSimpArgs false
theorem KeepT.put47 {ts : List Nat} {w W : World} (h : KeepT ts w W) {S : Nat} (hS : w.heap.size ≤ S) (a0 a1 a2 a3 : Value) : KeepT ts w ((((W.setCell ⟨S, 0, none⟩ a0).setCell ⟨S, 1, none⟩ a1).setCell ⟨S, 2, none⟩ a2).setCell ⟨S, 3, none⟩ a3) :=
  (((h.set_new hS 0 a0).set_new hS 1 a1).set_new hS 2 a2).set_new hS 3 a3
theorem DR.slices {w : World} {T : Nat} {a : Value} {d : Dsk} (h : DR w T a d) : ∃ A0 c0 A1 c1 A2 c2 A3 c3, a = .agg #[.slice A0 d.ino.length c0, .slice A1 d.dir.length c1, .slice A2 d.dur.length c2, .slice A3 d.ops.length c3] := by
  obtain ⟨A0, c0, A1, c1, A2, c2, A3, c3, e, _⟩ := h.reads
  exact ⟨A0, c0, A1, c1, A2, c2, A3, c3, e⟩
theorem DR.ino {W : World} {T : Nat} {g c n : Nat} {v1 v2 v3 : Value} {d : Dsk} {l' : List S67} {cur : Array Value} (h : DR W T (.agg #[.slice (some ⟨g, 0, none⟩) n c, v1, v2, v3]) d) (hh : W.heap[g]? = some (.cells cur 67 (0, 0))) (hn : d.ino.length = n) (hl : l'.length = n) (j : Nat) (u : Value) (e : (cs67 d.ino).set j u = cs67 l') :
    DR (W.setCell ⟨g, j, none⟩ u) T (.agg #[.slice (some ⟨g, 0, none⟩) n c, v1, v2, v3]) ⟨l', d.dir, d.dur, d.ops⟩ := by
  obtain ⟨u0, u1, u2, u3, e1, h0, h1, h2, h3⟩ := h
  injection e1 with e1
  injection e1 with e1
  simp only [List.cons.injEq] at e1
  obtain ⟨rfl, rfl, rfl, rfl, _⟩ := e1
  exact ⟨_, _, _, _, rfl, R67_put h0 hn hl j u e, Kd.R_set h1 hh (by decide) j u, Kd.R_set h2 hh (by decide) j u, Kd.R_set h3 hh (by decide) j u⟩
theorem R_other {α β : Type} {d : Kd α} {d' : Kd β} {e e' base T : Nat} {ok P : Nat → Prop} {w w1 : World} {v v1 : Value} {xs : List α} {ys : List β} (h : d.R e w base ok v xs) (r : d'.R e' w T P v1 ys) (he : ∀ q, q ∈ e :: d.E → q ≠ e') (hg : w.grownBy w1 v1.ownBlock) : d.R e w1 base ok v xs := by
  cases hb : v1.ownBlock with
  | none => exact Kd.R_grown h hg (fun k _ => by rw [hb]; simp)
  | some g =>
    obtain ⟨iq, hiq⟩ := Kd.R_own r
    obtain ⟨cells, hc⟩ := own_typed hiq g hb
    exact Kd.R_mono (Kd.R_grown (Kd.R_types h hc he) hg (fun k hk => by rw [hb]; intro e; exact hk.2 (Option.some.inj e))) (fun _ hk => hk.1)
theorem KeepT.grown {β : Type} {d' : Kd β} {e' T : Nat} {P : Nat → Prop} {ts : List Nat} {w W W' : World} {v1 : Value} {ys : List β} (h : KeepT ts w W) (r : d'.R e' W T P v1 ys) (he : e' ∈ ts) (hg : W.grownBy W' v1.ownBlock) : KeepT ts w W' := by
  intro k cs t hk ht
  have h1 := h k cs t hk ht
  refine (hg.block k (blk_lt h1) (fun e => ?_)).trans h1
  obtain ⟨iq, hiq⟩ := Kd.R_own r
  obtain ⟨cells, hc⟩ := own_typed hiq k e.symm
  rw [h1] at hc
  injection hc with hc
  injection hc with _ hc
  exact ht (hc ▸ he)
theorem DR.ino' {w w1 : World} {T : Nat} {v0 v1 v2 v3 v0' : Value} {d : Dsk} {l' : List S67} (h : DR w T (.agg #[v0, v1, v2, v3]) d) (hr : Kd.R k67 67 w1 T (fun _ => True) v0' l') (hg : w.grownBy w1 v0.ownBlock) : DR w1 T (.agg #[v0', v1, v2, v3]) ⟨l', d.dir, d.dur, d.ops⟩ := by
  obtain ⟨u0, u1, u2, u3, e1, h0, h1, h2, h3⟩ := h
  injection e1 with e1
  injection e1 with e1
  simp only [List.cons.injEq] at e1
  obtain ⟨rfl, rfl, rfl, rfl, _⟩ := e1
  exact ⟨_, _, _, _, rfl, hr, R_other h1 h0 (by decide) hg, R_other h2 h0 (by decide) hg, R_other h3 h0 (by decide) hg⟩
theorem DR.ops' {w w1 : World} {T : Nat} {v0 v1 v2 v3 v3' : Value} {d : Dsk} {l' : List S49} (h : DR w T (.agg #[v0, v1, v2, v3]) d) (hr : Kd.R k49 49 w1 T (fun _ => True) v3' l') (hg : w.grownBy w1 v3.ownBlock) : DR w1 T (.agg #[v0, v1, v2, v3']) ⟨d.ino, d.dir, d.dur, l'⟩ := by
  obtain ⟨u0, u1, u2, u3, e1, h0, h1, h2, h3⟩ := h
  injection e1 with e1
  injection e1 with e1
  simp only [List.cons.injEq] at e1
  obtain ⟨rfl, rfl, rfl, rfl, _⟩ := e1
  exact ⟨_, _, _, _, rfl, R_other h0 h3 (by decide) hg, R_other h1 h3 (by decide) hg, R_other h2 h3 (by decide) hg, hr⟩
theorem DR.dir' {w w1 : World} {T : Nat} {v0 v1 v2 v3 v1' : Value} {d : Dsk} {l' : List S69} (h : DR w T (.agg #[v0, v1, v2, v3]) d) (ho : OwnAt w T (fun k => some k ≠ v2.ownBlock) v1 w1 v1' l') : DR w1 T (.agg #[v0, v1', v2, v3]) ⟨d.ino, l', d.dur, d.ops⟩ := by
  obtain ⟨u0, u1, u2, u3, e1, h0, h1, h2, h3⟩ := h
  injection e1 with e1
  injection e1 with e1
  simp only [List.cons.injEq] at e1
  obtain ⟨rfl, rfl, rfl, rfl, _⟩ := e1
  have o2 := R69_own h2
  refine ⟨_, _, _, _, rfl, R_other h0 h1 (by decide) ho.grown, Kd.R_mono ho.row (fun k hk => ?_), ?_, R_other h3 h1 (by decide) ho.grown⟩
  · rcases hk with hk | hk
    · exact hk
    · exact fun e => by have := own_lt o2 k e.symm; omega
  · refine Kd.R_mono (Kd.R_grown (Kd.R_bound h2) ho.grown (fun k hk => hk.1)) (fun k hk => ?_)
    rcases ho.at_ with e | e | ⟨b, e, hb⟩
    · rw [e]; exact hk.1
    · rw [e]; simp
    · rw [e]; intro e2; injection e2 with e2; have := hk.2.2.1; omega
theorem DR.rows {w : World} {T : Nat} {v0 v1 v2 v3 : Value} {d : Dsk} (h : DR w T (.agg #[v0, v1, v2, v3]) d) : Kd.R k67 67 w T (fun _ => True) v0 d.ino ∧ Kd.R k69 69 w T (fun k => some k ≠ v2.ownBlock) v1 d.dir ∧ Kd.R k69 69 w T (fun k => some k ≠ v1.ownBlock) v2 d.dur ∧ Kd.R k49 49 w T (fun _ => True) v3 d.ops := by
  obtain ⟨u0, u1, u2, u3, e1, h0, h1, h2, h3⟩ := h
  injection e1 with e1
  injection e1 with e1
  simp only [List.cons.injEq] at e1
  obtain ⟨rfl, rfl, rfl, rfl, _⟩ := e1
  exact ⟨h0, h1, h2, h3⟩
set_option maxHeartbeats 8000000 in
set_option maxRecDepth 100000 in
theorem apply_calls (T : Nat) (a : Value) (d : Dsk) (o : S49) (w : World) (h : DR w T a d) (hT : T ≤ w.heap.size) (hs : Sml 100000 d) (hsrt : Srt d.dir) (hin : ∀ x ∈ d.dir, 0 ≤ x.f1 ∧ x.f1 < d.ino.length) (hsz : ∀ x ∈ d.ino, x.f0.size ≤ 1048576) (ho : o.f3.size ≤ 140737488355328) :
    Calls Try.prog 77 #[a, .agg #[.int .i64 o.f0, .string o.f1, .string o.f2, .string o.f3]] w fun e w' => ∃ v, e = .returned (.tuple #[v, .int .i64 (app d o).2]) ∧ DR w' T v (app d o).1 ∧ Below T w w' ∧ KeepT [67, 69, 49] w w' := by
  obtain ⟨v0, v1, v2, v3, rfl, r0, r1, r2, r3⟩ := h
  have hs' := hs
  obtain ⟨n0, n1, n2, n3⟩ := hs
  obtain ⟨A0, c0, rfl, l0, q0⟩ := Kd.R_reads r0
  obtain ⟨A1, c1, rfl, l1, q1⟩ := Kd.R_reads r1
  obtain ⟨A2, c2, rfl, l2, q2⟩ := Kd.R_reads r2
  obtain ⟨A3, c3, rfl, l3, q3⟩ := Kd.R_reads r3
  have DD := Aside0.mk (show DR w T (.agg #[.slice A0 d.ino.length c0, .slice A1 d.dir.length c1, .slice A2 d.dur.length c2, .slice A3 d.ops.length c3]) d from ⟨_, _, _, _, rfl, r0, r1, r2, r3⟩)
  have HI := Aside0.mk hin
  have HZ := Aside0.mk hsz
  have HS := Aside0.mk hsrt
  have HM := Aside0.mk hs'
  obtain ⟨k, nm, tt, dat⟩ := o
  simp only at ho ⊢
  obtain ⟨res, hres⟩ : ∃ res, res = app d ⟨k, nm, tt, dat⟩ := ⟨_, rfl⟩
  rw [← hres]
  have RES := Aside0.mk hres
  have FC := Aside0.mk (fun w' => fields_calls ⟨k, nm, tt, dat⟩ w')
  obtain ⟨b, hb⟩ : ∃ b, b = fieldsOK ⟨k, nm, tt, dat⟩ := ⟨_, rfl⟩
  rw [← hb] at FC
  have FB := Aside0.mk hb
  clear hres hb r0 r1 r2 r3 q0 q1 q2 q3 hin hsz hsrt hs'
  go_enter Try.func77, Try.ntmps77
  go_wp2_with fail
  have hB := (((Below.refl w.heap.size w).alloc (Nat.le_refl _) (.cells #[.slice A0 d.ino.length c0, .slice A1 d.dir.length c1, .slice A2 d.dur.length c2, .slice A3 d.ops.length c3] 47)).alloc (by simp) (.cells #[.int .i64 k, .string nm, .string tt, .string dat] 49)).alloc (by simp; omega) (.cells #[.slice none 0 0, .slice none 0 0, .slice none 0 0, .slice none 0 0] 47)
  have hK := blk_alloc (blk_alloc (blk_new w (.cells #[.slice A0 d.ino.length c0, .slice A1 d.dir.length c1, .slice A2 d.dur.length c2, .slice A3 d.ops.length c3] 47)) (.cells #[.int .i64 k, .string nm, .string tt, .string dat] 49)) (.cells #[.slice none 0 0, .slice none 0 0, .slice none 0 0, .slice none 0 0] 47)
  have hO := blk_alloc (blk_new (w.alloc (.cells #[.slice A0 d.ino.length c0, .slice A1 d.dir.length c1, .slice A2 d.dur.length c2, .slice A3 d.ops.length c3] 47)) (.cells #[.int .i64 k, .string nm, .string tt, .string dat] 49)) (.cells #[.slice none 0 0, .slice none 0 0, .slice none 0 0, .slice none 0 0] 47)
  have hS := blk_new ((w.alloc (.cells #[.slice A0 d.ino.length c0, .slice A1 d.dir.length c1, .slice A2 d.dur.length c2, .slice A3 d.ops.length c3] 47)).alloc (.cells #[.int .i64 k, .string nm, .string tt, .string dat] 49)) (.cells #[.slice none 0 0, .slice none 0 0, .slice none 0 0, .slice none 0 0] 47)
  rw [show (w.alloc (.cells #[.slice A0 d.ino.length c0, .slice A1 d.dir.length c1, .slice A2 d.dur.length c2, .slice A3 d.ops.length c3] 47)).heap.size = w.heap.size + 1 by simp] at hO
  rw [show ((w.alloc (.cells #[.slice A0 d.ino.length c0, .slice A1 d.dir.length c1, .slice A2 d.dur.length c2, .slice A3 d.ops.length c3] 47)).alloc (.cells #[.int .i64 k, .string nm, .string tt, .string dat] 49)).heap.size = w.heap.size + 1 + 1 by simp] at hS
  generalize ((w.alloc (.cells #[.slice A0 d.ino.length c0, .slice A1 d.dir.length c1, .slice A2 d.dur.length c2, .slice A3 d.ops.length c3] 47)).alloc (.cells #[.int .i64 k, .string nm, .string tt, .string dat] 49)).alloc (.cells #[.slice none 0 0, .slice none 0 0, .slice none 0 0, .slice none 0 0] 47) = W0 at hB hK hO hS ⊢
  refine (FC.out W0).mono ?_
  rintro e w1 ⟨rfl, hb1⟩
  have HB := Aside0.mk (below_step hB hb1)
  have HK := Aside0.mk (blk_below hK hb1)
  have HO := Aside0.mk (blk_below hO hb1)
  have HSS := Aside0.mk (blk_below hS hb1)
  clear hB hK hO hS hb1 FC
  obtain ⟨D, hD⟩ : ∃ D, D = w.heap.size := ⟨_, rfl⟩
  obtain ⟨O, hO⟩ : ∃ O, O = w.heap.size + 1 := ⟨_, rfl⟩
  obtain ⟨S, hS⟩ : ∃ S, S = w.heap.size + 1 + 1 := ⟨_, rfl⟩
  have ED := Aside0.mk hD
  have EO := Aside0.mk hO
  have ES := Aside0.mk hS
  rw [← hS] at HSS ⊢
  rw [← hO] at HO ⊢
  rw [← hD] at HK ⊢
  have hTD : T ≤ D := by omega
  have hTS : T ≤ S := by omega
  have hDS : D ≠ S := by omega
  have hSD : S ≠ D := by omega
  have hDO : D ≠ O := by omega
  have hOD : O ≠ D := by omega
  have hOS : O ≠ S := by omega
  have hSO : S ≠ O := by omega
  clear hD hO hS
  have DW := Aside0.mk (DR.below DD.out HB.out)
  have BT : Aside0 (Below T w w1) := ⟨⟨HB.out.os, HB.out.tape, HB.out.output, HB.out.size, fun k hk => HB.out.block k (Nat.lt_of_lt_of_le hk hT)⟩⟩
  have KT : Aside0 (KeepT [67, 69, 49] w w1) := ⟨KeepT.of_below HB.out⟩
  have hwS : w.heap.size ≤ S := by have := ES.out; omega
  have hwD : w.heap.size ≤ D := by have := ED.out; omega
  have hTw : T ≤ w1.heap.size := Nat.le_trans hT HB.out.size
  clear HB DD
  cases b with
  | false =>
    have E := Aside0.mk (show res = (Dk.E0, 1) from by rw [RES.out]; unfold Dk.app; rw [← FB.out]; rfl)
    have s0 := (blk_cell HSS.out 0).trans rfl
    have s1 := (blk_cell HSS.out 1).trans rfl
    have s2 := (blk_cell HSS.out 2).trans rfl
    have s3 := (blk_cell HSS.out 3).trans rfl
    have f0 := blk_frozen HSS.out 0
    have f1 := blk_frozen HSS.out 1
    have f2 := blk_frozen HSS.out 2
    have f3 := blk_frozen HSS.out 3
    go_wp2
    refine bodyPost_ret (results_ct rfl _ _ S 47 _ (0, 0) _ rfl (put47 HSS.out _ _ _ _) Try.underlying47 rfl (by kernel_rfl)) rfl ?_
    rw [E.out]
    exact ⟨_, rfl, (DR.zero _ _).put47 HSS.out _ _ _ _, below_put47 BT.out hTS _ _ _ _, KT.out.put47 hwS _ _ _ _⟩
  | true =>
    have d0 : w1.cell? ⟨D, 0, none⟩ = some (.slice A0 d.ino.length c0) := (blk_cell HK.out 0).trans rfl
    have d1 : w1.cell? ⟨D, 1, none⟩ = some (.slice A1 d.dir.length c1) := (blk_cell HK.out 1).trans rfl
    have d2 : w1.cell? ⟨D, 2, none⟩ = some (.slice A2 d.dur.length c2) := (blk_cell HK.out 2).trans rfl
    have d3 : w1.cell? ⟨D, 3, none⟩ = some (.slice A3 d.ops.length c3) := (blk_cell HK.out 3).trans rfl
    have o0 : w1.cell? ⟨O, 0, none⟩ = some (.int .i64 k) := (blk_cell HO.out 0).trans rfl
    have o1 : w1.cell? ⟨O, 1, none⟩ = some (.string nm) := (blk_cell HO.out 1).trans rfl
    have o2 : w1.cell? ⟨O, 2, none⟩ = some (.string tt) := (blk_cell HO.out 2).trans rfl
    have o3 : w1.cell? ⟨O, 3, none⟩ = some (.string dat) := (blk_cell HO.out 3).trans rfl
    by_cases hk6 : k = 6
    · have E := Aside0.mk (show res = (Dk.settle d, 0) from by rw [RES.out]; unfold Dk.app; rw [← FB.out]; simp [hk6])
      go_wp2_with fail
      refine (settle_calls T _ d w1 DW.out hTw ⟨by have := HM.out.1; omega, by omega, by omega, by omega⟩ HI.out).mono ?_
      rintro e w2 ⟨v, rfl, h1, h2, h3⟩
      obtain ⟨B0, e0, B1, e1, B2, e2, B3, e3, rfl⟩ := h1.slices
      have H1 := Aside0.mk h1
      have H2 := Aside0.mk (BT.out.trans h2)
      have H3 := Aside0.mk (KT.out.trans (h3.mono (by simp)))
      have HS2 := Aside0.mk (h3 _ _ _ HSS.out (by decide))
      clear h1 h2 h3 d0 d1 d2 d3 o0 o1 o2 o3
      have s0 := (blk_cell HS2.out 0).trans rfl
      have s1 := (blk_cell HS2.out 1).trans rfl
      have s2 := (blk_cell HS2.out 2).trans rfl
      have s3 := (blk_cell HS2.out 3).trans rfl
      have f0 := blk_frozen HS2.out 0
      have f1 := blk_frozen HS2.out 1
      have f2 := blk_frozen HS2.out 2
      have f3 := blk_frozen HS2.out 3
      go_wp2
      refine bodyPost_ret (results_ct rfl _ _ S 47 _ (0, 0) _ rfl (put47 HS2.out _ _ _ _) Try.underlying47 rfl (by kernel_rfl)) rfl ?_
      rw [E.out]
      exact ⟨_, rfl, H1.out.put47 HS2.out _ _ _ _, below_put47 H2.out hTS _ _ _ _, H3.out.put47 hwS _ _ _ _⟩
    · by_cases hk23 : k = 2 ∨ k = 3
      · obtain ⟨bh, hbh⟩ : ∃ bh, bh = has d.dir nm := ⟨_, rfl⟩
        obtain ⟨p, hp⟩ : ∃ p, p = pos d.dir nm := ⟨_, rfl⟩
        have FC := Aside0.mk (fun w' hC => find_calls A1 c1 d.dir nm HS.out w' hC l1)
        rw [← hbh, ← hp] at FC
        have BH := Aside0.mk hbh
        have PP := Aside0.mk hp
        have RD : Aside0 (Kd.C k69 w1 A1 d.dir.length d.dir) := ⟨by
          obtain ⟨_, _, _, _, _, _, _, _, e, _, h, _⟩ := DW.out.reads
          injection e with e
          injection e with e
          simp only [List.cons.injEq, Value.slice.injEq] at e
          rw [e.2.1.1]; exact h.1⟩
        clear hbh hp
        cases bh with
        | false =>
          have E := Aside0.mk (show res = (Dk.E0, 11) from by rw [RES.out]; unfold Dk.app; rw [← FB.out]; simp [hk6, hk23, ← BH.out])
          rcases hk23 with rfl | rfl
          all_goals go_wp2_with fail
          all_goals refine (FC.out _ RD.out).mono ?_
          all_goals
            rintro e w2 ⟨rfl, hb2⟩
            have HS2 := Aside0.mk (blk_below HSS.out hb2)
            have H2 := Aside0.mk (below_then BT.out hTw hb2)
            have H3 := Aside0.mk (KT.out.below hb2)
            clear hb2 d0 d1 d2 d3 o0 o1 o2 o3
            have s0 := (blk_cell HS2.out 0).trans rfl
            have s1 := (blk_cell HS2.out 1).trans rfl
            have s2 := (blk_cell HS2.out 2).trans rfl
            have s3 := (blk_cell HS2.out 3).trans rfl
            have f0 := blk_frozen HS2.out 0
            have f1 := blk_frozen HS2.out 1
            have f2 := blk_frozen HS2.out 2
            have f3 := blk_frozen HS2.out 3
            go_wp2
            refine bodyPost_ret (results_ct rfl _ _ S 47 _ (0, 0) _ rfl (put47 HS2.out _ _ _ _) Try.underlying47 rfl (by kernel_rfl)) rfl ?_
            rw [E.out]
            exact ⟨_, rfl, (DR.zero _ _).put47 HS2.out _ _ _ _, below_put47 H2.out hTS _ _ _ _, H3.out.put47 hwS _ _ _ _⟩
        | true =>
          have hpl : p < d.dir.length := by
            have := Dk.has_pos HS.out nm
            rw [← BH.out, ← PP.out] at this
            simp at this
            exact this.1
          obtain ⟨ad, ea, hx0, hx1⟩ := at_T69 RD.out (p : Int) (by omega) (by omega)
          subst ea
          obtain ⟨y, hy⟩ : ∃ y, y = rd_T69 d.dir (p : Int) := ⟨_, rfl⟩
          rw [← hy] at hx0 hx1
          have hyg : d.dir.getD p z69 = y := by rw [hy]; rfl
          obtain ⟨hy0, hy1⟩ := HI.out y (by rw [← hyg, Dk.getD_eq hpl]; exact List.getElem_mem hpl)
          obtain ⟨j, hj⟩ : ∃ j : Nat, y.f1 = (j : Int) := ⟨y.f1.toNat, (Int.toNat_of_nonneg hy0).symm⟩
          have hjn : j < d.ino.length := by omega
          have EJ := Aside0.mk (show ent d nm = j from by unfold Dk.ent; rw [← PP.out, hyg, hj]; rfl)
          rw [hj] at hx1
          replace hx1 : w1.cell? ⟨(ad.add (p * 2)).block, (ad.add (p * 2)).off + 1, none⟩ = some (.int .i64 (j : Nat)) := hx1
          obtain ⟨q0, -, -, -⟩ : Kd.R k67 67 w1 T (fun _ => True) (.slice A0 d.ino.length c0) d.ino ∧ True ∧ True ∧ True := by
            obtain ⟨_, _, _, _, e, r, _⟩ := DW.out
            injection e with e
            injection e with e
            simp only [List.cons.injEq] at e
            rw [e.1]; exact ⟨r, trivial, trivial, trivial⟩
          obtain ⟨g0, cur, e0, hh⟩ := R67_block q0 (by omega)
          subst e0
          obtain ⟨x0, x1⟩ := R67_cells q0 j hjn
          obtain ⟨x, hx⟩ : ∃ x, x = d.ino[j] := ⟨_, rfl⟩
          have hxs := HZ.out x (hx ▸ List.getElem_mem hjn)
          rw [← hx] at x0 x1
          have X := Aside0.mk (show d.ino.getD j z67 = x from by rw [getD67 hjn, hx])
          have XI := Aside0.mk hx
          have Q0 := Aside0.mk q0
          have HH := Aside0.mk hh
          have hp0 : (0 : Int) ≤ (p : Int) := by omega
          have hp1 : (p : Int) < (d.dir.length : Int) := by omega
          have hj0 : (0 : Int) ≤ (j : Int) := by omega
          have hj1 : (j : Int) < (d.ino.length : Int) := by omega
          have hgD : g0 ≠ D := blk_ne hh HK.out (by decide)
          have hgO : g0 ≠ O := blk_ne hh HO.out (by decide)
          have hgS : g0 ≠ S := blk_ne hh HSS.out (by decide)
          have hTg : T ≤ g0 := own_base (R67_own q0) g0 rfl
          clear q0 hh hy hyg hy0 hy1 hj hx
          have tail := fun (w2 : World) (hb2 : Below w1.heap.size w1 w2) => And.intro (blk_below HK.out hb2) (And.intro (blk_below HO.out hb2) (And.intro (blk_below HSS.out hb2) (And.intro (Kd.R_below Q0.out hb2) (And.intro (blk_below HH.out hb2) (And.intro (DW.out.below hb2) (And.intro (below_then BT.out hTw hb2) (And.intro (KT.out.below hb2) (And.intro (pw_cell_below hb2 hx1) (And.intro (pw_cell_below hb2 x0) (pw_cell_below hb2 x1))))))))))
          have TL := Aside0.mk tail
          clear tail
          rcases hk23 with rfl | rfl
          all_goals
            go_wp2_with fail
            refine (FC.out _ RD.out).mono ?_
            rintro e w2 ⟨rfl, hb2⟩
            clear d0 d1 d2 d3 o0 o1 o2 o3 x0 x1 hx0 hx1
            have hbw := hb2
            clear hb2 HK HO HSS Q0 HH DW BT KT RD FC
            obtain ⟨hK, hO, hS, q0, hh, dw, bt, kt, y1, x0, x1⟩ := TL.out w2 hbw
            have d0 : (w2).cell? ⟨D, 0, none⟩ = some (.slice (some ⟨g0, 0, none⟩) d.ino.length c0) := (blk_cell hK 0).trans rfl
            have d1 : (w2).cell? ⟨D, 1, none⟩ = some (.slice (some ad) d.dir.length c1) := (blk_cell hK 1).trans rfl
            have o0 := (blk_cell hO 0).trans rfl
            have o3 := (blk_cell hO 3).trans rfl
            have g0f := blk_frozen hh (j * 2)
            have g1f := blk_frozen hh (j * 2 + 1)
            have K2 := Aside0.mk hK
            have O2 := Aside0.mk hO
            have S2 := Aside0.mk hS
            have Q2 := Aside0.mk q0
            have G2 := Aside0.mk hh
            have D2 := Aside0.mk dw
            have B2 := Aside0.mk bt
            have T2 := Aside0.mk kt
            have HBW := Aside0.mk hbw
            clear hK hO hS q0 hh dw bt kt hbw
            go_wp2_with fail
            go_quiet (fail)
            have hbw := below_step HBW.out (pw_below_drewN (Below.refl w2.heap.size w2) nq)
            generalize w2.drewN nq = W3 at hbw ⊢
            clear HBW
            clear d0 d1 o0 o3 g0f g1f K2 O2 S2 Q2 G2 D2 B2 T2 x0 x1 y1
            obtain ⟨hK, hO, hS, q0, hh, dw, bt, kt, y1, x0, x1⟩ := TL.out W3 hbw
            have d0 : (W3).cell? ⟨D, 0, none⟩ = some (.slice (some ⟨g0, 0, none⟩) d.ino.length c0) := (blk_cell hK 0).trans rfl
            have d1 : (W3).cell? ⟨D, 1, none⟩ = some (.slice (some ad) d.dir.length c1) := (blk_cell hK 1).trans rfl
            have o0 := (blk_cell hO 0).trans rfl
            have o3 := (blk_cell hO 3).trans rfl
            have g0f := blk_frozen hh (j * 2)
            have g1f := blk_frozen hh (j * 2 + 1)
            have K2 := Aside0.mk hK
            have O2 := Aside0.mk hO
            have S2 := Aside0.mk hS
            have Q2 := Aside0.mk q0
            have G2 := Aside0.mk hh
            have D2 := Aside0.mk dw
            have B2 := Aside0.mk bt
            have T2 := Aside0.mk kt
            have HBW := Aside0.mk hbw
            clear hK hO hS q0 hh dw bt kt hbw
          · by_cases hbig : 1048576 < x.f0.size + dat.size
            · have hbi : (1048576 : Int) < (x.f0.size : Int) + (dat.size : Int) := by omega
              go_wp2_with fail
              go_quiet (fail)
              have hbw := below_step HBW.out (pw_below_drewN (Below.refl W3.heap.size W3) nq)
              generalize W3.drewN nq = W4 at hbw ⊢
              clear HBW
              clear d0 d1 o0 o3 g0f g1f K2 O2 S2 Q2 G2 D2 B2 T2 x0 x1 y1
              obtain ⟨hK, hO, hS, q0, hh, dw, bt, kt, y1, x0, x1⟩ := TL.out W4 hbw
              have d0 : (W4).cell? ⟨D, 0, none⟩ = some (.slice (some ⟨g0, 0, none⟩) d.ino.length c0) := (blk_cell hK 0).trans rfl
              have d1 : (W4).cell? ⟨D, 1, none⟩ = some (.slice (some ad) d.dir.length c1) := (blk_cell hK 1).trans rfl
              have o0 := (blk_cell hO 0).trans rfl
              have o3 := (blk_cell hO 3).trans rfl
              have g0f := blk_frozen hh (j * 2)
              have g1f := blk_frozen hh (j * 2 + 1)
              have K2 := Aside0.mk hK
              have O2 := Aside0.mk hO
              have S2 := Aside0.mk hS
              have Q2 := Aside0.mk q0
              have G2 := Aside0.mk hh
              have D2 := Aside0.mk dw
              have B2 := Aside0.mk bt
              have T2 := Aside0.mk kt
              have HBW := Aside0.mk hbw
              clear hK hO hS q0 hh dw bt kt hbw
              have E := Aside0.mk (show res = (Dk.E0, 21) from by rw [RES.out]; simp only [Dk.app, EJ.out, X.out]; rw [← FB.out]; simp [← BH.out, hbig])
              clear d0 d1 o0 o3 g0f g1f x0 x1 y1
              have s0 := (blk_cell S2.out 0).trans rfl
              have s1 := (blk_cell S2.out 1).trans rfl
              have s2 := (blk_cell S2.out 2).trans rfl
              have s3 := (blk_cell S2.out 3).trans rfl
              have f0 := blk_frozen S2.out 0
              have f1 := blk_frozen S2.out 1
              have f2 := blk_frozen S2.out 2
              have f3 := blk_frozen S2.out 3
              go_wp2
              refine bodyPost_ret (results_ct rfl _ _ S 47 _ (0, 0) _ rfl (put47 S2.out _ _ _ _) Try.underlying47 rfl (by kernel_rfl)) rfl ?_
              rw [E.out]
              exact ⟨_, rfl, (DR.zero _ _).put47 S2.out _ _ _ _, below_put47 B2.out hTS _ _ _ _, T2.out.put47 hwS _ _ _ _⟩
            · have hbi : ¬ (1048576 : Int) < (x.f0.size : Int) + (dat.size : Int) := by omega
              go_wp2_with fail
              go_quiet (fail)
              have hbw := below_step HBW.out (pw_below_drewN (Below.refl W3.heap.size W3) nq)
              generalize W3.drewN nq = W5 at hbw ⊢
              clear HBW
              clear d0 d1 o0 o3 g0f g1f K2 O2 S2 Q2 G2 D2 B2 T2 x0 x1 y1
              obtain ⟨hK, hO, hS, q0, hh, dw, bt, kt, y1, x0, x1⟩ := TL.out W5 hbw
              have d0 : (W5).cell? ⟨D, 0, none⟩ = some (.slice (some ⟨g0, 0, none⟩) d.ino.length c0) := (blk_cell hK 0).trans rfl
              have d1 : (W5).cell? ⟨D, 1, none⟩ = some (.slice (some ad) d.dir.length c1) := (blk_cell hK 1).trans rfl
              have o0 := (blk_cell hO 0).trans rfl
              have o3 := (blk_cell hO 3).trans rfl
              have g0f := blk_frozen hh (j * 2)
              have g1f := blk_frozen hh (j * 2 + 1)
              have K2 := Aside0.mk hK
              have O2 := Aside0.mk hO
              have S2 := Aside0.mk hS
              have Q2 := Aside0.mk q0
              have G2 := Aside0.mk hh
              have D2 := Aside0.mk dw
              have B2 := Aside0.mk bt
              have T2 := Aside0.mk kt
              have HBW := Aside0.mk hbw
              clear hK hO hS q0 hh dw bt kt hbw
              go_upto_region 17 with fail
              have hz1 : x.f0.size + dat.size ≤ 9223372036854775807 := by omega
              have hadd := fun (w : World) => run_string_add_sum (P := Try.prog) w x.f0 dat hz1
              go_still_tail 9, (by kernel_rfl)
              change wpList _ _ _ _ _ W5.drew
              have hbw := below_step HBW.out (below_drew (Below.refl W5.heap.size W5))
              generalize W5.drew = W3 at hbw ⊢
              clear HBW d0 d1 o0 o3 g0f g1f K2 O2 S2 Q2 G2 D2 B2 T2 x0 x1 y1
              obtain ⟨hK, hO, hS, q0, hh, dw, bt, kt, y1, x0, x1⟩ := TL.out W3 hbw
              have d0 : W3.cell? ⟨D, 0, none⟩ = some (.slice (some ⟨g0, 0, none⟩) d.ino.length c0) := (blk_cell hK 0).trans rfl
              have d1 : W3.cell? ⟨D, 1, none⟩ = some (.slice (some ad) d.dir.length c1) := (blk_cell hK 1).trans rfl
              have o0 := (blk_cell hO 0).trans rfl
              have o3 := (blk_cell hO 3).trans rfl
              have g0f := blk_frozen hh (j * 2)
              have g1f := blk_frozen hh (j * 2 + 1)
              have K2 := Aside0.mk hK
              have S2 := Aside0.mk hS
              have G2 := Aside0.mk hh
              have D2 := Aside0.mk dw
              have B2 := Aside0.mk bt
              have T2 := Aside0.mk kt
              clear hK hO hS q0 hh dw bt kt hbw
              have E := Aside0.mk (show res = (⟨d.ino.set j ⟨x.f0 ++ dat, x.f1⟩, d.dir, d.dur, d.ops⟩, 0) from by rw [RES.out]; simp only [Dk.app, EJ.out, X.out]; rw [← FB.out]; simp [← BH.out, hbig])
              go_upto_region 18 with fail
              have D3 := Aside0.mk (D2.out.ino (l' := d.ino.set j ⟨x.f0 ++ dat, x.f1⟩) G2.out rfl (by simp) (j * 2) (.string (x.f0 ++ dat)) (by rw [cs67_set0 d.ino j _ hjn, ← XI.out]))
              have K3 := Aside0.mk (blk_far K2.out (p := ⟨g0, j * 2, none⟩) (Ne.symm hgD) (.string (x.f0 ++ dat)))
              have HS3 := Aside0.mk (blk_far S2.out (p := ⟨g0, j * 2, none⟩) (Ne.symm hgS) (.string (x.f0 ++ dat)))
              have B3 := Aside0.mk (B2.out.setCell (p := ⟨g0, j * 2, none⟩) hTg (.string (x.f0 ++ dat)))
              have T3 := Aside0.mk (T2.out.set G2.out (by decide) (j * 2) (.string (x.f0 ++ dat)))
              generalize W3.setCell ⟨g0, j * 2, none⟩ (.string (x.f0 ++ dat)) = W4 at D3 K3 HS3 B3 T3 ⊢
              clear d0 d1 o0 o3 y1 x0 x1 g0f g1f
              have d0 := (blk_cell K3.out 0).trans rfl
              have d1 := (blk_cell K3.out 1).trans rfl
              have d2 := (blk_cell K3.out 2).trans rfl
              have d3 := (blk_cell K3.out 3).trans rfl
              have s0 := (blk_cell HS3.out 0).trans rfl
              have s1 := (blk_cell HS3.out 1).trans rfl
              have s2 := (blk_cell HS3.out 2).trans rfl
              have s3 := (blk_cell HS3.out 3).trans rfl
              have f0 := blk_frozen HS3.out 0
              have f1 := blk_frozen HS3.out 1
              have f2 := blk_frozen HS3.out 2
              have f3 := blk_frozen HS3.out 3
              go_wp2
              refine bodyPost_ret (results_ct rfl _ _ S 47 _ (0, 0) _ rfl (put47 HS3.out _ _ _ _) Try.underlying47 rfl (by kernel_rfl)) rfl ?_
              rw [E.out]
              exact ⟨_, rfl, D3.out.put47 HS3.out _ _ _ _, below_put47 B3.out hTS _ _ _ _, T3.out.put47 hwS _ _ _ _⟩
          · have E := Aside0.mk (show res = (⟨d.ino.set j ⟨x.f0, (x.f0.size : Nat)⟩, d.dir, d.dur, d.ops⟩, 0) from by rw [RES.out]; simp only [Dk.app, EJ.out, X.out]; rw [← FB.out]; simp [← BH.out])
            go_upto_region 14 with fail
            have D3 := Aside0.mk (D2.out.ino (l' := d.ino.set j ⟨x.f0, (x.f0.size : Nat)⟩) G2.out rfl (by simp) (j * 2 + 1) (.int .i64 (x.f0.size : Nat)) (by rw [cs67_set1 d.ino j _ hjn, ← XI.out]))
            have K3 := Aside0.mk (blk_far K2.out (p := ⟨g0, j * 2 + 1, none⟩) (Ne.symm hgD) (.int .i64 (x.f0.size : Nat)))
            have HS3 := Aside0.mk (blk_far S2.out (p := ⟨g0, j * 2 + 1, none⟩) (Ne.symm hgS) (.int .i64 (x.f0.size : Nat)))
            have B3 := Aside0.mk (B2.out.setCell (p := ⟨g0, j * 2 + 1, none⟩) hTg (.int .i64 (x.f0.size : Nat)))
            have T3 := Aside0.mk (T2.out.set G2.out (by decide) (j * 2 + 1) (.int .i64 (x.f0.size : Nat)))
            generalize W3.setCell ⟨g0, j * 2 + 1, none⟩ (.int .i64 (x.f0.size : Nat)) = W4 at D3 K3 HS3 B3 T3 ⊢
            clear d0 d1 o0 o3 y1 x0 x1 g0f g1f
            have d0 := (blk_cell K3.out 0).trans rfl
            have d1 := (blk_cell K3.out 1).trans rfl
            have d2 := (blk_cell K3.out 2).trans rfl
            have d3 := (blk_cell K3.out 3).trans rfl
            have s0 := (blk_cell HS3.out 0).trans rfl
            have s1 := (blk_cell HS3.out 1).trans rfl
            have s2 := (blk_cell HS3.out 2).trans rfl
            have s3 := (blk_cell HS3.out 3).trans rfl
            have f0 := blk_frozen HS3.out 0
            have f1 := blk_frozen HS3.out 1
            have f2 := blk_frozen HS3.out 2
            have f3 := blk_frozen HS3.out 3
            go_wp2
            refine bodyPost_ret (results_ct rfl _ _ S 47 _ (0, 0) _ rfl (put47 HS3.out _ _ _ _) Try.underlying47 rfl (by kernel_rfl)) rfl ?_
            rw [E.out]
            exact ⟨_, rfl, D3.out.put47 HS3.out _ _ _ _, below_put47 B3.out hTS _ _ _ _, T3.out.put47 hwS _ _ _ _⟩
      · have hk2 : ¬ k = 2 := fun e => hk23 (.inl e)
        have hk3 : ¬ k = 3 := fun e => hk23 (.inr e)
        obtain ⟨c, hc⟩ : ∃ c, c = chg d.dir ⟨k, nm, tt, dat⟩ (d.ino.length : Nat) := ⟨_, rfl⟩
        have R1 := Aside0.mk DW.out.rows.2.1
        have CC := Aside0.mk (change_calls T _ (.slice A1 d.dir.length c1) d.dir ⟨k, nm, tt, dat⟩ (d.ino.length : Nat) w1 HS.out (by omega) hTw R1.out)
        rw [← hc] at CC
        obtain ⟨c1', ce⟩ := c
        have HC := Aside0.mk hc
        clear hc hk23
        go_wp2_with fail
        refine CC.out.mono ?_
        rintro e w2 ⟨v', rfl, ho⟩
        have K2 := Aside0.mk (ho.block HK.out (Kd.R_ne R1.out HK.out (by decide)))
        have O2 := Aside0.mk (ho.block HO.out (Kd.R_ne R1.out HO.out (by decide)))
        have S2 := Aside0.mk (ho.block HSS.out (Kd.R_ne R1.out HSS.out (by decide)))
        have D2 := Aside0.mk (DW.out.dir' ho)
        have B2 := Aside0.mk (pw_below_grown BT.out _ hTw ho.grown (fun k hk => own_base (R69_own R1.out) k hk))
        have T2 := Aside0.mk (KT.out.grown R1.out (by decide) ho.grown)
        have hTw2 : T ≤ w2.heap.size := Nat.le_trans hTw ho.grown.size
        obtain ⟨A1', e1', hv⟩ := Kd.R_slice ho.row
        subst hv
        clear ho d0 d1 d2 d3 o0 o1 o2 o3 CC R1 BT KT DW HK HO HSS
        by_cases hce : ce = 0
        · subst hce
          have E := Aside0.mk (show res = (⟨if k = 1 then d.ino ++ [z67] else d.ino, c1', d.dur, d.ops ++ [⟨k, nm, tt, dat⟩]⟩, 0) from by rw [RES.out]; simp only [Dk.app]; rw [← FB.out, ← HC.out]; simp [hk2, hk3, hk6])
          have k1 := (blk_cell K2.out 1).trans rfl
          have k1f := blk_frozen K2.out 1
          have o0 := (blk_cell O2.out 0).trans rfl
          by_cases hk1 : k = 1
          · subst hk1
            go_upto_region 24 with fail
            have K6 := Aside0.mk (blk_put K2.out 1 (.slice A1' c1'.length e1') rfl)
            have O6 := Aside0.mk (blk_far O2.out (p := ⟨D, 1, none⟩) (Ne.symm hDO) (.slice A1' c1'.length e1'))
            have S6 := Aside0.mk (blk_far S2.out (p := ⟨D, 1, none⟩) (Ne.symm hDS) (.slice A1' c1'.length e1'))
            have D6 := Aside0.mk (D2.out.set47 K2.out 1 (.slice A1' c1'.length e1'))
            have B6 := Aside0.mk (B2.out.setCell (p := ⟨D, 1, none⟩) hTD (.slice A1' c1'.length e1'))
            have T6 := Aside0.mk (T2.out.set_new hwD 1 (.slice A1' c1'.length e1'))
            have hTw6 : T ≤ (w2.setCell ⟨D, 1, none⟩ (.slice A1' c1'.length e1')).heap.size := by simpa [World.setCell] using hTw2
            generalize w2.setCell ⟨D, 1, none⟩ (.slice A1' c1'.length e1') = W6 at K6 O6 S6 D6 B6 T6 hTw6 ⊢
            clear k1 k1f o0 K2 O2 S2 D2 B2 T2
            have k0 := (blk_cell K6.out 0).trans rfl
            have bn := (Below.refl W6.heap.size W6).alloc (Nat.le_refl _) (.cells #[.string ⟨#[]⟩, .int .i64 0] 67)
            have QC := Aside0.mk (C67_one (x := z67) (blk_new W6 (.cells #[.string ⟨#[]⟩, .int .i64 0] 67)))
            have QR := Aside0.mk (show Kd.R k67 67 _ T (fun _ => True) (.slice A0 d.ino.length c0) d.ino from Kd.R_below D6.out.rows.1 bn)
            have QT := Aside0.mk (Nat.le_trans hTw6 bn.size)
            have QBB : Aside0 (Below T w (W6.alloc (.cells #[.string ⟨#[]⟩, .int .i64 0] 67))) := ⟨B6.out.alloc hTw6 _⟩
            have BN := Aside0.mk bn
            clear bn
            go_upto_region 25 with (at_builtin; go_loud (refine Kd.R_append_rows k67 (Rr := k67.K _) (w0 := w) T rfl _ _ 43 67 (.agg #[.string ⟨#[]⟩, .int .i64 0]) 24 rfl Try.underlying43 info67 rfl (by decide) (by decide) (.slice A0 d.ino.length c0) d.ino [z67] (some ⟨W6.heap.size, 0, none⟩) 1 1 (fun _ => True) (fun _ => False) rfl rfl QR.out QC.out ?q2 ?q3 ?q4 QBB.out QT.out ?q7 ?_); (case q2 => intro y cs h; obtain rfl := k67_open h; exact k67_mkM _ _ _ _); (case q3 => intro k h; exact h.elim); (case q4 => intro k hk; trivial); (case q7 => omega); intro v1 w7 h1 h2 h3 h4; obtain ⟨A0', e0', hv0⟩ := Kd.R_slice h1; subst hv0; have H2 := Aside0.mk h2; have K7 := Aside0.mk (blk_grown (blk_below K6.out BN.out) h3 (Kd.R_ne QR.out (blk_below K6.out BN.out) (by decide))); have O7 := Aside0.mk (blk_grown (blk_below O6.out BN.out) h3 (Kd.R_ne QR.out (blk_below O6.out BN.out) (by decide))); have S7 := Aside0.mk (blk_grown (blk_below S6.out BN.out) h3 (Kd.R_ne QR.out (blk_below S6.out BN.out) (by decide))); have D7 := Aside0.mk ((D6.out.below BN.out).ino' h1 h3); have T7 := Aside0.mk ((T6.out.below BN.out).grown QR.out (by decide) h3); have t0 := (blk_cell K7.out 0).trans rfl; have t0f := blk_frozen K7.out 0; have Z7 := Aside0.mk (Nat.le_trans QT.out h3.size); clear h1 h2 h3 h4 k0)
            have hl7 : (d.ino ++ [z67]).length = d.ino.length + 1 := by simp
            rw [hl7] at D7
            have K3 := Aside0.mk (blk_put K7.out 0 (.slice A0' (d.ino.length + 1) e0') rfl)
            have O3 := Aside0.mk (blk_far O7.out (p := ⟨D, 0, none⟩) (Ne.symm hDO) (.slice A0' (d.ino.length + 1) e0'))
            have S3 := Aside0.mk (blk_far S7.out (p := ⟨D, 0, none⟩) (Ne.symm hDS) (.slice A0' (d.ino.length + 1) e0'))
            have D3 := Aside0.mk (D7.out.set47 K7.out 0 (.slice A0' (d.ino.length + 1) e0'))
            have B3 := Aside0.mk (H2.out.setCell (p := ⟨D, 0, none⟩) hTD (.slice A0' (d.ino.length + 1) e0'))
            have T3 := Aside0.mk (T7.out.set_new hwD 0 (.slice A0' (d.ino.length + 1) e0'))
            have hTw3 : T ≤ (w7.setCell ⟨D, 0, none⟩ (.slice A0' (d.ino.length + 1) e0')).heap.size := by have := Z7.out; simpa [World.setCell] using this
            generalize w7.setCell ⟨D, 0, none⟩ (.slice A0' (d.ino.length + 1) e0') = W3 at K3 O3 S3 D3 B3 T3 hTw3 ⊢
            clear t0 t0f K7 O7 S7 D7 H2 T7 K6 O6 S6 D6 B6 T6 QC QR QT QBB BN hl7 Z7
            have k3 := (blk_cell K3.out 3).trans rfl
            have o0 := (blk_cell O3.out 0).trans rfl
            have o1 := (blk_cell O3.out 1).trans rfl
            have o2 := (blk_cell O3.out 2).trans rfl
            have o3 := (blk_cell O3.out 3).trans rfl
            have bn := (Below.refl W3.heap.size W3).alloc (Nat.le_refl _) (.cells #[.int .i64 1, .string nm, .string tt, .string dat] 49)
            have QC := Aside0.mk (C49_one (x := ⟨1, nm, tt, dat⟩) (blk_new W3 (.cells #[.int .i64 1, .string nm, .string tt, .string dat] 49)))
            have QR := Aside0.mk (show Kd.R k49 49 _ T (fun _ => True) (.slice A3 d.ops.length c3) d.ops from Kd.R_below D3.out.rows.2.2.2 bn)
            have QT := Aside0.mk (Nat.le_trans hTw3 bn.size)
            have QBB : Aside0 (Below T w (W3.alloc (.cells #[.int .i64 1, .string nm, .string tt, .string dat] 49))) := ⟨B3.out.alloc hTw3 _⟩
            have BN := Aside0.mk bn
            clear bn
            go_upto_region 26 with (at_builtin; go_loud (refine Kd.R_append_rows k49 (Rr := k49.K _) (w0 := w) T rfl _ _ 45 49 (.agg #[.int .i64 0, .string ⟨#[]⟩, .string ⟨#[]⟩, .string ⟨#[]⟩]) 56 rfl Try.underlying45 info49 rfl (by decide) (by decide) (.slice A3 d.ops.length c3) d.ops [⟨1, nm, tt, dat⟩] (some ⟨W3.heap.size, 0, none⟩) 1 1 (fun _ => True) (fun _ => False) rfl rfl QR.out QC.out ?q2 ?q3 ?q4 QBB.out QT.out ?q7 ?_); (case q2 => intro y cs h; obtain rfl := k49_open h; exact k49_mkM _ _ _ _); (case q3 => intro k h; exact h.elim); (case q4 => intro k hk; trivial); (case q7 => omega); intro v1 w4 h1 h2 h3 h4; obtain ⟨A3', e3', hv3⟩ := Kd.R_slice h1; subst hv3; have H1 := Aside0.mk h1; have H2 := Aside0.mk h2; have H3 := Aside0.mk h3; have K4 := Aside0.mk (blk_grown (blk_below K3.out BN.out) h3 (Kd.R_ne QR.out (blk_below K3.out BN.out) (by decide))); have S4 := Aside0.mk (blk_grown (blk_below S3.out BN.out) h3 (Kd.R_ne QR.out (blk_below S3.out BN.out) (by decide))); have D4 := Aside0.mk ((D3.out.below BN.out).ops' h1 h3); have T4 := Aside0.mk ((T3.out.below BN.out).grown QR.out (by decide) h3); have t3 := (blk_cell K4.out 3).trans rfl; have t3f := blk_frozen K4.out 3; clear h1 h2 h3 h4 k3 o0 o1 o2 o3)
            have hl4 : (d.ops ++ [(⟨1, nm, tt, dat⟩ : S49)]).length = d.ops.length + 1 := by simp
            rw [hl4] at D4
            have K5 := Aside0.mk (blk_put K4.out 3 (.slice A3' (d.ops.length + 1) e3') rfl)
            have S5 := Aside0.mk (blk_far S4.out (p := ⟨D, 3, none⟩) (Ne.symm hDS) (.slice A3' (d.ops.length + 1) e3'))
            have D5 := Aside0.mk (D4.out.set47 K4.out 3 (.slice A3' (d.ops.length + 1) e3'))
            have B5 := Aside0.mk (H2.out.setCell (p := ⟨D, 3, none⟩) hTD (.slice A3' (d.ops.length + 1) e3'))
            have T5 := Aside0.mk (T4.out.set_new hwD 3 (.slice A3' (d.ops.length + 1) e3'))
            generalize w4.setCell ⟨D, 3, none⟩ (.slice A3' (d.ops.length + 1) e3') = W5 at K5 S5 D5 B5 T5 ⊢
            clear t3 t3f K4 S4 D4 H1 H2 H3 T4 K3 O3 S3 D3 B3 T3 QC QR QT QBB BN hl4
            have k0 := (blk_cell K5.out 0).trans rfl
            have k1 := (blk_cell K5.out 1).trans rfl
            have k2 := (blk_cell K5.out 2).trans rfl
            have k3 := (blk_cell K5.out 3).trans rfl
            have s0 := (blk_cell S5.out 0).trans rfl
            have s1 := (blk_cell S5.out 1).trans rfl
            have s2 := (blk_cell S5.out 2).trans rfl
            have s3 := (blk_cell S5.out 3).trans rfl
            have f0 := blk_frozen S5.out 0
            have f1 := blk_frozen S5.out 1
            have f2 := blk_frozen S5.out 2
            have f3 := blk_frozen S5.out 3
            go_wp2
            refine bodyPost_ret (results_ct rfl _ _ S 47 _ (0, 0) _ rfl (put47 S5.out _ _ _ _) Try.underlying47 rfl (by kernel_rfl)) rfl ?_
            rw [E.out]
            simp only [if_true]
            exact ⟨_, rfl, D5.out.put47 S5.out _ _ _ _, below_put47 B5.out hTS _ _ _ _, T5.out.put47 hwS _ _ _ _⟩
          · go_upto_region 25 with fail
            have K3 := Aside0.mk (blk_put K2.out 1 (.slice A1' c1'.length e1') rfl)
            have O3 := Aside0.mk (blk_far O2.out (p := ⟨D, 1, none⟩) (Ne.symm hDO) (.slice A1' c1'.length e1'))
            have S3 := Aside0.mk (blk_far S2.out (p := ⟨D, 1, none⟩) (Ne.symm hDS) (.slice A1' c1'.length e1'))
            have D3 := Aside0.mk (D2.out.set47 K2.out 1 (.slice A1' c1'.length e1'))
            have B3 := Aside0.mk (B2.out.setCell (p := ⟨D, 1, none⟩) hTD (.slice A1' c1'.length e1'))
            have T3 := Aside0.mk (T2.out.set_new hwD 1 (.slice A1' c1'.length e1'))
            have hTw3 : T ≤ (w2.setCell ⟨D, 1, none⟩ (.slice A1' c1'.length e1')).heap.size := by simpa [World.setCell] using hTw2
            generalize w2.setCell ⟨D, 1, none⟩ (.slice A1' c1'.length e1') = W3 at K3 O3 S3 D3 B3 T3 hTw3 ⊢
            clear k1 k1f o0 K2 O2 S2 D2 B2 T2
            have k3 := (blk_cell K3.out 3).trans rfl
            have o0 := (blk_cell O3.out 0).trans rfl
            have o1 := (blk_cell O3.out 1).trans rfl
            have o2 := (blk_cell O3.out 2).trans rfl
            have o3 := (blk_cell O3.out 3).trans rfl
            have bn := (Below.refl W3.heap.size W3).alloc (Nat.le_refl _) (.cells #[.int .i64 k, .string nm, .string tt, .string dat] 49)
            have QC := Aside0.mk (C49_one (x := ⟨k, nm, tt, dat⟩) (blk_new W3 (.cells #[.int .i64 k, .string nm, .string tt, .string dat] 49)))
            have QR := Aside0.mk (show Kd.R k49 49 _ T (fun _ => True) (.slice A3 d.ops.length c3) d.ops from Kd.R_below D3.out.rows.2.2.2 bn)
            have QT := Aside0.mk (Nat.le_trans hTw3 bn.size)
            have QBB : Aside0 (Below T w (W3.alloc (.cells #[.int .i64 k, .string nm, .string tt, .string dat] 49))) := ⟨B3.out.alloc hTw3 _⟩
            have BN := Aside0.mk bn
            clear bn
            go_upto_region 26 with (at_builtin; go_loud (refine Kd.R_append_rows k49 (Rr := k49.K _) (w0 := w) T rfl _ _ 45 49 (.agg #[.int .i64 0, .string ⟨#[]⟩, .string ⟨#[]⟩, .string ⟨#[]⟩]) 56 rfl Try.underlying45 info49 rfl (by decide) (by decide) (.slice A3 d.ops.length c3) d.ops [⟨k, nm, tt, dat⟩] (some ⟨W3.heap.size, 0, none⟩) 1 1 (fun _ => True) (fun _ => False) rfl rfl QR.out QC.out ?q2 ?q3 ?q4 QBB.out QT.out ?q7 ?_); (case q2 => intro y cs h; obtain rfl := k49_open h; exact k49_mkM _ _ _ _); (case q3 => intro k h; exact h.elim); (case q4 => intro k hk; trivial); (case q7 => omega); intro v1 w4 h1 h2 h3 h4; obtain ⟨A3', e3', hv3⟩ := Kd.R_slice h1; subst hv3; have H1 := Aside0.mk h1; have H2 := Aside0.mk h2; have H3 := Aside0.mk h3; have K4 := Aside0.mk (blk_grown (blk_below K3.out BN.out) h3 (Kd.R_ne QR.out (blk_below K3.out BN.out) (by decide))); have S4 := Aside0.mk (blk_grown (blk_below S3.out BN.out) h3 (Kd.R_ne QR.out (blk_below S3.out BN.out) (by decide))); have D4 := Aside0.mk ((D3.out.below BN.out).ops' h1 h3); have T4 := Aside0.mk ((T3.out.below BN.out).grown QR.out (by decide) h3); have t3 := (blk_cell K4.out 3).trans rfl; have t3f := blk_frozen K4.out 3; clear h1 h2 h3 h4 k3 o0 o1 o2 o3)
            have hl4 : (d.ops ++ [(⟨k, nm, tt, dat⟩ : S49)]).length = d.ops.length + 1 := by simp
            rw [hl4] at D4
            have K5 := Aside0.mk (blk_put K4.out 3 (.slice A3' (d.ops.length + 1) e3') rfl)
            have S5 := Aside0.mk (blk_far S4.out (p := ⟨D, 3, none⟩) (Ne.symm hDS) (.slice A3' (d.ops.length + 1) e3'))
            have D5 := Aside0.mk (D4.out.set47 K4.out 3 (.slice A3' (d.ops.length + 1) e3'))
            have B5 := Aside0.mk (H2.out.setCell (p := ⟨D, 3, none⟩) hTD (.slice A3' (d.ops.length + 1) e3'))
            have T5 := Aside0.mk (T4.out.set_new hwD 3 (.slice A3' (d.ops.length + 1) e3'))
            generalize w4.setCell ⟨D, 3, none⟩ (.slice A3' (d.ops.length + 1) e3') = W5 at K5 S5 D5 B5 T5 ⊢
            clear t3 t3f K4 S4 D4 H1 H2 H3 T4 K3 O3 S3 D3 B3 T3 QC QR QT QBB BN hl4
            have k0 := (blk_cell K5.out 0).trans rfl
            have k1 := (blk_cell K5.out 1).trans rfl
            have k2 := (blk_cell K5.out 2).trans rfl
            have k3 := (blk_cell K5.out 3).trans rfl
            have s0 := (blk_cell S5.out 0).trans rfl
            have s1 := (blk_cell S5.out 1).trans rfl
            have s2 := (blk_cell S5.out 2).trans rfl
            have s3 := (blk_cell S5.out 3).trans rfl
            have f0 := blk_frozen S5.out 0
            have f1 := blk_frozen S5.out 1
            have f2 := blk_frozen S5.out 2
            have f3 := blk_frozen S5.out 3
            go_wp2
            refine bodyPost_ret (results_ct rfl _ _ S 47 _ (0, 0) _ rfl (put47 S5.out _ _ _ _) Try.underlying47 rfl (by kernel_rfl)) rfl ?_
            rw [E.out]
            rw [if_neg hk1]
            exact ⟨_, rfl, D5.out.put47 S5.out _ _ _ _, below_put47 B5.out hTS _ _ _ _, T5.out.put47 hwS _ _ _ _⟩
        · have E := Aside0.mk (show res = (Dk.E0, ce) from by rw [RES.out]; simp only [Dk.app]; rw [← FB.out, ← HC.out]; simp [hk2, hk3, hk6, hce])
          have s0 := (blk_cell S2.out 0).trans rfl
          have s1 := (blk_cell S2.out 1).trans rfl
          have s2 := (blk_cell S2.out 2).trans rfl
          have s3 := (blk_cell S2.out 3).trans rfl
          have f0 := blk_frozen S2.out 0
          have f1 := blk_frozen S2.out 1
          have f2 := blk_frozen S2.out 2
          have f3 := blk_frozen S2.out 3
          go_wp2
          refine bodyPost_ret (results_ct rfl _ _ S 47 _ (0, 0) _ rfl (put47 S2.out _ _ _ _) Try.underlying47 rfl (by kernel_rfl)) rfl ?_
          rw [E.out]
          exact ⟨_, rfl, (DR.zero _ _).put47 S2.out _ _ _ _, below_put47 B2.out hTS _ _ _ _, T2.out.put47 hwS _ _ _ _⟩
end Go.Proofs.Ytnaddmkaakdhoaa.J

end
section
namespace Go.Proofs.Ytnaddmkaakdhoaa.J
open Go.RowKit Go.Proofs.YtnaddmkaakdhoaaW.PrintWords Go.Proofs.YtnaddmkaakdhoaaW.PrintLast Go.Proofs.YtnaddmkaakdhoaaW.PrintMore
open Dk (Srt valid app appAll applyAll Valid)
set_option linter.unusedVariables false
set_option linter.unusedSimpArgs false
theorem far47 {W : World} {S D : Nat} {t : Nat} {cs : Array Value} (h : W.heap[S]? = some (Obj.cells cs t (0, 0))) (hn : S ≠ D) (a0 a1 a2 a3 : Value) : ((((W.setCell ⟨D, 0, none⟩ a0).setCell ⟨D, 1, none⟩ a1).setCell ⟨D, 2, none⟩ a2).setCell ⟨D, 3, none⟩ a3).heap[S]? = some (Obj.cells cs t (0, 0)) :=
  blk_far (blk_far (blk_far (blk_far h (p := ⟨D, 0, none⟩) hn a0) (p := ⟨D, 1, none⟩) hn a1) (p := ⟨D, 2, none⟩) hn a2) (p := ⟨D, 3, none⟩) hn a3
set_option maxHeartbeats 8000000 in
set_option maxRecDepth 100000 in
theorem applyAll_calls (a : Value) (d : Dsk) (A : Option Addr) (c : Nat) (os : List S49) (w : World) (hd : DC w a d) (hr : Kd.C k49 w A os.length os) (hc : os.length ≤ c) (hs : Sml 40000 d) (ho : os.length ≤ 40000) (hz : ∀ o ∈ os, o.f3.size ≤ 140737488355328) :
    Calls Try.prog 44 #[a, .slice A os.length c] w fun e w' => ∃ v, e = .returned (.tuple #[v, .int .i64 (applyAll d os).2]) ∧ DR w' w.heap.size v (applyAll d os).1 ∧ Below w.heap.size w w' := by
  have DD := Aside0.mk hd
  obtain ⟨A0, c0, A1, c1, A2, c2, A3, c3, rfl, ⟨r0, l0⟩, ⟨r1, l1⟩, ⟨r2, l2⟩, ⟨r3, l3⟩⟩ := hd
  have hs' := Aside0.mk hs
  obtain ⟨n0, n1, n2, n3⟩ := hs
  have HR := Aside0.mk hr
  have HZ := Aside0.mk hz
  obtain ⟨res, hres⟩ : ∃ res, res = applyAll d os := ⟨_, rfl⟩
  rw [← hres]
  have RES := Aside0.mk hres
  obtain ⟨b, hb⟩ : ∃ b, b = valid d := ⟨_, rfl⟩
  have VC := Aside0.mk (fun w' hd' => validate_calls (.agg #[.slice A0 d.ino.length c0, .slice A1 d.dir.length c1, .slice A2 d.dur.length c2, .slice A3 d.ops.length c3]) d w' hd' ⟨by omega, by omega, by omega, by omega⟩)
  rw [← hb] at VC
  have VB := Aside0.mk hb
  obtain ⟨n, hn⟩ : ∃ n, n = os.length := ⟨_, rfl⟩
  have HN := Aside0.mk hn
  rw [← hn] at hc ho ⊢
  clear hr hz hres hb hn r0 r1 r2 r3
  go_enter Try.func44, Try.ntmps44
  go_wp2_with fail
  have hB := ((Below.refl w.heap.size w).alloc (Nat.le_refl _) (.cells #[.slice A0 d.ino.length c0, .slice A1 d.dir.length c1, .slice A2 d.dur.length c2, .slice A3 d.ops.length c3] 47)).alloc (by simp) (.cells #[.slice none 0 0, .slice none 0 0, .slice none 0 0, .slice none 0 0] 47)
  have hK := blk_alloc (blk_new w (.cells #[.slice A0 d.ino.length c0, .slice A1 d.dir.length c1, .slice A2 d.dur.length c2, .slice A3 d.ops.length c3] 47)) (.cells #[.slice none 0 0, .slice none 0 0, .slice none 0 0, .slice none 0 0] 47)
  have hS := blk_new (w.alloc (.cells #[.slice A0 d.ino.length c0, .slice A1 d.dir.length c1, .slice A2 d.dur.length c2, .slice A3 d.ops.length c3] 47)) (.cells #[.slice none 0 0, .slice none 0 0, .slice none 0 0, .slice none 0 0] 47)
  rw [show (w.alloc (.cells #[.slice A0 d.ino.length c0, .slice A1 d.dir.length c1, .slice A2 d.dur.length c2, .slice A3 d.ops.length c3] 47)).heap.size = w.heap.size + 1 by simp] at hS
  generalize (w.alloc (.cells #[.slice A0 d.ino.length c0, .slice A1 d.dir.length c1, .slice A2 d.dur.length c2, .slice A3 d.ops.length c3] 47)).alloc (.cells #[.slice none 0 0, .slice none 0 0, .slice none 0 0, .slice none 0 0] 47) = W0 at hB hK hS ⊢
  refine (VC.out W0 (DD.out.below hB)).mono ?_
  rintro e w1 ⟨rfl, hb1⟩
  have HB := Aside0.mk (below_step hB hb1)
  have HK := Aside0.mk (blk_below hK hb1)
  have HS := Aside0.mk (blk_below hS hb1)
  clear hB hK hS hb1 VC
  obtain ⟨D, hD⟩ : ∃ D, D = w.heap.size := ⟨_, rfl⟩
  obtain ⟨S, hS⟩ : ∃ S, S = w.heap.size + 1 := ⟨_, rfl⟩
  have ED := Aside0.mk hD
  have ES := Aside0.mk hS
  rw [← hS] at HS ⊢
  rw [← hD] at HK ⊢
  have hTD : w.heap.size ≤ D := by omega
  have hTS : w.heap.size ≤ S := by omega
  have hDS : D ≠ S := by omega
  have hSD : S ≠ D := by omega
  clear hD hS
  cases b with
  | false =>
    have E := Aside0.mk (show res = (Dk.E0, 9) from by rw [RES.out]; unfold Dk.applyAll; rw [← VB.out]; rfl)
    have s0 := (blk_cell HS.out 0).trans rfl
    have s1 := (blk_cell HS.out 1).trans rfl
    have s2 := (blk_cell HS.out 2).trans rfl
    have s3 := (blk_cell HS.out 3).trans rfl
    have f0 := blk_frozen HS.out 0
    have f1 := blk_frozen HS.out 1
    have f2 := blk_frozen HS.out 2
    have f3 := blk_frozen HS.out 3
    go_wp2
    refine bodyPost_ret (results_ct rfl _ _ S 47 _ (0, 0) _ rfl (put47 HS.out _ _ _ _) Try.underlying47 rfl (by kernel_rfl)) rfl ?_
    rw [E.out]
    exact ⟨_, rfl, (DR.zero _ _).put47 HS.out _ _ _ _, below_put47 HB.out hTS _ _ _ _⟩
  | true =>
    have V := Aside0.mk (Dk.valid_of.1 VB.out.symm)
    have E := Aside0.mk (show res = appAll d os from by rw [RES.out]; unfold Dk.applyAll; rw [← VB.out]; rfl)
    have k0 := (blk_cell HK.out 0).trans rfl
    have k1 := (blk_cell HK.out 1).trans rfl
    have k2 := (blk_cell HK.out 2).trans rfl
    have k3 := (blk_cell HK.out 3).trans rfl
    have g0 := blk_frozen HK.out 0
    have g1 := blk_frozen HK.out 1
    have g2 := blk_frozen HK.out 2
    have g3 := blk_frozen HK.out 3
    go_wp2_with fail
    refine (clone_calls _ d ⟨by have := hs'.out.1; omega, by omega, by omega, by omega⟩ w1 (DD.out.below HB.out)).mono ?_
    rintro e w2 ⟨v, rfl, h1, h2⟩
    obtain ⟨B0, e0, B1, e1, B2, e2, B3, e3, rfl⟩ := h1.slices
    have D2 := Aside0.mk (h1.lower HB.out.size)
    have HB2 := Aside0.mk (below_step HB.out h2)
    have K2 := Aside0.mk (blk_below HK.out h2)
    have S2 := Aside0.mk (blk_below HS.out h2)
    clear h1 h2 k0 k1 k2 k3 g0 g1 g2 g3
    have k0 := (blk_cell K2.out 0).trans rfl
    have k1 := (blk_cell K2.out 1).trans rfl
    have k2 := (blk_cell K2.out 2).trans rfl
    have k3 := (blk_cell K2.out 3).trans rfl
    have g0 := blk_frozen K2.out 0
    have g1 := blk_frozen K2.out 1
    have g2 := blk_frozen K2.out 2
    have g3 := blk_frozen K2.out 3
    go_upto_region 5 with fail
    have K3 := Aside0.mk (put47 K2.out (.slice B0 d.ino.length e0) (.slice B1 d.dir.length e1) (.slice B2 d.dur.length e2) (.slice B3 d.ops.length e3))
    have S3 := Aside0.mk (far47 S2.out hSD (.slice B0 d.ino.length e0) (.slice B1 d.dir.length e1) (.slice B2 d.dur.length e2) (.slice B3 d.ops.length e3))
    have D3 := Aside0.mk (D2.out.put47 K2.out (.slice B0 d.ino.length e0) (.slice B1 d.dir.length e1) (.slice B2 d.dur.length e2) (.slice B3 d.ops.length e3))
    have B3' := Aside0.mk (below_put47 HB2.out hTD (.slice B0 d.ino.length e0) (.slice B1 d.dir.length e1) (.slice B2 d.dur.length e2) (.slice B3 d.ops.length e3))
    generalize (((w2.setCell ⟨D, 0, none⟩ (.slice B0 d.ino.length e0)).setCell ⟨D, 1, none⟩ (.slice B1 d.dir.length e1)).setCell ⟨D, 2, none⟩ (.slice B2 d.dur.length e2)).setCell ⟨D, 3, none⟩ (.slice B3 d.ops.length e3) = W3 at K3 S3 D3 B3' ⊢
    clear k0 k1 k2 k3 g0 g1 g2 g3 K2 S2 D2 HB2 HB HK HS
    go_wp2_with fail
    go_loopg [21] n (fun kx s21 wr => ∃ (i : Nat) (d' : Dsk) (C0 C1 C2 C3 : Option Addr) (e0 e1 e2 e3 : Nat), s21 = .int .i64 i ∧ i ≤ n ∧ n - i ≤ kx ∧ Aside0 (appAll d os = appAll d' (os.drop i)) ∧ Aside0 (Valid d') ∧ Aside0 (Sml (40000 + i) d') ∧ Aside0 (Below w.heap.size w wr) ∧ Aside0 (wr.heap[D]? = some (.cells #[.slice C0 d'.ino.length e0, .slice C1 d'.dir.length e1, .slice C2 d'.dur.length e2, .slice C3 d'.ops.length e3] 47 (0, 0))) ∧ Aside0 (wr.heap[S]? = some (.cells #[.slice none 0 0, .slice none 0 0, .slice none 0 0, .slice none 0 0] 47 (0, 0))) ∧ Aside0 (DR wr w.heap.size (.agg #[.slice C0 d'.ino.length e0, .slice C1 d'.dir.length e1, .slice C2 d'.dur.length e2, .slice C3 d'.ops.length e3]) d'))
    case atStart => exact ⟨0, d, _, _, _, _, _, _, _, _, rfl, Nat.zero_le _, by omega, ⟨rfl⟩, V, hs', B3', K3, S3, D3⟩
    case round =>
      clear B3' K3 S3 D3
      obtain ⟨i, d', C0, C1, C2, C3, e0, e1, e2, e3, rfl, hi, hk, hA, hV, hS', HB, HK, HS, HD⟩ := hrel
      by_cases hlt : i < n
      · obtain ⟨ad, ea, hx0, hx1, hx2, hx3⟩ := at_T49 HR.out (i : Int) (by omega) (by have := HN.out; omega)
        cases ea
        obtain ⟨y, hy⟩ : ∃ y, y = rd_T49 os (i : Int) := ⟨_, rfl⟩
        rw [← hy] at hx0 hx1 hx2 hx3
        have hil : i < os.length := by have := HN.out; omega
        have hyi : os[i] = y := by
          rw [hy]
          show _ = os.getD i z49
          rw [List.getD_eq_getElem?_getD, List.getElem?_eq_getElem hil]
          rfl
        have hdr := Aside0.mk (show appAll d os = _ from by rw [hA.out, List.drop_eq_getElem_cons hil, hyi])
        have hyz := HZ.out y (hyi ▸ List.getElem_mem hil)
        clear hy hyi
        replace hx0 : wr.cell? (ad.add (i * 4)) = some (.int .i64 y.f0) := (HB.out.cell (World.block_lt_of_cell? w _ hx0)).trans hx0
        replace hx1 : wr.cell? ⟨(ad.add (i * 4)).block, (ad.add (i * 4)).off + 1, none⟩ = some (.string y.f1) := (HB.out.cell (World.block_lt_of_cell? w _ hx1)).trans hx1
        replace hx2 : wr.cell? ⟨(ad.add (i * 4)).block, (ad.add (i * 4)).off + 2, none⟩ = some (.string y.f2) := (HB.out.cell (World.block_lt_of_cell? w _ hx2)).trans hx2
        replace hx3 : wr.cell? ⟨(ad.add (i * 4)).block, (ad.add (i * 4)).off + 3, none⟩ = some (.string y.f3) := (HB.out.cell (World.block_lt_of_cell? w _ hx3)).trans hx3
        have bn := (Below.refl wr.heap.size wr).alloc (Nat.le_refl _) (.cells #[.int .i64 y.f0, .string y.f1, .string y.f2, .string y.f3] 49)
        have kX := blk_new wr (.cells #[.int .i64 y.f0, .string y.f1, .string y.f2, .string y.f3] 49)
        have HB4 := Aside0.mk (below_step HB.out bn)
        have HK4 := Aside0.mk (blk_below HK.out bn)
        have HS4 := Aside0.mk (blk_below HS.out bn)
        have HD4 := Aside0.mk (HD.out.below bn)
        have y0 := (blk_cell kX 0).trans rfl
        have y1 := (blk_cell kX 1).trans rfl
        have y2 := (blk_cell kX 2).trans rfl
        have y3 := (blk_cell kX 3).trans rfl
        have hsm := hS'.out
        have AC := Aside0.mk (fun W hT h => apply_calls w.heap.size (.agg #[.slice C0 d'.ino.length e0, .slice C1 d'.dir.length e1, .slice C2 d'.dur.length e2, .slice C3 d'.ops.length e3]) d' y W h hT ⟨by have := hsm.1; omega, by have := hsm.2.1; omega, by have := hsm.2.2.1; omega, by have := hsm.2.2.2; omega⟩ hV.out.dir.2.1 (fun x hx => (hV.out.dir.1 x hx).2) (fun x hx => (hV.out.ino x hx).2.2) (by omega))
        obtain ⟨ap, hap⟩ : ∃ ap, ap = app d' y := ⟨_, rfl⟩
        rw [← hap] at AC
        have AP := Aside0.mk hap
        clear bn kX hsm hap HK HS HD
        obtain ⟨ad1, ae⟩ := ap
        have k0 := (blk_cell HK4.out 0).trans rfl
        have k1 := (blk_cell HK4.out 1).trans rfl
        have k2 := (blk_cell HK4.out 2).trans rfl
        have k3 := (blk_cell HK4.out 3).trans rfl
        go_wp2_with fail
        refine (AC.out _ (Nat.le_trans HB.out.size (by simp)) HD4.out).mono ?_
        rintro e w5 ⟨v, rfl, h1, h2, h3⟩
        obtain ⟨F0, g0, F1, g1, F2, g2, F3, g3, rfl⟩ := h1.slices
        have D5 := Aside0.mk h1
        have B5 := Aside0.mk (HB4.out.trans (h2.mono (Nat.le_refl _)))
        have K5 := Aside0.mk (h3 _ _ _ HK4.out (by decide))
        have S5 := Aside0.mk (h3 _ _ _ HS4.out (by decide))
        clear h1 h2 h3 k0 k1 k2 k3 y0 y1 y2 y3 hx0 hx1 hx2 hx3 HB4 HK4 HS4 HD4 AC
        by_cases hae : ae = 0
        · subst hae
          go_upto_region 11 with fail
          have bn := (Below.refl w5.heap.size w5).alloc (Nat.le_refl _) (.cells #[.slice F0 ad1.ino.length g0, .slice F1 ad1.dir.length g1, .slice F2 ad1.dur.length g2, .slice F3 ad1.ops.length g3] 47)
          have B6 := Aside0.mk (below_step B5.out bn)
          have K6 := Aside0.mk (blk_below K5.out bn)
          have S6 := Aside0.mk (blk_below S5.out bn)
          have D6 := Aside0.mk (D5.out.below bn)
          have N6 := Aside0.mk (blk_new w5 (.cells #[.slice F0 ad1.ino.length g0, .slice F1 ad1.dir.length g1, .slice F2 ad1.dur.length g2, .slice F3 ad1.ops.length g3] 47))
          generalize w5.alloc (.cells #[.slice F0 ad1.ino.length g0, .slice F1 ad1.dir.length g1, .slice F2 ad1.dur.length g2, .slice F3 ad1.ops.length g3] 47) = W6 at B6 K6 S6 D6 N6 ⊢
          obtain ⟨NN, hNN⟩ : ∃ NN, NN = w5.heap.size := ⟨_, rfl⟩
          rw [← hNN] at N6 ⊢
          have hDN : D ≠ NN := by have := blk_lt K5.out; omega
          have hND : NN ≠ D := Ne.symm hDN
          clear bn hNN B5 K5 S5 D5
          have k0 := (blk_cell K6.out 0).trans rfl
          have k1 := (blk_cell K6.out 1).trans rfl
          have k2 := (blk_cell K6.out 2).trans rfl
          have k3 := (blk_cell K6.out 3).trans rfl
          have kf0 := blk_frozen K6.out 0
          have kf1 := blk_frozen K6.out 1
          have kf2 := blk_frozen K6.out 2
          have kf3 := blk_frozen K6.out 3
          have m0 := (blk_cell N6.out 0).trans rfl
          have m1 := (blk_cell N6.out 1).trans rfl
          have m2 := (blk_cell N6.out 2).trans rfl
          have m3 := (blk_cell N6.out 3).trans rfl
          go_upto_region 12 with fail
          have K7 := Aside0.mk (put47 K6.out (.slice F0 ad1.ino.length g0) (.slice F1 ad1.dir.length g1) (.slice F2 ad1.dur.length g2) (.slice F3 ad1.ops.length g3))
          have S7 := Aside0.mk (far47 S6.out hSD (.slice F0 ad1.ino.length g0) (.slice F1 ad1.dir.length g1) (.slice F2 ad1.dur.length g2) (.slice F3 ad1.ops.length g3))
          have D7 := Aside0.mk (D6.out.put47 K6.out (.slice F0 ad1.ino.length g0) (.slice F1 ad1.dir.length g1) (.slice F2 ad1.dur.length g2) (.slice F3 ad1.ops.length g3))
          have B7 := Aside0.mk (below_put47 B6.out hTD (.slice F0 ad1.ino.length g0) (.slice F1 ad1.dir.length g1) (.slice F2 ad1.dur.length g2) (.slice F3 ad1.ops.length g3))
          generalize (((W6.setCell ⟨D, 0, none⟩ (.slice F0 ad1.ino.length g0)).setCell ⟨D, 1, none⟩ (.slice F1 ad1.dir.length g1)).setCell ⟨D, 2, none⟩ (.slice F2 ad1.dur.length g2)).setCell ⟨D, 3, none⟩ (.slice F3 ad1.ops.length g3) = W7 at K7 S7 D7 B7 ⊢
          clear k0 k1 k2 k3 kf0 kf1 kf2 kf3 m0 m1 m2 m3 K6 S6 D6 B6 N6
          have V7 := Aside0.mk (show Valid ad1 from by have := Dk.valid_app hV.out y (by rw [← AP.out]); rwa [← AP.out] at this)
          have SM7 := Aside0.mk (show Sml (40000 + (i + 1)) ad1 from by have := Dk.Sml_app hS'.out y; rwa [← AP.out] at this)
          have A7 := Aside0.mk (show appAll d os = appAll ad1 (os.drop (i + 1)) from by
            rw [hdr.out]
            conv => lhs; unfold Dk.appAll
            rw [← AP.out, if_pos rfl])
          go_wp2
          go_roundg (n - i - 1)
          case measure => omega
          case rel => exact ⟨i + 1, ad1, _, _, _, _, _, _, _, _, by first | rfl | (simp; done), hlt, by omega, A7, V7, SM7, B7, K7, S7, D7⟩
        · have E2 := Aside0.mk (show res = (Dk.E0, ae) from by
            rw [E.out, hdr.out]
            conv => lhs; unfold Dk.appAll
            rw [← AP.out, if_neg hae])
          go_upto_region 10 with fail
          have bn := (Below.refl w5.heap.size w5).alloc (Nat.le_refl _) (.cells #[.slice F0 ad1.ino.length g0, .slice F1 ad1.dir.length g1, .slice F2 ad1.dur.length g2, .slice F3 ad1.ops.length g3] 47)
          have B6 := Aside0.mk (below_step B5.out bn)
          have K6 := Aside0.mk (blk_below K5.out bn)
          have S6 := Aside0.mk (blk_below S5.out bn)
          have D6 := Aside0.mk (D5.out.below bn)
          have N6 := Aside0.mk (blk_new w5 (.cells #[.slice F0 ad1.ino.length g0, .slice F1 ad1.dir.length g1, .slice F2 ad1.dur.length g2, .slice F3 ad1.ops.length g3] 47))
          generalize w5.alloc (.cells #[.slice F0 ad1.ino.length g0, .slice F1 ad1.dir.length g1, .slice F2 ad1.dur.length g2, .slice F3 ad1.ops.length g3] 47) = W6 at B6 K6 S6 D6 N6 ⊢
          obtain ⟨NN, hNN⟩ : ∃ NN, NN = w5.heap.size := ⟨_, rfl⟩
          rw [← hNN] at N6 ⊢
          have hDN : D ≠ NN := by have := blk_lt K5.out; omega
          have hND : NN ≠ D := Ne.symm hDN
          clear bn hNN B5 K5 S5 D5
          have s0 := (blk_cell S6.out 0).trans rfl
          have s1 := (blk_cell S6.out 1).trans rfl
          have s2 := (blk_cell S6.out 2).trans rfl
          have s3 := (blk_cell S6.out 3).trans rfl
          have f0 := blk_frozen S6.out 0
          have f1 := blk_frozen S6.out 1
          have f2 := blk_frozen S6.out 2
          have f3 := blk_frozen S6.out 3
          go_wp2
          refine bodyPost_ret (results_ct rfl _ _ S 47 _ (0, 0) _ rfl (put47 S6.out _ _ _ _) Try.underlying47 rfl (by kernel_rfl)) rfl ?_
          rw [E2.out]
          exact ⟨_, rfl, (DR.zero _ _).put47 S6.out _ _ _ _, below_put47 B6.out hTS _ _ _ _⟩
      · have E2 := Aside0.mk (show res = (d', 0) from by
          rw [E.out, hA.out, List.drop_of_length_le (by have := HN.out; omega)]
          rfl)
        have k0 := (blk_cell HK.out 0).trans rfl
        have k1 := (blk_cell HK.out 1).trans rfl
        have k2 := (blk_cell HK.out 2).trans rfl
        have k3 := (blk_cell HK.out 3).trans rfl
        have s0 := (blk_cell HS.out 0).trans rfl
        have s1 := (blk_cell HS.out 1).trans rfl
        have s2 := (blk_cell HS.out 2).trans rfl
        have s3 := (blk_cell HS.out 3).trans rfl
        have f0 := blk_frozen HS.out 0
        have f1 := blk_frozen HS.out 1
        have f2 := blk_frozen HS.out 2
        have f3 := blk_frozen HS.out 3
        go_wp2
        refine bodyPost_ret (results_ct rfl _ _ S 47 _ (0, 0) _ rfl (put47 HS.out _ _ _ _) Try.underlying47 rfl (by kernel_rfl)) rfl ?_
        rw [E2.out]
        exact ⟨_, rfl, HD.out.put47 HS.out _ _ _ _, below_put47 HB.out hTS _ _ _ _⟩
end Go.Proofs.Ytnaddmkaakdhoaa.J

end
section
namespace Go.Proofs.Ytnaddmkaakdhoaa.Dk
open J
def read (d : Dsk) (nm : ByteArray) : ByteArray × Int :=
  if valid d = true then (if has d.dir nm = true then ((d.ino.getD (ent d nm) z67).f0, 0) else (⟨#[]⟩, 11)) else (⟨#[]⟩, 9)
end Go.Proofs.Ytnaddmkaakdhoaa.Dk
namespace Go.Proofs.Ytnaddmkaakdhoaa.J
open Go.RowKit Go.Proofs.YtnaddmkaakdhoaaW.PrintWords Go.Proofs.YtnaddmkaakdhoaaW.PrintLast Go.Proofs.YtnaddmkaakdhoaaW.PrintMore
open Dk (Srt pos has valid app appAll applyAll Valid ent)
set_option linter.unusedVariables false
set_option linter.unusedSimpArgs false
set_option maxHeartbeats 8000000 in
set_option maxRecDepth 100000 in
theorem apply1_calls (a : Value) (d : Dsk) (o : S49) (w : World) (hd : DC w a d) (hs : Sml 40000 d) (hz : o.f3.size ≤ 140737488355328) :
    Calls Try.prog 31 #[a, .agg #[.int .i64 o.f0, .string o.f1, .string o.f2, .string o.f3]] w fun e w' => ∃ v, e = .returned (.tuple #[v, .int .i64 (applyAll d [o]).2]) ∧ DR w' w.heap.size v (applyAll d [o]).1 ∧ Below w.heap.size w w' := by
  have DD := Aside0.mk hd
  obtain ⟨A0, c0, A1, c1, A2, c2, A3, c3, rfl, ⟨r0, l0⟩, ⟨r1, l1⟩, ⟨r2, l2⟩, ⟨r3, l3⟩⟩ := hd
  have hs' := Aside0.mk hs
  obtain ⟨res, hres⟩ : ∃ res, res = applyAll d [o] := ⟨_, rfl⟩
  have AC := Aside0.mk (fun W X (hd : DC W (.agg #[.slice A0 d.ino.length c0, .slice A1 d.dir.length c1, .slice A2 d.dur.length c2, .slice A3 d.ops.length c3]) d) hr => applyAll_calls (.agg #[.slice A0 d.ino.length c0, .slice A1 d.dir.length c1, .slice A2 d.dur.length c2, .slice A3 d.ops.length c3]) d (some X) 1 [o] W hd hr (by simp) hs (by simp) (by intro x hx; obtain rfl := List.mem_singleton.1 hx; exact hz))
  rw [← hres] at AC ⊢
  obtain ⟨rd, re⟩ := res
  clear r0 r1 r2 r3 hres hs
  go_enter Try.func31, Try.ntmps31
  go_wp2_with fail
  have hB := (((Below.refl w.heap.size w).alloc (Nat.le_refl _) (.cells #[.slice A0 d.ino.length c0, .slice A1 d.dir.length c1, .slice A2 d.dur.length c2, .slice A3 d.ops.length c3] 47)).alloc (by simp) (.cells #[.int .i64 o.f0, .string o.f1, .string o.f2, .string o.f3] 49)).alloc (by simp; omega) (.cells #[.slice none 0 0, .slice none 0 0, .slice none 0 0, .slice none 0 0] 47)
  have hS := blk_new ((w.alloc (.cells #[.slice A0 d.ino.length c0, .slice A1 d.dir.length c1, .slice A2 d.dur.length c2, .slice A3 d.ops.length c3] 47)).alloc (.cells #[.int .i64 o.f0, .string o.f1, .string o.f2, .string o.f3] 49)) (.cells #[.slice none 0 0, .slice none 0 0, .slice none 0 0, .slice none 0 0] 47)
  rw [show ((w.alloc (.cells #[.slice A0 d.ino.length c0, .slice A1 d.dir.length c1, .slice A2 d.dur.length c2, .slice A3 d.ops.length c3] 47)).alloc (.cells #[.int .i64 o.f0, .string o.f1, .string o.f2, .string o.f3] 49)).heap.size = w.heap.size + 1 + 1 by simp] at hS
  have hsz : (((w.alloc (.cells #[.slice A0 d.ino.length c0, .slice A1 d.dir.length c1, .slice A2 d.dur.length c2, .slice A3 d.ops.length c3] 47)).alloc (.cells #[.int .i64 o.f0, .string o.f1, .string o.f2, .string o.f3] 49)).alloc (.cells #[.slice none 0 0, .slice none 0 0, .slice none 0 0, .slice none 0 0] 47)).heap.size = w.heap.size + 1 + 1 + 1 := by simp
  generalize ((w.alloc (.cells #[.slice A0 d.ino.length c0, .slice A1 d.dir.length c1, .slice A2 d.dur.length c2, .slice A3 d.ops.length c3] 47)).alloc (.cells #[.int .i64 o.f0, .string o.f1, .string o.f2, .string o.f3] 49)).alloc (.cells #[.slice none 0 0, .slice none 0 0, .slice none 0 0, .slice none 0 0] 47) = W0 at hB hS hsz ⊢
  have bn := (Below.refl W0.heap.size W0).alloc (Nat.le_refl _) (.cells #[.int .i64 o.f0, .string o.f1, .string o.f2, .string o.f3] 49)
  have hX := blk_new W0 (.cells #[.int .i64 o.f0, .string o.f1, .string o.f2, .string o.f3] 49)
  rw [hsz] at hX
  have hB2 := below_step hB bn
  refine (AC.out _ ⟨w.heap.size + 1 + 1 + 1, 0, none⟩ (DD.out.below hB2) (C49_one hX)).mono ?_
  rintro e w2 ⟨v, rfl, h1, h2⟩
  obtain ⟨F0, g0, F1, g1, F2, g2, F3, g3, rfl⟩ := h1.slices
  have HB := Aside0.mk (below_step hB2 h2)
  have HD := Aside0.mk (h1.lower hB2.size)
  have HS := Aside0.mk (blk_below (blk_below hS bn) h2)
  clear h1 h2 hX hB2 bn hsz hB hS AC
  obtain ⟨S, hS⟩ : ∃ S, S = w.heap.size + 1 + 1 := ⟨_, rfl⟩
  rw [← hS] at HS ⊢
  have hTS : w.heap.size ≤ S := by omega
  clear hS
  have s0 := (blk_cell HS.out 0).trans rfl
  have s1 := (blk_cell HS.out 1).trans rfl
  have s2 := (blk_cell HS.out 2).trans rfl
  have s3 := (blk_cell HS.out 3).trans rfl
  have f0 := blk_frozen HS.out 0
  have f1 := blk_frozen HS.out 1
  have f2 := blk_frozen HS.out 2
  have f3 := blk_frozen HS.out 3
  go_wp2
  refine bodyPost_ret (results_ct rfl _ _ S 47 _ (0, 0) _ rfl (put47 HS.out _ _ _ _) Try.underlying47 rfl (by kernel_rfl)) rfl ?_
  exact ⟨_, rfl, HD.out.put47 HS.out _ _ _ _, below_put47 HB.out hTS _ _ _ _⟩
set_option maxHeartbeats 8000000 in
set_option maxRecDepth 100000 in
theorem read_calls (a : Value) (d : Dsk) (nm : ByteArray) (w : World) (hd : DC w a d) (hs : Sml 100000 d) :
    Calls Try.prog 33 #[a, .string nm] w fun e w' => e = .returned (.tuple #[.string (Dk.read d nm).1, .int .i64 (Dk.read d nm).2]) ∧ Below w.heap.size w w' := by
  have DD := Aside0.mk hd
  obtain ⟨A0, c0, A1, c1, A2, c2, A3, c3, rfl, ⟨r0, l0⟩, ⟨r1, l1⟩, ⟨r2, l2⟩, ⟨r3, l3⟩⟩ := hd
  have R0 := Aside0.mk r0
  have R1 := Aside0.mk r1
  obtain ⟨res, hres⟩ : ∃ res, res = Dk.read d nm := ⟨_, rfl⟩
  rw [← hres]
  have RES := Aside0.mk hres
  obtain ⟨b, hb⟩ : ∃ b, b = valid d := ⟨_, rfl⟩
  have VC := Aside0.mk (fun w' hd' => validate_calls (.agg #[.slice A0 d.ino.length c0, .slice A1 d.dir.length c1, .slice A2 d.dur.length c2, .slice A3 d.ops.length c3]) d w' hd' hs)
  rw [← hb] at VC
  have VB := Aside0.mk hb
  clear hres hb r0 r1 r2 r3
  go_enter Try.func33, Try.ntmps33
  go_wp2_with fail
  have hB := (Below.refl w.heap.size w).alloc (Nat.le_refl _) (.cells #[.slice A0 d.ino.length c0, .slice A1 d.dir.length c1, .slice A2 d.dur.length c2, .slice A3 d.ops.length c3] 47)
  have hK := blk_new w (.cells #[.slice A0 d.ino.length c0, .slice A1 d.dir.length c1, .slice A2 d.dur.length c2, .slice A3 d.ops.length c3] 47)
  generalize w.alloc (.cells #[.slice A0 d.ino.length c0, .slice A1 d.dir.length c1, .slice A2 d.dur.length c2, .slice A3 d.ops.length c3] 47) = W0 at hB hK ⊢
  refine (VC.out W0 (DD.out.below hB)).mono ?_
  rintro e w1 ⟨rfl, hb1⟩
  have HB := Aside0.mk (below_step hB hb1)
  have HK := Aside0.mk (blk_below hK hb1)
  clear hB hK hb1 VC
  obtain ⟨D, hD⟩ : ∃ D, D = w.heap.size := ⟨_, rfl⟩
  rw [← hD] at HK ⊢
  clear hD
  cases b with
  | false =>
    have E := Aside0.mk (show res = (⟨#[]⟩, 9) from by rw [RES.out]; unfold Dk.read; rw [← VB.out]; rfl)
    go_wp2
    go_ret2
    rw [E.out]
    exact ⟨rfl, HB.out⟩
  | true =>
    have V := Aside0.mk (Dk.valid_of.1 VB.out.symm)
    have HS := Aside0.mk V.out.dir.2.1
    obtain ⟨bh, hbh⟩ : ∃ bh, bh = has d.dir nm := ⟨_, rfl⟩
    obtain ⟨p, hp⟩ : ∃ p, p = pos d.dir nm := ⟨_, rfl⟩
    have FC := Aside0.mk (fun w' hC => find_calls A1 c1 d.dir nm HS.out w' hC l1)
    rw [← hbh, ← hp] at FC
    have BH := Aside0.mk hbh
    have PP := Aside0.mk hp
    clear hbh hp
    have d1 : w1.cell? ⟨D, 1, none⟩ = some (.slice A1 d.dir.length c1) := (blk_cell HK.out 1).trans rfl
    go_wp2_with fail
    refine (FC.out w1 (Kd.C_below R1.out HB.out)).mono ?_
    rintro e w2 ⟨rfl, hb2⟩
    have HB2 := Aside0.mk (below_step HB.out hb2)
    have HK2 := Aside0.mk (blk_below HK.out hb2)
    clear hb2 d1 HB HK FC
    cases bh with
    | false =>
      have E := Aside0.mk (show res = (⟨#[]⟩, 11) from by rw [RES.out]; unfold Dk.read; rw [← VB.out, ← BH.out]; rfl)
      go_wp2
      go_ret2
      rw [E.out]
      exact ⟨rfl, HB2.out⟩
    | true =>
      have hpl : p < d.dir.length := by
        have := Dk.has_pos HS.out nm
        rw [← BH.out, ← PP.out] at this
        simp at this
        exact this.1
      obtain ⟨ad, ea, hx0, hx1⟩ := at_T69 R1.out (p : Int) (by omega) (by omega)
      subst ea
      obtain ⟨y, hy⟩ : ∃ y, y = rd_T69 d.dir (p : Int) := ⟨_, rfl⟩
      rw [← hy] at hx0 hx1
      have hyg : d.dir.getD p z69 = y := by rw [hy]; rfl
      obtain ⟨_, hy0, hy1⟩ := V.out.dir.1 y (by rw [← hyg, Dk.getD_eq hpl]; exact List.getElem_mem hpl)
      obtain ⟨j, hj⟩ : ∃ j : Nat, y.f1 = (j : Int) := ⟨y.f1.toNat, (Int.toNat_of_nonneg hy0).symm⟩
      have hjn : j < d.ino.length := by omega
      have EJ := Aside0.mk (show ent d nm = j from by unfold Dk.ent; rw [← PP.out, hyg, hj]; rfl)
      rw [hj] at hx1
      obtain ⟨ai, ei, x0, x1⟩ := at_T67 R0.out (j : Int) (by omega) (by omega)
      subst ei
      obtain ⟨x, hx⟩ : ∃ x, x = rd_T67 d.ino (j : Int) := ⟨_, rfl⟩
      rw [← hx] at x0 x1
      have E := Aside0.mk (show res = (x.f0, 0) from by rw [RES.out]; unfold Dk.read; rw [← VB.out, ← BH.out, EJ.out, hx]; rfl)
      replace hx1 : w2.cell? ⟨(ad.add (p * 2)).block, (ad.add (p * 2)).off + 1, none⟩ = some (.int .i64 (j : Nat)) := (HB2.out.cell (World.block_lt_of_cell? w _ hx1)).trans hx1
      replace x0 : w2.cell? (ai.add (j * 2)) = some (.string x.f0) := (HB2.out.cell (World.block_lt_of_cell? w _ x0)).trans x0
      have d0 : w2.cell? ⟨D, 0, none⟩ = some (.slice (some ai) d.ino.length c0) := (blk_cell HK2.out 0).trans rfl
      have d1 : w2.cell? ⟨D, 1, none⟩ = some (.slice (some ad) d.dir.length c1) := (blk_cell HK2.out 1).trans rfl
      have hp0 : (0 : Int) ≤ (p : Int) := by omega
      have hp1 : (p : Int) < (d.dir.length : Int) := by omega
      have hj0 : (0 : Int) ≤ (j : Int) := by omega
      have hj1 : (j : Int) < (d.ino.length : Int) := by omega
      clear hx0 x1 hx hy hyg hy0 hy1 hj
      go_wp2_with fail
      go_quiet (fail)
      go_wp2
      go_ret2
      rw [E.out]
      exact ⟨rfl, pw_below_drewN HB2.out _⟩
end Go.Proofs.Ytnaddmkaakdhoaa.J

end
