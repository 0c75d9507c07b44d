/-
  Texts of this claim, joined, without what the claim does not use: XL17
-/
import Derived.Test.YtnaddmkaakdhoaaSDEj
section
namespace Go.Proofs.Ytnaddmkaakdhoaa.Dk
open J
theorem list_ok {d : Dsk} (h : Valid d) : list d = d.dir.map (·.f0) := by unfold list; rw [if_pos (valid_of.2 h)]
theorem read_ok {d : Dsk} (h : Valid d) (s : ByteArray) : (has d.dir s = true → (read d s).2 = 0) ∧ (has d.dir s ≠ true → (read d s).2 = 11) := by
  unfold read
  rw [if_pos (valid_of.2 h)]
  constructor
  · intro h2; rw [if_pos h2]
  · intro h2; rw [if_neg h2]
def seen (l : List ByteArray) (i : Nat) (s : ByteArray) : Bool := (l.take i).any (fun x => decide (x = s))
theorem seen_zero (l : List ByteArray) (s : ByteArray) : seen l 0 s = false := rfl
theorem seen_succ {l : List ByteArray} {i : Nat} (h : i < l.length) (s : ByteArray) : seen l (i + 1) s = (seen l i s || decide (l[i] = s)) := by
  unfold seen
  rw [List.take_succ_eq_append_getElem h, List.any_append]
  simp
theorem seen_all {d : Dsk} (h : Valid d) (s : ByteArray) {n : Nat} (hn : (list d).length ≤ n) : seen (list d) n s = has d.dir s := by
  unfold seen
  rw [List.take_of_length_le hn, list_ok h, List.any_map]
  rw [Bool.eq_iff_iff, has_iff]
  simp
theorem list_lt {d : Dsk} (h : Valid d) {i : Nat} (hi : i + 1 < (list d).length) : nk ((list d)[i]'(by omega)) < nk ((list d)[i + 1]) := by
  have e := list_ok h
  have hl : (list d).length = d.dir.length := by rw [e, List.length_map]
  have e1 : ∀ (j : Nat) (hj : j < (list d).length), (list d)[j] = (d.dir.getD j z69).f0 := fun j hj => by
    have hj' : j < d.dir.length := by omega
    rw [getD_eq hj']
    simp only [e, List.getElem_map]
  rw [e1, e1]
  exact h.dir.2.1.lt (by omega) (by omega)
theorem list_has {d : Dsk} (h : Valid d) {i : Nat} (hi : i < (list d).length) : has d.dir (list d)[i] = true := by
  rw [has_iff]
  have h2 : ∀ y ∈ list d, ∃ x ∈ d.dir, x.f0 = y := fun y hy => by
    rw [list_ok h, List.mem_map] at hy
    obtain ⟨x, hx, e⟩ := hy
    exact ⟨x, hx, e⟩
  exact h2 _ (List.getElem_mem hi)
end Go.Proofs.Ytnaddmkaakdhoaa.Dk
namespace Go.Proofs.Ytnaddmkaakdhoaa.J
open Go.RowKit Go.Proofs.YtnaddmkaakdhoaaW.PrintWords Go.Proofs.YtnaddmkaakdhoaaW.PrintLast Go.Proofs.YtnaddmkaakdhoaaW.PrintMore
open Dk (Srt pos has valid app appAll applyAll Valid ent nk)
set_option linter.unusedVariables false
set_option linter.unusedSimpArgs false
theorem at_str {w : World} {A : Option Addr} {n : Nat} {xs : List ByteArray} (h : Kd.C Kd.string w A n xs) (i : Nat) (hi : i < xs.length) : ∃ ad, A = some ad ∧ w.cell? (ad.add i) = some (.string xs[i]) := by
  obtain ⟨ad, e, hc⟩ := h.2.2 (by have := h.1; omega)
  obtain ⟨c, hl, hp, hcell⟩ := hc i _ (List.getElem?_eq_getElem hi)
  refine ⟨ad, e, ?_⟩
  have hp2 : c = [.string xs[i]] := hp
  subst hp2
  have := hcell 0 _ rfl
  rwa [show Kd.string.sz = 1 from rfl, Nat.mul_one, Nat.add_zero] at this
set_option maxHeartbeats 8000000 in
set_option maxRecDepth 100000 in
theorem diskNames_calls (A0 : Option Addr) (c0 : Nat) (l0 : List Int) (pb : ByteArray) (w : World) (hr0 : Kd.C (Kd.int .i64) w A0 l0.length l0) (hc0 : l0.length ≤ c0) :
    Calls Try.prog 17 #[.slice A0 l0.length c0, .string pb] w fun e w' => e = .returned (.bool true) ∧ Below w.heap.size w w' := by
  by_cases hpb : (50 : Int) < (pb.size : Int)
  · go_enter Try.func17, Try.ntmps17
    go_wp2
    go_ret
    exact ⟨rfl, Below.refl _ _⟩
  obtain ⟨m, hm, hml⟩ := new_f l0
  go_enter Try.func17, Try.ntmps17
  go_wp2_with fail
  refine (corporamade_New.calls A0 c0 l0 m 0 w w (Below.refl _ _) hr0 hc0 hm).mono ?_
  rintro e w1 ⟨g, rfl, h1, h2, _⟩
  have HT1 := Aside0.mk (show Tp w w1 g from ⟨m, 0, h1, hml, Int.le_refl _⟩)
  have HB1 := Aside0.mk h2
  clear h1 h2 hm hml hr0 hc0
  go_wp2_with fail
  refine (build45_calls g 12 w w1 HT1.out HB1.out (by omega) (by omega)).mono ?_
  rintro e w2 ⟨v, d, rfl, h1, h2, h3, h4, h5, h6⟩
  have HD2 := Aside0.mk h1
  have HV := Aside0.mk h2
  have HS := Aside0.mk h3
  have HB2 := Aside0.mk h5
  clear h1 h2 h3 h4 h5 h6 HT1 HB1
  obtain ⟨F0, g0, F1, g1, F2, g2, F3, g3, rfl, -⟩ := id HD2.out
  go_upto_region 4 with fail
  obtain ⟨oD, hoD⟩ : ∃ o : Obj, o = .cells #[.slice F0 d.ino.length g0, .slice F1 d.dir.length g1, .slice F2 d.dur.length g2, .slice F3 d.ops.length g3] 47 := ⟨_, rfl⟩
  rw [← hoD]
  obtain ⟨D, hD⟩ : ∃ D, D = w2.heap.size := ⟨_, rfl⟩
  have b1 := below_alloc (Below.refl w2.heap.size w2) oD
  have KD := Aside0.mk (blk_new w2 oD)
  rw [← hD] at KD ⊢
  have HD3 := Aside0.mk (HD2.out.below b1)
  have HB3 := Aside0.mk (below_step HB2.out b1)
  generalize w2.alloc oD = w3 at KD HD3 HB3 ⊢
  subst hoD
  clear b1 hD HD2 HB2
  have d0 := (blk_cell KD.out 0).trans rfl
  have d1 := (blk_cell KD.out 1).trans rfl
  have d2 := (blk_cell KD.out 2).trans rfl
  have d3 := (blk_cell KD.out 3).trans rfl
  go_wp2_with fail
  refine (list39_calls _ d w3 HD3.out (HS.out.mono (by omega))).mono ?_
  rintro e w4 ⟨v, rfl, h1, h2⟩
  obtain ⟨L, cL, rfl, lL, rL⟩ := Kd.R_reads h1
  have HL := Aside0.mk rL
  have HB4 := Aside0.mk (below_step HB3.out h2)
  have HD4 := Aside0.mk (HD3.out.below h2)
  have K4 := Aside0.mk (blk_below KD.out h2)
  clear h1 h2 rL KD HD3 HB3 d0 d1 d2 d3
  obtain ⟨l, hl⟩ : ∃ l, l = Dk.list d := ⟨_, rfl⟩
  obtain ⟨n, hn⟩ : ∃ n, n = l.length := ⟨_, rfl⟩
  rw [← hl] at HL lL ⊢
  rw [← hn] at lL HL ⊢
  have LL := Aside0.mk hl
  have HN := Aside0.mk hn
  have hnn : n ≤ 1000 := by
    have := HS.out.2.1
    rw [hn, hl, Dk.list_ok HV.out, List.length_map]; omega
  have RD := Aside0.mk (fun s W h => read_calls (.agg #[.slice F0 d.ino.length g0, .slice F1 d.dir.length g1, .slice F2 d.dur.length g2, .slice F3 d.ops.length g3]) d s W h (HS.out.mono (by omega)))
  clear hl hn
  go_wp2_with fail
  go_loopg [7, 24] n (fun kx s7 s24 wr => ∃ i : Nat, s24 = .int .i64 i ∧ s7 = .bool (Dk.seen l i pb) ∧ i ≤ n ∧ n - i ≤ kx ∧ Aside0 (Below w4.heap.size w4 wr))
  case atStart => exact ⟨0, rfl, by rw [Dk.seen_zero], Nat.zero_le _, by omega, ⟨Below.refl _ _⟩⟩
  case round =>
    obtain ⟨i, rfl, rfl, hi, hk, HR⟩ := hrel
    have d0 : wr.cell? ⟨D, 0, none⟩ = some (.slice F0 d.ino.length g0) := (blk_cell (blk_below K4.out HR.out) 0).trans rfl
    have d1 : wr.cell? ⟨D, 1, none⟩ = some (.slice F1 d.dir.length g1) := (blk_cell (blk_below K4.out HR.out) 1).trans rfl
    have d2 : wr.cell? ⟨D, 2, none⟩ = some (.slice F2 d.dur.length g2) := (blk_cell (blk_below K4.out HR.out) 2).trans rfl
    have d3 : wr.cell? ⟨D, 3, none⟩ = some (.slice F3 d.ops.length g3) := (blk_cell (blk_below K4.out HR.out) 3).trans rfl
    by_cases hlt : i < n
    · have hil : i < l.length := by have := HN.out; omega
      obtain ⟨ad, ea, hx⟩ := at_str (Kd.C_below HL.out HR.out) i hil
      subst ea
      obtain ⟨x, hxe⟩ : ∃ x, x = l[i] := ⟨_, rfl⟩
      rw [← hxe] at hx
      have XE := Aside0.mk hxe
      have R0 := Aside0.mk (show (Dk.read d x).2 = 0 from (Dk.read_ok HV.out x).1 (by
        have hl2 := LL.out
        subst hl2
        rw [hxe]
        exact Dk.list_has HV.out hil))
      have SS := Aside0.mk (show Dk.seen l (i + 1) pb = (Dk.seen l i pb || decide (x = pb)) from by rw [Dk.seen_succ hil, ← hxe])
      clear hxe
      obtain ⟨sn, hsn⟩ : ∃ sn, sn = Dk.seen l i pb := ⟨_, rfl⟩
      rw [← hsn] at SS ⊢
      clear hsn
      by_cases hpos : 0 < i
      · obtain ⟨ad', ea, hx'⟩ := at_str (Kd.C_below HL.out HR.out) (i - 1) (by omega)
        cases ea
        obtain ⟨y, hye⟩ : ∃ y, y = l[i - 1] := ⟨_, rfl⟩
        rw [← hye] at hx'
        have hlt2 : Dk.nk y < Dk.nk x := by
          have hl2 := LL.out
          subst hl2
          have := Dk.list_lt HV.out (i := i - 1) (by omega)
          rw [hye, XE.out]
          simpa only [show i - 1 + 1 = i by omega] using this
        have hbl : Op.bytesLess y.toList x.toList = true := by rw [bl_eq]; exact decide_eq_true hlt2
        have hk0 : (0 : Int) ≤ (i : Int) - 1 := by omega
        have hkl : (i : Int) - 1 < (n : Int) := by omega
        have hg0 : decide ((0 : Int) < (i : Int)) = true := decide_eq_true (by omega)
        clear hye hlt2
        cases sn with
        | true =>
          have HQ := Aside0.mk trivial
          go_wp2_with fail
          refine (RD.out x wr (HD4.out.below HR.out)).mono ?_
          rintro e w5 ⟨rfl, h2⟩
          have HR5 := Aside0.mk (below_step HR.out h2)
          rw [R0.out]
          clear h2 d0 d1 d2 d3 hx HR
          go_wp2
          go_roundg (n - i - 1)
          case measure => omega
          case rel => exact ⟨i + 1, by first | rfl | (simp; done), by rw [SS.out]; first | rfl | (simp [HQ.out]; done) | (simp [hxp, HQ.out]; done), hlt, by omega, HR5⟩
        | false =>
          by_cases hxp : x = pb
          · subst hxp
            have HQ := Aside0.mk trivial
            go_wp2_with fail
            refine (RD.out x wr (HD4.out.below HR.out)).mono ?_
            rintro e w5 ⟨rfl, h2⟩
            have HR5 := Aside0.mk (below_step HR.out h2)
            rw [R0.out]
            clear h2 d0 d1 d2 d3 hx HR
            go_wp2
            go_roundg (n - i - 1)
            case measure => omega
            case rel => exact ⟨i + 1, by first | rfl | (simp; done), by rw [SS.out]; first | rfl | (simp [HQ.out]; done) | (simp [hxp, HQ.out]; done), hlt, by omega, HR5⟩
          · have HQ := Aside0.mk (show ¬ x.toList = pb.toList from fun h => hxp (Dk.nk_inj (by rw [Lib.toList_data, Lib.toList_data] at h; exact h)))
            go_wp2_with fail
            refine (RD.out x wr (HD4.out.below HR.out)).mono ?_
            rintro e w5 ⟨rfl, h2⟩
            have HR5 := Aside0.mk (below_step HR.out h2)
            rw [R0.out]
            clear h2 d0 d1 d2 d3 hx HR
            go_wp2
            go_roundg (n - i - 1)
            case measure => omega
            case rel => exact ⟨i + 1, by first | rfl | (simp; done), by rw [SS.out]; first | rfl | (simp [HQ.out]; done) | (simp [hxp, HQ.out]; done), hlt, by omega, HR5⟩
      · have hg0 : decide ((0 : Int) < (i : Int)) = false := decide_eq_false (by omega)
        cases sn with
        | true =>
          have HQ := Aside0.mk trivial
          go_wp2_with fail
          refine (RD.out x wr (HD4.out.below HR.out)).mono ?_
          rintro e w5 ⟨rfl, h2⟩
          have HR5 := Aside0.mk (below_step HR.out h2)
          rw [R0.out]
          clear h2 d0 d1 d2 d3 hx HR
          go_wp2
          go_roundg (n - i - 1)
          case measure => omega
          case rel => exact ⟨i + 1, by first | rfl | (simp; done), by rw [SS.out]; first | rfl | (simp [HQ.out]; done) | (simp [hxp, HQ.out]; done), hlt, by omega, HR5⟩
        | false =>
          by_cases hxp : x = pb
          · subst hxp
            have HQ := Aside0.mk trivial
            go_wp2_with fail
            refine (RD.out x wr (HD4.out.below HR.out)).mono ?_
            rintro e w5 ⟨rfl, h2⟩
            have HR5 := Aside0.mk (below_step HR.out h2)
            rw [R0.out]
            clear h2 d0 d1 d2 d3 hx HR
            go_wp2
            go_roundg (n - i - 1)
            case measure => omega
            case rel => exact ⟨i + 1, by first | rfl | (simp; done), by rw [SS.out]; first | rfl | (simp [HQ.out]; done) | (simp [hxp, HQ.out]; done), hlt, by omega, HR5⟩
          · have HQ := Aside0.mk (show ¬ x.toList = pb.toList from fun h => hxp (Dk.nk_inj (by rw [Lib.toList_data, Lib.toList_data] at h; exact h)))
            go_wp2_with fail
            refine (RD.out x wr (HD4.out.below HR.out)).mono ?_
            rintro e w5 ⟨rfl, h2⟩
            have HR5 := Aside0.mk (below_step HR.out h2)
            rw [R0.out]
            clear h2 d0 d1 d2 d3 hx HR
            go_wp2
            go_roundg (n - i - 1)
            case measure => omega
            case rel => exact ⟨i + 1, by first | rfl | (simp; done), by rw [SS.out]; first | rfl | (simp [HQ.out]; done) | (simp [hxp, HQ.out]; done), hlt, by omega, HR5⟩
    · have SA := Aside0.mk (Dk.seen_all HV.out pb (n := i) (by have := HN.out; have := LL.out; subst this; omega))
      rw [← LL.out] at SA
      have R1 := Aside0.mk (Dk.read_ok HV.out pb)
      have B9 := Aside0.mk (below_step HB4.out HR.out)
      obtain ⟨re, hre⟩ : ∃ re, re = (Dk.read d pb).2 := ⟨_, rfl⟩
      have RP := Aside0.mk (fun W h => RD.out pb W h)
      rw [← hre] at RP R1
      clear hre
      rw [SA.out]
      obtain ⟨hs, hhs⟩ : ∃ hs, hs = has d.dir pb := ⟨_, rfl⟩
      rw [← hhs] at R1 ⊢
      clear hhs
      cases hs with
      | true =>
        have h0 : re = 0 := R1.out.1 rfl
        subst h0
        go_wp2_with fail
        refine (RP.out wr (HD4.out.below HR.out)).mono ?_
        rintro e w5 ⟨rfl, h2⟩
        have HR5 := Aside0.mk (below_step B9.out h2)
        clear h2 d0 d1 d2 d3 HR B9
        go_wp2_with fail
        refine (known43_calls w5).mono ?_
        rintro e w6 ⟨rfl, h2⟩
        have B6 := Aside0.mk (below_step HR5.out h2)
        clear h2 HR5
        go_wp2
        go_ret
        exact ⟨rfl, B6.out⟩
      | false =>
        have h0 : re = 11 := R1.out.2 (by simp)
        subst h0
        go_wp2_with fail
        refine (RP.out wr (HD4.out.below HR.out)).mono ?_
        rintro e w5 ⟨rfl, h2⟩
        have HR5 := Aside0.mk (below_step B9.out h2)
        clear h2 d0 d1 d2 d3 HR B9
        go_wp2_with fail
        refine (known43_calls w5).mono ?_
        rintro e w6 ⟨rfl, h2⟩
        have B6 := Aside0.mk (below_step HR5.out h2)
        clear h2 HR5
        go_wp2
        go_ret
        exact ⟨rfl, B6.out⟩
end Go.Proofs.Ytnaddmkaakdhoaa.J

end
