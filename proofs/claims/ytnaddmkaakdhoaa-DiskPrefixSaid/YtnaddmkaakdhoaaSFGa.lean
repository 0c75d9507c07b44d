/-
  Texts of this claim, joined, without what the claim does not use: XL17 XL16
-/
import Derived.Test.YtnaddmkaakdhoaaSDEj
section
namespace Go.Proofs.Ytnaddmkaakdhoaa.Dk
open J
theorem list_ok {d : Dsk} (h : Valid d) : list d = d.dir.map (·.f0) := by unfold list; rw [if_pos (valid_of.2 h)]
theorem list_has {d : Dsk} (h : Valid d) {i : Nat} (hi : i < (list d).length) : has d.dir (list d)[i] = true := by
  rw [has_iff]
  have h2 : ∀ y ∈ list d, ∃ x ∈ d.dir, x.f0 = y := fun y hy => by
    rw [list_ok h, List.mem_map] at hy
    obtain ⟨x, hx, e⟩ := hy
    exact ⟨x, hx, e⟩
  exact h2 _ (List.getElem_mem hi)
end Go.Proofs.Ytnaddmkaakdhoaa.Dk
namespace Go.Proofs.Ytnaddmkaakdhoaa.J
open Go.RowKit Go.Proofs.YtnaddmkaakdhoaaW.PrintWords Go.Proofs.YtnaddmkaakdhoaaW.PrintLast Go.Proofs.YtnaddmkaakdhoaaW.PrintMore
open Dk (Srt pos has valid app appAll applyAll Valid ent nk)
set_option linter.unusedVariables false
set_option linter.unusedSimpArgs false
theorem at_str {w : World} {A : Option Addr} {n : Nat} {xs : List ByteArray} (h : Kd.C Kd.string w A n xs) (i : Nat) (hi : i < xs.length) : ∃ ad, A = some ad ∧ w.cell? (ad.add i) = some (.string xs[i]) := by
  obtain ⟨ad, e, hc⟩ := h.2.2 (by have := h.1; omega)
  obtain ⟨c, hl, hp, hcell⟩ := hc i _ (List.getElem?_eq_getElem hi)
  refine ⟨ad, e, ?_⟩
  have hp2 : c = [.string xs[i]] := hp
  subst hp2
  have := hcell 0 _ rfl
  rwa [show Kd.string.sz = 1 from rfl, Nat.mul_one, Nat.add_zero] at this
end Go.Proofs.Ytnaddmkaakdhoaa.J

end
section
namespace Go.Proofs.Ytnaddmkaakdhoaa.Dk
open J
def okp (s : ByteArray) (x : S67) : Bool := decide (x.f1.toNat ≤ s.size) && decide (s.size ≤ x.f0.size) && decide ((s.extract 0 x.f1.toNat).toList = (x.f0.extract 0 x.f1.toNat).toList)
theorem okp_torn (cs : List Int) (j : Nat) {x : S67} (h : inoOK x) : okp (torn cs j x).f0 x = true := by
  have h0 := h.1
  have h1 := torn_size cs j x h.2.1
  have h2 := kp_le cs j x h.2.1
  have h3 := zr_le cs j x
  have e : (torn cs j x).f0 = x.f0.extract 0 (x.f1.toNat + kp cs j x - zr cs j x) ++ zeros (zr cs j x) := rfl
  have hx : ((torn cs j x).f0.extract 0 x.f1.toNat) = x.f0.extract 0 x.f1.toNat := by
    rw [e]
    apply ByteArray.ext
    apply Array.ext'
    simp only [ByteArray.data_extract, ByteArray.data_append, Array.toList_extract, Array.toList_append, List.extract_eq_take_drop, List.drop_zero]
    have hs : x.f0.data.toList.length = x.f0.size := by rw [Array.length_toList]; rfl
    rw [List.take_append_of_le_length (by rw [List.length_take, hs]; omega), List.take_take]
    congr 1
    omega
  unfold okp
  rw [hx, h1]
  simp
  omega
theorem read_crash {d : Dsk} (h : Valid d) (cs : List Int) {s : ByteArray} (hh : has (crash d cs).dir s = true) : ∃ (j : Nat) (x : S67), x ∈ d.ino ∧ read (crash d cs) s = ((torn cs j x).f0, 0) := by
  have hv := valid_crash h cs
  have he := ent_lt hv.dir hh
  have hm := List.getElem_mem he
  obtain ⟨l', e, _⟩ := crash_eq h cs
  have hm2 : (crash d cs).ino[ent (crash d cs) s] ∈ d.ino.mapIdx (torn cs) := by
    have : ∀ y ∈ (crash d cs).ino, y ∈ d.ino.mapIdx (torn cs) := fun y hy => by
      rw [e] at hy
      exact keptTo_mem (Nat.le_refl _) hy
    exact this _ hm
  rw [List.mem_mapIdx] at hm2
  obtain ⟨i, hi, e2⟩ := hm2
  refine ⟨i, d.ino[i], List.getElem_mem hi, ?_⟩
  unfold read
  rw [if_pos (valid_of.2 hv), if_pos hh, getD67 he, e2]
theorem found_crash {d : Dsk} (h : Valid d) (cs : List Int) {s : ByteArray} (hh : has (crash d cs).dir s = true) : (read (crash d cs) s).2 = 0 ∧ d.ino.any (okp (read (crash d cs) s).1) = true := by
  obtain ⟨j, x, hx, e⟩ := read_crash h cs hh
  rw [e]
  exact ⟨rfl, List.any_eq_true.2 ⟨x, hx, okp_torn cs j (h.ino x hx)⟩⟩
theorem any_succ {l : List S67} {i : Nat} (h : i < l.length) (p : S67 → Bool) : (l.take (i + 1)).any p = ((l.take i).any p || p l[i]) := by
  rw [List.take_succ_eq_append_getElem h, List.any_append]
  simp
end Go.Proofs.Ytnaddmkaakdhoaa.Dk
namespace Go.Proofs.Ytnaddmkaakdhoaa.J
open Go.RowKit Go.Proofs.YtnaddmkaakdhoaaW.PrintWords Go.Proofs.YtnaddmkaakdhoaaW.PrintLast Go.Proofs.YtnaddmkaakdhoaaW.PrintMore
open Dk (Srt pos has valid app appAll applyAll Valid ent)
set_option linter.unusedVariables false
set_option linter.unusedSimpArgs false
set_option maxHeartbeats 8000000 in
set_option maxRecDepth 100000 in
theorem diskPrefix_calls (A0 : Option Addr) (c0 : Nat) (l0 : List Int) (A1 : Option Addr) (c1 : Nat) (l1 : List Int) (w : World) (hr0 : Kd.C (Kd.int .i64) w A0 l0.length l0) (hc0 : l0.length ≤ c0) (hr1 : Kd.C (Kd.int .i64) w A1 l1.length l1) (hc1 : l1.length ≤ c1) :
    Calls Try.prog 16 #[.slice A0 l0.length c0, .slice A1 l1.length c1] w fun e w' => e = .returned (.bool true) ∧ Below w.heap.size w w' := by
  obtain ⟨m, hm, hml⟩ := new_f l0
  have R1 := Aside0.mk hr1
  go_enter Try.func16, Try.ntmps16
  go_wp2_with fail
  refine (corporamade_New.calls A0 c0 l0 m 0 w w (Below.refl _ _) hr0 hc0 hm).mono ?_
  rintro e w1 ⟨g, rfl, h1, h2, _⟩
  have HT1 := Aside0.mk (show Tp w w1 g from ⟨m, 0, h1, hml, Int.le_refl _⟩)
  have HB1 := Aside0.mk h2
  clear h1 h2 hm hml hr0 hc0 hr1
  go_wp2_with fail
  refine (build45_calls g 14 w w1 HT1.out HB1.out (by omega) (by omega)).mono ?_
  rintro e w2 ⟨v, d, rfl, h1, h2, h3, h4, h5, h6⟩
  have CD := Aside0.mk h1
  have HV := Aside0.mk h2
  have HS := Aside0.mk h3
  have HB := Aside0.mk h5
  clear h1 h2 h3 h4 h5 h6 HT1 HB1
  obtain ⟨F0, f0, F1, f1, F2, f2, F3, f3, rfl, -⟩ := id CD.out
  go_upto_region 2 with fail
  obtain ⟨ob1, hob1⟩ : ∃ q : Obj, q = .cells #[.slice F0 d.ino.length f0, .slice F1 d.dir.length f1, .slice F2 d.dur.length f2, .slice F3 d.ops.length f3] 47 := ⟨_, rfl⟩
  rw [← hob1]
  obtain ⟨X, hX⟩ : ∃ q, q = w2.heap.size := ⟨_, rfl⟩
  have bb := below_alloc (Below.refl w2.heap.size w2) ob1
  have kk := blk_new w2 ob1
  rw [← hX] at kk ⊢
  have HB_ := Aside0.mk (below_step HB.out bb)
  have CD_ := Aside0.mk (CD.out.below bb)
  clear HB
  have HB := HB_
  clear HB_
  clear CD
  have CD := CD_
  clear CD_
  have KX := Aside0.mk kk
  clear bb kk
  generalize w2.alloc ob1 = wa1 at HB CD KX ⊢
  subst hob1
  clear hX
  have x0 := (blk_cell KX.out 0).trans rfl
  have x1 := (blk_cell KX.out 1).trans rfl
  have x2 := (blk_cell KX.out 2).trans rfl
  have x3 := (blk_cell KX.out 3).trans rfl
  go_wp2_with fail
  refine (crash_calls _ d A1 c1 l1 wa1 CD.out (Kd.C_below R1.out HB.out) hc1 (HS.out.mono (by omega))).mono ?_
  rintro e w5 ⟨v5, rfl, h1, h2⟩
  have C5 := Aside0.mk h1.reads
  clear h1 x0 x1 x2 x3
  have V5 := Aside0.mk (Dk.valid_crash HV.out l1)
  have M5 := Aside0.mk (Dk.crash_sml HV.out l1 HS.out)
  have F5 := Aside0.mk (fun s h => Dk.found_crash HV.out l1 (s := s) h)
  obtain ⟨dc, hdc⟩ : ∃ dc, dc = Dk.crash d l1 := ⟨_, rfl⟩
  rw [← hdc] at C5 V5 M5 F5
  clear hdc
  obtain ⟨H0, g0, H1, g1, H2, g2, H3, g3, rfl, -⟩ := id C5.out
  have HB_ := Aside0.mk (below_step HB.out h2)
  have CD_ := Aside0.mk (CD.out.below h2)
  have KX_ := Aside0.mk (blk_below KX.out h2)
  clear HB
  have HB := HB_
  clear HB_
  clear CD
  have CD := CD_
  clear CD_
  clear KX
  have KX := KX_
  clear KX_
  clear h2
  go_upto_region 3 with fail
  obtain ⟨ob2, hob2⟩ : ∃ q : Obj, q = .cells #[.slice H0 dc.ino.length g0, .slice H1 dc.dir.length g1, .slice H2 dc.dur.length g2, .slice H3 dc.ops.length g3] 47 := ⟨_, rfl⟩
  rw [← hob2]
  obtain ⟨Y, hY⟩ : ∃ q, q = w5.heap.size := ⟨_, rfl⟩
  have bb := below_alloc (Below.refl w5.heap.size w5) ob2
  have kk := blk_new w5 ob2
  rw [← hY] at kk ⊢
  have HB_ := Aside0.mk (below_step HB.out bb)
  have CD_ := Aside0.mk (CD.out.below bb)
  have KX_ := Aside0.mk (blk_below KX.out bb)
  have C5_ := Aside0.mk (C5.out.below bb)
  clear HB
  have HB := HB_
  clear HB_
  clear CD
  have CD := CD_
  clear CD_
  clear KX
  have KX := KX_
  clear KX_
  clear C5
  have C5 := C5_
  clear C5_
  have KY := Aside0.mk kk
  clear bb kk
  generalize w5.alloc ob2 = wa2 at HB CD KX C5 KY ⊢
  subst hob2
  clear hY
  have y0 := (blk_cell KY.out 0).trans rfl
  have y1 := (blk_cell KY.out 1).trans rfl
  have y2 := (blk_cell KY.out 2).trans rfl
  have y3 := (blk_cell KY.out 3).trans rfl
  go_wp2_with fail
  refine (list39_calls _ dc wa2 C5.out (M5.out.mono (by omega))).mono ?_
  rintro e w6 ⟨v, rfl, h1, h2⟩
  obtain ⟨L, cL, rfl, lL, rL⟩ := Kd.R_reads h1
  have HL := Aside0.mk rL
  clear h1 rL y0 y1 y2 y3
  have HB_ := Aside0.mk (below_step HB.out h2)
  have CD_ := Aside0.mk (CD.out.below h2)
  have KX_ := Aside0.mk (blk_below KX.out h2)
  have C5_ := Aside0.mk (C5.out.below h2)
  have KY_ := Aside0.mk (blk_below KY.out h2)
  clear HB
  have HB := HB_
  clear HB_
  clear CD
  have CD := CD_
  clear CD_
  clear KX
  have KX := KX_
  clear KX_
  clear C5
  have C5 := C5_
  clear C5_
  clear KY
  have KY := KY_
  clear KY_
  clear h2
  obtain ⟨l, hl⟩ : ∃ l, l = Dk.list dc := ⟨_, rfl⟩
  obtain ⟨n, hn⟩ : ∃ n, n = l.length := ⟨_, rfl⟩
  rw [← hl] at HL lL ⊢
  rw [← hn] at lL HL ⊢
  have LL := Aside0.mk hl
  have HN := Aside0.mk hn
  have hnn : n ≤ 10000 := by
    have := M5.out.2.1
    rw [hn, hl, Dk.list_ok V5.out, List.length_map]; omega
  have RD := Aside0.mk (fun s W h => read_calls (.agg #[.slice H0 dc.ino.length g0, .slice H1 dc.dir.length g1, .slice H2 dc.dur.length g2, .slice H3 dc.ops.length g3]) dc s W h (M5.out.mono (by omega)))
  have I0 : Aside0 (Kd.C k67 w6 F0 d.ino.length d.ino) := ⟨by
    obtain ⟨_, _, _, _, _, _, _, _, e, h, _⟩ := CD.out
    injection e with e
    injection e with e
    simp only [List.cons.injEq, Value.slice.injEq] at e
    rw [e.1.1]; exact h.1⟩
  obtain ⟨m, hm⟩ : ∃ m, m = d.ino.length := ⟨_, rfl⟩
  have HM := Aside0.mk hm
  rw [← hm] at I0 KX
  have hmm : m ≤ 1000 := by have := HS.out.1; omega
  clear hl hn hm
  go_wp2_with fail
  go_loopg [23] n (fun kx s24 wr => ∃ i : Nat, s24 = .int .i64 i ∧ i ≤ n ∧ n - i ≤ kx ∧ Aside0 (Below w6.heap.size w6 wr))
  case atStart => exact ⟨0, rfl, Nat.zero_le _, by omega, ⟨Below.refl _ _⟩⟩
  case round =>
    obtain ⟨i, rfl, hi, hk, HR⟩ := hrel
    by_cases hlt : i < n
    · have hil : i < l.length := by have := HN.out; omega
      obtain ⟨ad, ea, hx⟩ := at_str (Kd.C_below HL.out HR.out) i hil
      subst ea
      obtain ⟨nm, hxe⟩ : ∃ x, x = l[i] := ⟨_, rfl⟩
      rw [← hxe] at hx
      have FD := Aside0.mk (F5.out nm (by
        have hl2 := LL.out
        subst hl2
        rw [hxe]
        exact Dk.list_has V5.out hil))
      obtain ⟨s, hs⟩ : ∃ s, s = (Dk.read dc nm).1 := ⟨_, rfl⟩
      have RQ := (fun W h => RD.out nm W h)
      rw [FD.out.1, ← hs] at RQ
      have RP := Aside0.mk RQ
      have FA := Aside0.mk (show d.ino.any (Dk.okp s) = true from by rw [hs]; exact FD.out.2)
      clear hxe hs RQ FD
      have KY2 := Aside0.mk (blk_below KY.out HR.out)
      have KX2 := Aside0.mk (blk_below KX.out HR.out)
      have y0 : wr.cell? ⟨Y, 0, none⟩ = some (.slice H0 dc.ino.length g0) := (blk_cell KY2.out 0).trans rfl
      have y1 : wr.cell? ⟨Y, 1, none⟩ = some (.slice H1 dc.dir.length g1) := (blk_cell KY2.out 1).trans rfl
      have y2 : wr.cell? ⟨Y, 2, none⟩ = some (.slice H2 dc.dur.length g2) := (blk_cell KY2.out 2).trans rfl
      have y3 : wr.cell? ⟨Y, 3, none⟩ = some (.slice H3 dc.ops.length g3) := (blk_cell KY2.out 3).trans rfl
      go_wp2_with fail
      refine (RP.out wr (C5.out.below HR.out)).mono ?_
      rintro e w7 ⟨rfl, h2⟩
      have HR7 := Aside0.mk (below_step HR.out h2)
      have KX7 := Aside0.mk (blk_below KX2.out h2)
      clear h2 hx y0 y1 y2 y3 KY2 KX2 HR RP
      have x0 : w7.cell? ⟨X, 0, none⟩ = some (.slice F0 m f0) := (blk_cell KX7.out 0).trans rfl
      go_wp2_with fail
      go_loopg [11, 36] m (fun kx s11 s36 wq => ∃ j : Nat, s36 = .int .i64 j ∧ s11 = .bool ((d.ino.take j).any (Dk.okp s)) ∧ j ≤ m ∧ m - j ≤ kx ∧ Aside0 (Below w6.heap.size w6 wq))
      case atStart => exact ⟨0, rfl, rfl, Nat.zero_le _, by omega, HR7⟩
      case round =>
        clear HR7 KX7 x0
        obtain ⟨j, rfl, rfl, hj, hkj, HQ⟩ := hrel
        by_cases hjt : j < m
        · obtain ⟨ad', ea, hz0, hz1⟩ := at_T67 I0.out (j : Int) (by omega) (by omega)
          subst ea
          obtain ⟨y, hy⟩ : ∃ y, y = rd_T67 d.ino (j : Int) := ⟨_, rfl⟩
          rw [← hy] at hz0 hz1
          have hjl : j < d.ino.length := by have := HM.out; omega
          have hyj : d.ino[j] = y := by rw [hy]; show _ = d.ino.getD j z67; rw [getD67 hjl]
          obtain ⟨o1, o2, o3⟩ := HV.out.ino y (hyj ▸ List.getElem_mem hjl)
          obtain ⟨t, ht⟩ : ∃ t : Nat, y.f1 = (t : Int) := ⟨y.f1.toNat, (Int.toNat_of_nonneg o1).symm⟩
          rw [ht] at hz1 o2
          have hty : t ≤ y.f0.size := by omega
          have SS := Aside0.mk (show (d.ino.take (j + 1)).any (Dk.okp s) = ((d.ino.take j).any (Dk.okp s) || (decide (t ≤ s.size) && decide (s.size ≤ y.f0.size) && decide ((s.extract 0 t).toList = (y.f0.extract 0 t).toList))) from by
            rw [Dk.any_succ hjl, hyj]; unfold Dk.okp; rw [ht]; rfl)
          replace hz0 : wr.cell? (ad'.add (j * 2)) = some (.string y.f0) := (HQ.out.cell (World.block_lt_of_cell? w6 _ hz0)).trans hz0
          replace hz1 : wr.cell? ⟨(ad'.add (j * 2)).block, (ad'.add (j * 2)).off + 1, none⟩ = some (.int .i64 (t : Nat)) := (HQ.out.cell (World.block_lt_of_cell? w6 _ hz1)).trans hz1
          have hi0 : (0 : Int) ≤ (j : Int) := by omega
          have hi1 : (j : Int) < (m : Int) := by omega
          clear hy hyj ht o1
          go_upto_region 11 with fail
          have bN := below_alloc (Below.refl wr.heap.size wr) (.cells #[.string y.f0, .int .i64 (t : Nat)] 67)
          have kN := blk_new wr (.cells #[.string y.f0, .int .i64 (t : Nat)] 67)
          obtain ⟨M, hM⟩ : ∃ M, M = wr.heap.size := ⟨_, rfl⟩
          rw [← hM] at kN ⊢
          have HQ2 := Aside0.mk (below_step HQ.out bN)
          generalize wr.alloc (.cells #[.string y.f0, .int .i64 (t : Nat)] 67) = w8 at HQ2 kN ⊢
          clear bN hM hz0 hz1 HQ
          have n0 : w8.cell? ⟨M, 0, none⟩ = some (.string y.f0) := (blk_cell kN 0).trans rfl
          have n1 : w8.cell? ⟨M, 1, none⟩ = some (.int .i64 (t : Nat)) := (blk_cell kN 1).trans rfl
          have hfo : Try.prog.follows Departure.mixedOrders = true := by kernel_rfl
          obtain ⟨fd, hfd⟩ : ∃ fd, fd = (d.ino.take j).any (Dk.okp s) := ⟨_, rfl⟩
          rw [← hfd] at SS ⊢
          clear hfd kN
          have ht0 : (0 : Int) ≤ (t : Int) := by omega
          have ht1 : (t : Int) ≤ (y.f0.size : Int) := by omega
          cases fd with
          | true =>
            go_big_quiet_o (fail)
            have hb8 := pw_below_drewN (Below.refl w8.heap.size w8) nq
            have HQ3 := Aside0.mk (below_step HQ2.out hb8)
            generalize w8.drewN nq = w9 at HQ3 ⊢
            clear hb8 n0 n1 HQ2
            go_wp2
            go_roundg (m - j - 1)
            case measure => omega
            case rel => exact ⟨j + 1, by first | rfl | (simp; done), by rw [SS.out]; first | rfl | (simp; done) | (simp [h1]; done) | (simp [h1, h2]; done) | (simp [h1, h2, Lib.toList_data]; rw [Bool.eq_iff_iff, beq_iff_eq, decide_eq_true_iff]), hjt, by omega, HQ3⟩
          | false =>
            by_cases h1 : t ≤ s.size
            · have d1 : decide (t ≤ s.size) = true := decide_eq_true h1
              have ht2 : (t : Int) ≤ (s.size : Int) := by omega
              by_cases h2 : s.size ≤ y.f0.size
              · have d2 : decide (s.size ≤ y.f0.size) = true := decide_eq_true h2
                go_big_quiet_o (fail)
                have hb8 := pw_below_drewN (Below.refl w8.heap.size w8) nq
                have HQ3 := Aside0.mk (below_step HQ2.out hb8)
                generalize w8.drewN nq = w9 at HQ3 ⊢
                clear hb8 n0 n1 HQ2
                go_wp2
                go_roundg (m - j - 1)
                case measure => omega
                case rel => exact ⟨j + 1, by first | rfl | (simp; done), by rw [SS.out]; first | rfl | (simp; done) | (simp [h1]; done) | (simp [h1, h2]; done) | (simp [h1, h2, Lib.toList_data]; rw [Bool.eq_iff_iff, beq_iff_eq, decide_eq_true_iff]), hjt, by omega, HQ3⟩
              · have d2 : decide (s.size ≤ y.f0.size) = false := decide_eq_false h2
                go_big_quiet_o (fail)
                have hb8 := pw_below_drewN (Below.refl w8.heap.size w8) nq
                have HQ3 := Aside0.mk (below_step HQ2.out hb8)
                generalize w8.drewN nq = w9 at HQ3 ⊢
                clear hb8 n0 n1 HQ2
                go_wp2
                go_roundg (m - j - 1)
                case measure => omega
                case rel => exact ⟨j + 1, by first | rfl | (simp; done), by rw [SS.out]; first | rfl | (simp; done) | (simp [h1]; done) | (simp [h1, h2]; done) | (simp [h1, h2, Lib.toList_data]; rw [Bool.eq_iff_iff, beq_iff_eq, decide_eq_true_iff]), hjt, by omega, HQ3⟩
            · have d1 : decide (t ≤ s.size) = false := decide_eq_false h1
              go_big_quiet_o (fail)
              have hb8 := pw_below_drewN (Below.refl w8.heap.size w8) nq
              have HQ3 := Aside0.mk (below_step HQ2.out hb8)
              generalize w8.drewN nq = w9 at HQ3 ⊢
              clear hb8 n0 n1 HQ2
              go_wp2
              go_roundg (m - j - 1)
              case measure => omega
              case rel => exact ⟨j + 1, by first | rfl | (simp; done), by rw [SS.out]; first | rfl | (simp; done) | (simp [h1]; done) | (simp [h1, h2]; done) | (simp [h1, h2, Lib.toList_data]; rw [Bool.eq_iff_iff, beq_iff_eq, decide_eq_true_iff]), hjt, by omega, HQ3⟩
        · have e1 : (d.ino.take j).any (Dk.okp s) = true := by rw [List.take_of_length_le (by have := HM.out; omega)]; exact FA.out
          rw [e1]
          go_wp2
          go_roundg (n - i - 1)
          case measure => omega
          case rel => exact ⟨i + 1, by first | rfl | (simp; done), hlt, by omega, HQ⟩
    · have B9 := Aside0.mk (below_step HB.out HR.out)
      go_wp2_with fail
      refine (known43_calls wr).mono ?_
      rintro e w7 ⟨rfl, h2⟩
      have B10 := Aside0.mk (below_step B9.out h2)
      clear h2
      go_wp2
      go_ret
      exact ⟨rfl, B10.out⟩
end Go.Proofs.Ytnaddmkaakdhoaa.J

end
