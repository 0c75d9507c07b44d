/-
  Texts of this claim, joined, without what the claim does not use: XL17 XPf XL15 XRl
-/
import Derived.Test.YtnaddmkaakdhoaaSDEj
section
namespace Go.Proofs.Ytnaddmkaakdhoaa.Dk
open J
end Go.Proofs.Ytnaddmkaakdhoaa.Dk
namespace Go.Proofs.Ytnaddmkaakdhoaa.J
open Go.RowKit Go.Proofs.YtnaddmkaakdhoaaW.PrintWords Go.Proofs.YtnaddmkaakdhoaaW.PrintLast Go.Proofs.YtnaddmkaakdhoaaW.PrintMore
open Dk (Srt pos has valid app appAll applyAll Valid ent nk)
set_option linter.unusedVariables false
set_option linter.unusedSimpArgs false
theorem at_str {w : World} {A : Option Addr} {n : Nat} {xs : List ByteArray} (h : Kd.C Kd.string w A n xs) (i : Nat) (hi : i < xs.length) : ∃ ad, A = some ad ∧ w.cell? (ad.add i) = some (.string xs[i]) := by
  obtain ⟨ad, e, hc⟩ := h.2.2 (by have := h.1; omega)
  obtain ⟨c, hl, hp, hcell⟩ := hc i _ (List.getElem?_eq_getElem hi)
  refine ⟨ad, e, ?_⟩
  have hp2 : c = [.string xs[i]] := hp
  subst hp2
  have := hcell 0 _ rfl
  rwa [show Kd.string.sz = 1 from rfl, Nat.mul_one, Nat.add_zero] at this
end Go.Proofs.Ytnaddmkaakdhoaa.J

end
section
namespace Go.Proofs.Ytnaddmkaakdhoaa.Dk
open J
def FullTo (l : List S69) (d : Dsk) (i : Nat) : Prop := ∀ k, k < i → ∀ x, l[k]? = some x → ∃ y, d.ino[x.f1.toNat]? = some y ∧ y.f1 = (y.f0.size : Nat)
end Go.Proofs.Ytnaddmkaakdhoaa.Dk

end
section
namespace Go.Proofs.Ytnaddmkaakdhoaa.J
open Go.RowKit Go.Proofs.YtnaddmkaakdhoaaW.PrintWords Go.Proofs.YtnaddmkaakdhoaaW.PrintLast Go.Proofs.YtnaddmkaakdhoaaW.PrintMore
open Dk (Srt pos has valid app appAll applyAll Valid ent FullTo e0)
set_option linter.unusedVariables false
set_option linter.unusedSimpArgs false
set_option maxHeartbeats 8000000 in
set_option maxRecDepth 100000 in
theorem texts38_calls (A : Option Addr) (c : Nat) (A' : Option Addr) (c' : Nat) (l : List ByteArray) (n : Nat) (hn : n = l.length) (w : World) (h1 : Kd.C Kd.string w A n l) (hc1 : n ≤ c) (h2 : Kd.C Kd.string w A' n l) (hc2 : n ≤ c') (hl : n ≤ 1000000) :
    Calls Try.prog 38 #[.slice A n c, .slice A' n c'] w fun e w' => e = .returned (.bool true) ∧ Below w.heap.size w w' := by
  have R1 := Aside0.mk h1
  have R2 := Aside0.mk h2
  have HN := Aside0.mk hn
  have HB := Aside0.mk (Below.refl w.heap.size w)
  clear hn h1 h2
  go_enter Try.func38, Try.ntmps38
  go_wp2_with fail
  go_loopg [13] n (fun kx s wr => ∃ i : Nat, s = .int .i64 i ∧ i ≤ n ∧ n - i ≤ kx ∧ Aside0 (Below w.heap.size w wr))
  case atStart => exact ⟨0, rfl, Nat.zero_le _, by omega, HB⟩
  case round =>
    clear HB
    obtain ⟨i, rfl, hi, hk, HB⟩ := hrel
    by_cases hlt : i < n
    · have hil : i < l.length := by have := HN.out; omega
      obtain ⟨ad, ea, hx⟩ := at_str (Kd.C_below R1.out HB.out) i hil
      subst ea
      obtain ⟨ad', ea, hz⟩ := at_str (Kd.C_below R2.out HB.out) i hil
      subst ea
      obtain ⟨y, hy⟩ : ∃ y, y = l[i] := ⟨_, rfl⟩
      rw [← hy] at hx hz
      clear hy
      have hi0 : (0 : Int) ≤ (i : Int) := by omega
      have hi1 : (i : Int) < (n : Int) := by omega
      go_wp2_with fail
      go_quiet (fail)
      have hbw := below_step HB.out (pw_below_drewN (Below.refl wr.heap.size wr) nq)
      generalize wr.drewN nq = W3 at hbw ⊢
      have HB3 := Aside0.mk hbw
      clear hbw HB hx hz
      go_wp2
      go_roundg (n - i - 1)
      case measure => omega
      case rel => exact ⟨i + 1, by first | rfl | (simp; done), hlt, by omega, HB3⟩
    · go_wp2
      go_ret
      exact ⟨rfl, HB.out⟩
end Go.Proofs.Ytnaddmkaakdhoaa.J

end
section
namespace Go.Proofs.Ytnaddmkaakdhoaa.J
open Go.RowKit Go.Proofs.YtnaddmkaakdhoaaW.PrintWords Go.Proofs.YtnaddmkaakdhoaaW.PrintLast Go.Proofs.YtnaddmkaakdhoaaW.PrintMore
open Dk (Srt pos has valid app appAll applyAll Valid ent fnd)
set_option linter.unusedVariables false
set_option linter.unusedSimpArgs false
set_option maxHeartbeats 8000000 in
set_option maxRecDepth 100000 in
theorem list40_calls (a : Value) (d : Dsk) (w : World) (hd : DC w a d) (hs : Sml 40000 d) :
    Calls Try.prog 40 #[a] w fun e w' => ∃ v, e = .returned v ∧ Kd.R Kd.string 9 w' w.heap.size (fun _ => True) v (Dk.list d) ∧ Below w.heap.size w w' := by
  have DD := Aside0.mk hd
  obtain ⟨A0, c0, A1, c1, A2, c2, A3, c3, rfl, ⟨r0, l0⟩, ⟨r1, l1⟩, ⟨r2, l2⟩, ⟨r3, l3⟩⟩ := hd
  have R1 := Aside0.mk r1
  obtain ⟨res, hres⟩ : ∃ res, res = Dk.list d := ⟨_, rfl⟩
  rw [← hres]
  have RES := Aside0.mk hres
  obtain ⟨b, hb⟩ : ∃ b, b = valid d := ⟨_, rfl⟩
  have VC := Aside0.mk (fun w' hd' => validate36_calls (.agg #[.slice A0 d.ino.length c0, .slice A1 d.dir.length c1, .slice A2 d.dur.length c2, .slice A3 d.ops.length c3]) d w' hd' hs)
  rw [← hb] at VC
  have VB := Aside0.mk hb
  obtain ⟨n, hn⟩ : ∃ n, n = d.dir.length := ⟨_, rfl⟩
  have HN := Aside0.mk hn
  have hn1 : n ≤ 100000 := by have := hs.2.1; omega
  clear hres hb r0 r1 r2 r3 hs
  go_enter Try.func40, Try.ntmps40
  go_wp2_with fail
  have hB := (Below.refl w.heap.size w).alloc (Nat.le_refl _) (.cells #[.slice A0 d.ino.length c0, .slice A1 d.dir.length c1, .slice A2 d.dur.length c2, .slice A3 d.ops.length c3] 47)
  have hK := blk_new w (.cells #[.slice A0 d.ino.length c0, .slice A1 d.dir.length c1, .slice A2 d.dur.length c2, .slice A3 d.ops.length c3] 47)
  generalize w.alloc (.cells #[.slice A0 d.ino.length c0, .slice A1 d.dir.length c1, .slice A2 d.dur.length c2, .slice A3 d.ops.length c3] 47) = W0 at hB hK ⊢
  refine (VC.out W0 (DD.out.below hB)).mono ?_
  rintro e w1 ⟨rfl, hb1⟩
  have HB := Aside0.mk (below_step hB hb1)
  have HK := Aside0.mk (blk_below hK hb1)
  clear hB hK hb1 VC
  obtain ⟨D, hD⟩ : ∃ D, D = w.heap.size := ⟨_, rfl⟩
  rw [← hD] at HK ⊢
  clear hD
  cases b with
  | false =>
    have E := Aside0.mk (show res = [] from by rw [RES.out]; unfold Dk.list; rw [← VB.out]; rfl)
    go_wp2
    go_ret
    rw [E.out]
    exact ⟨_, rfl, Kd.R_nil _ _ _ _ _, HB.out⟩
  | true =>
    have E := Aside0.mk (show res = d.dir.map (·.f0) from by rw [RES.out]; unfold Dk.list; rw [← VB.out]; rfl)
    have d1 : w1.cell? ⟨D, 1, none⟩ = some (.slice A1 d.dir.length c1) := (blk_cell HK.out 1).trans rfl
    rw [← hn] at d1
    clear hn
    go_wp2_with fail
    go_loopg [12, 3] n (fun kx s12 s3 wr => ∃ (i : Nat) (v : Value), s12 = .int .i64 i ∧ v = s3 ∧ i ≤ n ∧ n - i ≤ kx ∧ Aside0 (Below w.heap.size w wr) ∧ Aside0 (Kd.R Kd.string 9 wr w.heap.size (fun _ => True) v ((d.dir.take i).map (·.f0))))
    case atStart => exact ⟨0, _, rfl, rfl, Nat.zero_le _, by omega, HB, ⟨Kd.R_nil _ _ _ _ _⟩⟩
    case round =>
      clear HB HK d1
      obtain ⟨i, vk, rfl, rfl, hi, hk, HB, HO⟩ := hrel
      by_cases hlt : i < n
      · obtain ⟨ad, ea, hx0, hx1⟩ := at_T69 R1.out (i : Int) (by omega) (by have := HN.out; omega)
        cases ea
        obtain ⟨y, hy⟩ : ∃ y, y = rd_T69 d.dir (i : Int) := ⟨_, rfl⟩
        rw [← hy] at hx0 hx1
        replace hx0 : wr.cell? (ad.add (i * 2)) = some (.string y.f0) := (HB.out.cell (World.block_lt_of_cell? w _ hx0)).trans hx0
        replace hx1 : wr.cell? ⟨(ad.add (i * 2)).block, (ad.add (i * 2)).off + 1, none⟩ = some (.int .i64 y.f1) := (HB.out.cell (World.block_lt_of_cell? w _ hx1)).trans hx1
        have hil : i < d.dir.length := by have := HN.out; omega
        have hyi : d.dir[i] = y := by
          rw [hy]
          show _ = d.dir.getD i z69
          rw [Dk.getD_eq hil]
        have HT := Aside0.mk (show (d.dir.take (i + 1)).map (·.f0) = (d.dir.take i).map (·.f0) ++ [y.f0] from by rw [List.take_succ_eq_append_getElem hil, hyi, List.map_append]; rfl)
        have hlm : ((d.dir.take i).map (·.f0)).length ≤ 100000 := by rw [List.length_map, List.length_take]; omega
        obtain ⟨Ak, ck, rfl⟩ := Kd.R_slice HO.out
        obtain ⟨L, hL⟩ : ∃ L, L = (d.dir.take i).map (·.f0) := ⟨_, rfl⟩
        rw [← hL] at HO HT hlm ⊢
        clear hy hyi hL
        have y0 := (blk_cell (blk_new wr (.cells #[.string y.f0, .int .i64 y.f1] 69)) 0).trans rfl
        have b1 := ((Below.refl wr.heap.size wr).alloc (Nat.le_refl _) (.cells #[.string y.f0, .int .i64 y.f1] 69))
        have b2 := b1.alloc b1.size (.cells #[.string y.f0] 9)
        have QX := Aside0.mk (C9_one (blk_new (wr.alloc (.cells #[.string y.f0, .int .i64 y.f1] 69)) (.cells #[.string y.f0] 9)))
        rw [show (wr.alloc (.cells #[.string y.f0, .int .i64 y.f1] 69)).heap.size = wr.heap.size + 1 by simp] at QX
        have QB := Aside0.mk (below_step HB.out b2)
        have QO := Aside0.mk (Kd.R_below HO.out b2)
        have QS := Aside0.mk (Nat.le_trans HB.out.size b2.size)
        clear b1 b2
        go_wp2_with (at_builtin; go_loud (refine Kd.R_append_row Value.string ⟨#[]⟩ (w0 := w) w.heap.size rfl _ _ 56 9 (.string ⟨#[]⟩) 16 rfl Try.underlying56 info9 rfl (by decide) (.slice Ak L.length ck) L [y.f0] (some ⟨wr.heap.size + 1, 0, none⟩) 1 1 (fun _ => True) rfl rfl ?q4 QO.out QX.out QB.out QS.out ?q7 ?_); (case q4 => intro k hk; trivial); (case q7 => omega); intro v1 w1 h1 h2 h3 h4; have H1 := Aside0.mk h1; have H2 := Aside0.mk h2; clear h1 h2 h3 h4)
        go_roundg (n - i - 1)
        case measure => omega
        case rel => exact ⟨i + 1, v1, by first | rfl | (simp; done), rfl, hlt, by omega, H2, ⟨by rw [HT.out]; exact H1.out⟩⟩
      · have E2 := Aside0.mk (show res = (d.dir.take i).map (·.f0) from by rw [E.out, List.take_of_length_le (by have := HN.out; omega)])
        go_wp2
        go_ret
        rw [E2.out]
        exact ⟨_, rfl, HO.out, HB.out⟩
set_option maxHeartbeats 8000000 in
set_option maxRecDepth 100000 in
theorem read34_calls (a : Value) (d : Dsk) (nm : ByteArray) (w : World) (hd : DC w a d) (hs : Sml 40000 d) :
    Calls Try.prog 34 #[a, .string nm] w fun e w' => e = .returned (.tuple #[.string (Dk.read d nm).1, .int .i64 (Dk.read d nm).2]) ∧ Below w.heap.size w w' := by
  have DD := Aside0.mk hd
  obtain ⟨A0, c0, A1, c1, A2, c2, A3, c3, rfl, ⟨r0, l0⟩, ⟨r1, l1⟩, ⟨r2, l2⟩, ⟨r3, l3⟩⟩ := hd
  have R0 := Aside0.mk r0
  have R1 := Aside0.mk r1
  obtain ⟨res, hres⟩ : ∃ res, res = Dk.read d nm := ⟨_, rfl⟩
  rw [← hres]
  have RES := Aside0.mk hres
  have VC := Aside0.mk (fun w' hd' => validate36_calls (.agg #[.slice A0 d.ino.length c0, .slice A1 d.dir.length c1, .slice A2 d.dur.length c2, .slice A3 d.ops.length c3]) d w' hd' hs)
  have n0 := hs.1
  clear hres r0 r1 r2 r3 hs
  go_enter Try.func34, Try.ntmps34
  go_wp2_with fail
  have hB := (Below.refl w.heap.size w).alloc (Nat.le_refl _) (.cells #[.slice A0 d.ino.length c0, .slice A1 d.dir.length c1, .slice A2 d.dur.length c2, .slice A3 d.ops.length c3] 47)
  have hK := blk_new w (.cells #[.slice A0 d.ino.length c0, .slice A1 d.dir.length c1, .slice A2 d.dur.length c2, .slice A3 d.ops.length c3] 47)
  generalize w.alloc (.cells #[.slice A0 d.ino.length c0, .slice A1 d.dir.length c1, .slice A2 d.dur.length c2, .slice A3 d.ops.length c3] 47) = W0 at hB hK ⊢
  refine (VC.out W0 (DD.out.below hB)).mono ?_
  rintro e w1 ⟨rfl, hb1⟩
  have HB := Aside0.mk (below_step hB hb1)
  have HK := Aside0.mk (blk_below hK hb1)
  clear hB hK hb1 VC
  obtain ⟨D, hD⟩ : ∃ D, D = w.heap.size := ⟨_, rfl⟩
  rw [← hD] at HK ⊢
  clear hD
  by_cases hv : valid d = true
  · rw [if_pos hv]
    have V := Aside0.mk (Dk.valid_of.1 hv)
    have FC := Aside0.mk (fun w' hC => find57_calls A1 c1 d.dir nm V.out.dir.2.1 w' hC l1)
    have k1 : w1.cell? ⟨D, 1, none⟩ = some (.slice A1 d.dir.length c1) := (blk_cell HK.out 1).trans rfl
    by_cases hh : has d.dir nm = true
    · obtain ⟨j, hj, hjn, hje⟩ : ∃ j : Nat, fnd d.dir nm = (j : Int) ∧ j < d.ino.length ∧ ent d nm = j := by
        obtain ⟨y, hy, e1, e2⟩ := Dk.pos_mem V.out.dir.2.1 hh
        have hb := (V.out.dir.1 y hy).2
        refine ⟨y.f1.toNat, ?_, by omega, ?_⟩
        · unfold fnd; rw [if_pos hh, e2]; omega
        · unfold Dk.ent; rw [e2]
      rw [hj] at FC
      obtain ⟨x, hx⟩ : ∃ x, x = rd_T67 d.ino (j : Int) := ⟨_, rfl⟩
      obtain ⟨ad, ea, x0, x1⟩ := at_T67 R0.out (j : Int) (by omega) (by omega)
      subst ea
      rw [← hx] at x0 x1
      have hE : res = (x.f0, 0) := by
        rw [RES.out]; unfold Dk.read; rw [if_pos hv, if_pos hh, hje, hx]; rfl
      subst hE
      have hi0 : (0 : Int) ≤ (j : Int) := by omega
      have hi1 : (j : Int) < (d.ino.length : Int) := by omega
      have hjm : (((j : Nat) : Int) == -1) = false := beq_eq_false_iff_ne.2 (by omega)
      clear RES hj hje hx hh hv
      go_wp2_with fail
      refine (FC.out w1 (Kd.C_below R1.out HB.out)).mono ?_
      rintro e w2 ⟨rfl, hb2⟩
      have HB2 := Aside0.mk (below_step HB.out hb2)
      have K2 := Aside0.mk (blk_below HK.out hb2)
      clear hb2 k1 HB HK FC
      have k0 : w2.cell? ⟨D, 0, none⟩ = some (.slice (some ad) d.ino.length c0) := (blk_cell K2.out 0).trans rfl
      replace x0 : w2.cell? (ad.add (j * 2)) = some (.string x.f0) := (HB2.out.cell (World.block_lt_of_cell? w _ x0)).trans x0
      replace x1 : w2.cell? ⟨(ad.add (j * 2)).block, (ad.add (j * 2)).off + 1, none⟩ = some (.int .i64 x.f1) := (HB2.out.cell (World.block_lt_of_cell? w _ x1)).trans x1
      go_wp2
      go_ret2
      exact ⟨rfl, HB2.out⟩
    · have hf : fnd d.dir nm = -1 := by unfold fnd; rw [if_neg hh]
      rw [hf] at FC
      have hE : res = (⟨#[]⟩, 11) := by rw [RES.out]; unfold Dk.read; rw [if_pos hv, if_neg hh]
      subst hE
      clear RES hf hh hv
      go_wp2_with fail
      refine (FC.out w1 (Kd.C_below R1.out HB.out)).mono ?_
      rintro e w2 ⟨rfl, hb2⟩
      have HB2 := Aside0.mk (below_step HB.out hb2)
      clear hb2 k1 HB HK FC
      go_wp2
      go_ret2
      exact ⟨rfl, HB2.out⟩
  · rw [if_neg hv]
    have hE : res = (⟨#[]⟩, 9) := by rw [RES.out]; unfold Dk.read; rw [if_neg hv]
    subst hE
    clear RES
    go_wp2
    go_ret2
    exact ⟨rfl, HB.out⟩
end Go.Proofs.Ytnaddmkaakdhoaa.J

end
