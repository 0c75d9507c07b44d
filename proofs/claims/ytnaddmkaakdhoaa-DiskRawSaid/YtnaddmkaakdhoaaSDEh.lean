/-
  Texts of this claim, joined, without what the claim does not use: XRk
-/
import Derived.Test.YtnaddmkaakdhoaaSCAn
import Derived.Test.YtnaddmkaakdhoaaSDEg
section
namespace Go.Proofs.Ytnaddmkaakdhoaa.Dk
open J
theorem zeros4 {z : Nat} (h : z ≤ 4) : (⟨#[0, 0, 0, 0]⟩ : ByteArray).extract 0 z = zeros z := by
  have : z = 0 ∨ z = 1 ∨ z = 2 ∨ z = 3 ∨ z = 4 := by omega
  rcases this with rfl | rfl | rfl | rfl | rfl <;> decide
end Go.Proofs.Ytnaddmkaakdhoaa.Dk
namespace Go.Proofs.Ytnaddmkaakdhoaa.J
open Go.RowKit Go.Proofs.YtnaddmkaakdhoaaW.PrintWords Go.Proofs.YtnaddmkaakdhoaaW.PrintLast Go.Proofs.YtnaddmkaakdhoaaW.PrintMore
open Dk (Srt pos has valid app appAll applyAll Valid ent crt chs torn zeros kp zr repd)
set_option linter.unusedVariables false
set_option linter.unusedSimpArgs false
attribute [local go_sem ↓] Go.wp_at_zero Go.wp_at_succ
theorem choice75_int (cs : List Int) (A : Option Addr) (c i n : Nat) (i' n' : Int) (hi : i' = (i : Int)) (hn : n' = (n : Int)) (W : World) (hr : Kd.C (Kd.int .i64) W A cs.length cs) (hc : cs.length ≤ c) (h0 : 0 < n) (h1 : n ≤ 1000000000) :
    Calls Try.prog 75 #[.slice A cs.length c, .int .i64 i', .int .i64 n'] W fun e w' => e = .returned (.int .i64 (chs cs i n : Nat)) ∧ Drawn0 W w' := by
  subst hi hn
  refine corporaref39_choice.calls A c cs (i : Int) (n : Int) (chs cs i n : Nat) W hr hc ?_
  unfold corporaref39_choice.f
  by_cases h : (i : Int) ≥ (cs.length : Int)
  · rw [if_pos h]
    unfold Dk.chs
    rw [List.getD_eq_getElem?_getD, List.getElem?_eq_none (by omega)]
    simp
  · rw [if_neg h, if_pos (by omega), if_pos (by omega), if_neg (by omega)]
    have e : rd cs (i : Int) = cs.getD i 0 := rfl
    rw [e]
    have := Dk.chs_ref (cs.getD i 0) h0
    unfold Dk.chs
    by_cases h2 : Int.tmod (cs.getD i 0) n < 0
    · rw [if_pos h2]
      rw [if_pos h2] at this
      rw [← this]
      have a := Int.lt_tmod_of_pos (cs.getD i 0) (show 0 < (n : Int) by omega)
      congr 1
      unfold wrap64
      omega
    · rw [if_neg h2]
      rw [if_neg h2] at this
      rw [← this]
set_option maxHeartbeats 8000000 in
set_option maxRecDepth 100000 in
theorem crash42_calls (a : Value) (d : Dsk) (A4 : Option Addr) (c4 : Nat) (cs : List Int) (w : World) (hd : DC w a d) (hr : Kd.C (Kd.int .i64) w A4 cs.length cs) (hc : cs.length ≤ c4) (hs : Sml 20000 d) :
    Calls Try.prog 42 #[a, .slice A4 cs.length c4] w fun e w' => ∃ v, e = .returned v ∧ DR w' w.heap.size v (Dk.crash d cs) ∧ Below w.heap.size w w' := by
  have DD := Aside0.mk hd
  obtain ⟨A0, c0, A1, c1, A2, c2, A3, c3, rfl, ⟨r0, l0⟩, ⟨r1, l1⟩, ⟨r2, l2⟩, ⟨r3, l3⟩⟩ := hd
  have R0 := Aside0.mk r0
  have R3 := Aside0.mk r3
  have hs' := Aside0.mk hs
  obtain ⟨n0, n1, n2, n3⟩ := hs
  have HR := Aside0.mk hr
  obtain ⟨res, hres⟩ : ∃ res, res = Dk.crash d cs := ⟨_, rfl⟩
  rw [← hres]
  have RES := Aside0.mk hres
  obtain ⟨b, hb⟩ : ∃ b, b = valid d := ⟨_, rfl⟩
  have VC := Aside0.mk (fun w' hd' => validate36_calls (.agg #[.slice A0 d.ino.length c0, .slice A1 d.dir.length c1, .slice A2 d.dur.length c2, .slice A3 d.ops.length c3]) d w' hd' ⟨by omega, by omega, by omega, by omega⟩)
  rw [← hb] at VC
  have VB := Aside0.mk hb
  clear hr hres hb r0 r1 r2 r3
  go_enter Try.func42, Try.ntmps42
  go_wp2_with fail
  obtain ⟨oD, hoD⟩ : ∃ o : Obj, o = .cells #[.slice A0 d.ino.length c0, .slice A1 d.dir.length c1, .slice A2 d.dur.length c2, .slice A3 d.ops.length c3] 47 := ⟨_, rfl⟩
  obtain ⟨oZ, hoZ⟩ : ∃ o : Obj, o = .cells #[.slice none 0 0, .slice none 0 0, .slice none 0 0, .slice none 0 0] 47 := ⟨_, rfl⟩
  rw [← hoD, ← hoZ]
  have hB := below_alloc (below_alloc (Below.refl w.heap.size w) oD) oZ
  have hK := blk_alloc (blk_new w oD) oZ
  have hS := blk_new (w.alloc oD) oZ
  rw [show (w.alloc oD).heap.size = w.heap.size + 1 by simp] at hS
  generalize (w.alloc oD).alloc oZ = W0 at hB hK hS ⊢
  subst hoD hoZ
  refine (VC.out W0 (DD.out.below hB)).mono ?_
  rintro e w1 ⟨rfl, hb1⟩
  have HB := Aside0.mk (below_step hB hb1)
  have HK := Aside0.mk (blk_below hK hb1)
  have HS := Aside0.mk (blk_below hS hb1)
  clear hB hK hS hb1 VC
  obtain ⟨D, hD⟩ : ∃ D, D = w.heap.size := ⟨_, rfl⟩
  obtain ⟨S, hS⟩ : ∃ S, S = w.heap.size + 1 := ⟨_, rfl⟩
  rw [← hS] at HS ⊢
  rw [← hD] at HK ⊢
  have hTD : w.heap.size ≤ D := by omega
  have hTS : w.heap.size ≤ S := by omega
  have hDS : D ≠ S := by omega
  have hSD : S ≠ D := by omega
  clear hD hS
  cases b with
  | false =>
    have E := Aside0.mk (show res = Dk.E0 from by rw [RES.out]; unfold Dk.crash; rw [← VB.out]; rfl)
    have s0 := (blk_cell HS.out 0).trans rfl
    have s1 := (blk_cell HS.out 1).trans rfl
    have s2 := (blk_cell HS.out 2).trans rfl
    have s3 := (blk_cell HS.out 3).trans rfl
    have f0 := blk_frozen HS.out 0
    have f1 := blk_frozen HS.out 1
    have f2 := blk_frozen HS.out 2
    have f3 := blk_frozen HS.out 3
    go_wp2
    refine bodyPost_ret (results_cell_row rfl _ _ S 47 _ (0, 0) _ rfl (put47 HS.out _ _ _ _) Try.underlying47 rfl (by kernel_rfl)) rfl ?_
    rw [E.out]
    exact ⟨_, rfl, (DR.zero _ _).put47 HS.out _ _ _ _, below_put47 HB.out hTS _ _ _ _⟩
  | true =>
    have V := Aside0.mk (Dk.valid_of.1 VB.out.symm)
    have k0 : w1.cell? ⟨D, 0, none⟩ = some (.slice A0 d.ino.length c0) := (blk_cell HK.out 0).trans rfl
    have k1 : w1.cell? ⟨D, 1, none⟩ = some (.slice A1 d.dir.length c1) := (blk_cell HK.out 1).trans rfl
    have k2 : w1.cell? ⟨D, 2, none⟩ = some (.slice A2 d.dur.length c2) := (blk_cell HK.out 2).trans rfl
    have k3 : w1.cell? ⟨D, 3, none⟩ = some (.slice A3 d.ops.length c3) := (blk_cell HK.out 3).trans rfl
    obtain ⟨k, hk⟩ : ∃ k, k = chs cs 0 (d.ops.length + 1) := ⟨_, rfl⟩
    have hkl : k ≤ d.ops.length := by rw [hk]; have := Dk.chs_lt cs 0 (show 0 < d.ops.length + 1 by omega); omega
    have CH := Aside0.mk (fun W (hb : Below w1.heap.size w1 W) => choice75_int cs A4 c4 0 (d.ops.length + 1) 0 ((d.ops.length : Int) + 1) rfl (by omega) W (Kd.C_below HR.out (below_step HB.out hb)) hc (by omega) (by omega))
    rw [← hk] at CH
    have KK := Aside0.mk hk
    obtain ⟨l', hl'⟩ : ∃ l', Dk.rep d.dur ((d.ino.length : Int) - (crt d.ops : Nat)) (d.ops.take k) = some l' := Dk.rep_take (by have := V.out.rep; have h3 := V.out.crt; rwa [show ((d.ino.length - crt d.ops : Nat) : Int) = (d.ino.length : Int) - (crt d.ops : Nat) by omega] at this) k
    have RC0 := (fun W (hb : Below w1.heap.size w1 W) => replay69_calls (.agg #[.slice A0 d.ino.length c0, .slice A1 d.dir.length c1, .slice A2 d.dur.length c2, .slice A3 d.ops.length c3]) d k W (DD.out.below (below_step HB.out hb)) hkl V.out.dur.2.1 (fun x hx => (V.out.dur.1 x hx).2.1) V.out.crt ⟨by omega, by omega, by omega, by omega⟩)
    rw [hl'] at RC0
    simp only [repd] at RC0
    have RC := Aside0.mk RC0
    clear RC0
    have LL := Aside0.mk hl'
    have hops : IntKind.i64.wrap ((d.ops.length : Int) + 1) = (d.ops.length : Int) + 1 := by rw [IntKind.wrap_i64]; omega
    clear hk hl'
    go_upto_region 3 with fail
    have TK1 := Aside0.mk trivial
    go_cut [5] (fun c5 wx => ∃ (A' : Option Addr) (e' : Nat), c5 = .slice A' l'.length e' ∧ Aside0 (Kd.R k69 69 wx w.heap.size (fun _ => True) (.slice A' l'.length e') l') ∧ Aside0 (Below w1.heap.size w1 wx))
    case first =>
      go_region_with
        (first
          | (clear TK1; go_at_call 75; refine (CH.out _ ?_).mono ?_; exact (Below.refl w1.heap.size w1).drew; rintro e w4 ⟨rfl, hd4⟩; have B4 := Aside0.mk (below_step (Below.refl w1.heap.size w1).drew hd4.below); have q0 := pw_cell_below B4.out k0; have q1 := pw_cell_below B4.out k1; have q2 := pw_cell_below B4.out k2; have q3 := pw_cell_below B4.out k3; clear hd4)
          | (go_at_call 69; refine (RC.out w4 B4.out).mono ?_; rintro e w5 ⟨v', rfl, h1, h2⟩; obtain ⟨A', e', rfl⟩ := Kd.R_slice h1; have B5 := Aside0.mk (below_step B4.out h2); have H1 := Aside0.mk (Kd.R_lower h1 (Nat.le_trans HB.out.size B4.out.size)); clear h1 h2))
      all_goals
        go_wp2
        go_meet
        exact ⟨A', e', rfl, H1, B5⟩
    case rest =>
      obtain ⟨A', e', rfl, L5, B5⟩ := hcut
      have HB5 := Aside0.mk (below_step HB.out B5.out)
      have K5 := Aside0.mk (blk_below HK.out B5.out)
      have S5 := Aside0.mk (blk_below HS.out B5.out)
      clear B5 HB HK HS k0 k1 k2 k3 CH RC TK1 hops
      have CC := Aside0.mk (copied56_calls A0 c0 A1 c1 A2 c2 A3 c3 d wc (Kd.C_below R0.out HB5.out) l0 (Kd.C_below R3.out HB5.out) l3 ⟨by omega, by omega, by omega, by omega⟩)
      have k0 := (blk_cell K5.out 0).trans rfl
      have k1 := (blk_cell K5.out 1).trans rfl
      have k2 := (blk_cell K5.out 2).trans rfl
      have k3 := (blk_cell K5.out 3).trans rfl
      go_wp2_with fail
      refine CC.out.mono ?_
      rintro e w2 ⟨B0, e0, B3, e3, rfl, h1, h2, h3⟩
      have HB2 := Aside0.mk (below_step HB5.out h3)
      have K2 := Aside0.mk (blk_below K5.out h3)
      have S2 := Aside0.mk (blk_below S5.out h3)
      have L2 := Aside0.mk (Kd.R_below L5.out h3)
      have Q0 := Aside0.mk (Kd.R_lower h1 HB5.out.size)
      clear h1 h2 h3 CC HB5 K5 S5 L5 k0 k1 k2 k3
      have k0 := (blk_cell K2.out 0).trans rfl
      have k1 := (blk_cell K2.out 1).trans rfl
      have k2 := (blk_cell K2.out 2).trans rfl
      have k3 := (blk_cell K2.out 3).trans rfl
      have g0 := blk_frozen K2.out 0
      have g1 := blk_frozen K2.out 1
      have g2 := blk_frozen K2.out 2
      have g3 := blk_frozen K2.out 3
      go_upto_region 5 with fail
      have K3 := Aside0.mk (put47 K2.out (.slice B0 d.ino.length e0) (.slice A1 d.dir.length c1) (.slice A2 d.dur.length c2) (.slice B3 d.ops.length e3))
      have S3 := Aside0.mk (far47 S2.out hSD (.slice B0 d.ino.length e0) (.slice A1 d.dir.length c1) (.slice A2 d.dur.length c2) (.slice B3 d.ops.length e3))
      have L3 := Aside0.mk (R69_put47 L2.out K2.out (.slice B0 d.ino.length e0) (.slice A1 d.dir.length c1) (.slice A2 d.dur.length c2) (.slice B3 d.ops.length e3))
      have Q3 := Aside0.mk (R67_put47 Q0.out K2.out (.slice B0 d.ino.length e0) (.slice A1 d.dir.length c1) (.slice A2 d.dur.length c2) (.slice B3 d.ops.length e3))
      have B3' := Aside0.mk (below_put47 HB2.out hTD (.slice B0 d.ino.length e0) (.slice A1 d.dir.length c1) (.slice A2 d.dur.length c2) (.slice B3 d.ops.length e3))
      generalize (((w2.setCell ⟨D, 0, none⟩ (.slice B0 d.ino.length e0)).setCell ⟨D, 1, none⟩ (.slice A1 d.dir.length c1)).setCell ⟨D, 2, none⟩ (.slice A2 d.dur.length c2)).setCell ⟨D, 3, none⟩ (.slice B3 d.ops.length e3) = W3 at K3 S3 L3 Q3 B3' ⊢
      clear k0 k1 k2 k3 g0 g1 g2 g3 K2 S2 L2 Q0 HB2
      have k1 := (blk_cell K3.out 1).trans rfl
      have g1 := blk_frozen K3.out 1
      go_upto_region 6 with fail
      have K4 := Aside0.mk (show (W3.setCell ⟨D, 1, none⟩ (.slice A' l'.length e')).heap[D]? = some (.cells #[.slice B0 d.ino.length e0, .slice A' l'.length e', .slice A2 d.dur.length c2, .slice B3 d.ops.length e3] 47 (0, 0)) from blk_put K3.out 1 _ rfl)
      have S4 := Aside0.mk (blk_far S3.out (p := ⟨D, 1, none⟩) hSD (.slice A' l'.length e'))
      have L4 := Aside0.mk (Kd.R_set L3.out K3.out (by decide) 1 (.slice A' l'.length e'))
      have Q4 := Aside0.mk (Kd.R_set Q3.out K3.out (by decide) 1 (.slice A' l'.length e'))
      have B4 := Aside0.mk (B3'.out.setCell (p := ⟨D, 1, none⟩) hTD (.slice A' l'.length e'))
      generalize W3.setCell ⟨D, 1, none⟩ (.slice A' l'.length e') = W4 at K4 S4 L4 Q4 B4 ⊢
      clear k1 g1 K3 S3 L3 Q3 B3'
      obtain ⟨n, hn⟩ : ∃ n, n = d.ino.length := ⟨_, rfl⟩
      have HN := Aside0.mk hn
      have VI := Aside0.mk V.out.ino
      rw [← hn] at K4 Q4
      have hn1 : n ≤ 20000 := by omega
      have k0 : W4.cell? ⟨D, 0, none⟩ = some (.slice B0 n e0) := (blk_cell K4.out 0).trans rfl
      clear hn
      go_wp2_with fail
      go_loopg [33] n (fun kx s36 wr => ∃ i : Nat, s36 = .int .i64 i ∧ i ≤ n ∧ n - i ≤ kx ∧ Aside0 (wr.heap[D]? = some (.cells #[.slice B0 n e0, .slice A' l'.length e', .slice A2 d.dur.length c2, .slice B3 d.ops.length e3] 47 (0, 0))) ∧ Aside0 (wr.heap[S]? = some (.cells #[.slice none 0 0, .slice none 0 0, .slice none 0 0, .slice none 0 0] 47 (0, 0))) ∧ Aside0 (Kd.R k69 69 wr w.heap.size (fun _ => True) (.slice A' l'.length e') l') ∧ Aside0 (Kd.R k67 67 wr w.heap.size (fun _ => True) (.slice B0 n e0) (Dk.tornTo cs d.ino i)) ∧ Aside0 (Below w.heap.size w wr))
      case atStart => exact ⟨0, rfl, Nat.zero_le _, by omega, K4, S4, L4, ⟨by rw [Dk.tornTo_zero]; exact Q4.out⟩, B4⟩
      case round =>
        clear K4 S4 L4 Q4 B4 k0
        obtain ⟨i, rfl, hi, hk, K4, S4, L4, Q4, B4⟩ := hrel
        by_cases hlt : i < n
        · have hil : i < d.ino.length := by have := HN.out; omega
          have hl : (Dk.tornTo cs d.ino i).length = n := by rw [Dk.tornTo_length _ _ (by omega)]; exact HN.out.symm
          obtain ⟨g0, cur, e1, hh⟩ := R67_block Q4.out (by show 0 < (Dk.tornTo cs d.ino i).length; omega)
          subst e1
          obtain ⟨x0, x1⟩ := R67_cells Q4.out i (by show i < (Dk.tornTo cs d.ino i).length; omega)
          obtain ⟨x, hx⟩ : ∃ x, x = d.ino[i] := ⟨_, rfl⟩
          obtain ⟨v1, v2, v3⟩ := VI.out x (hx ▸ List.getElem_mem hil)
          have e2 : (Dk.tornTo cs d.ino i)[i] = x := by rw [Dk.tornTo_get _ _ hil, hx]
          replace x0 : wr.cell? ⟨g0, i * 2, none⟩ = some (.string x.f0) := by rw [← e2]; exact x0
          replace x1 : wr.cell? ⟨g0, i * 2 + 1, none⟩ = some (.int .i64 x.f1) := by rw [← e2]; exact x1
          obtain ⟨s, hs⟩ : ∃ s : Nat, x.f1 = (s : Int) := ⟨x.f1.toNat, (Int.toNat_of_nonneg v1).symm⟩
          rw [hs] at x1 v2
          have hsz : s ≤ x.f0.size := by omega
          obtain ⟨p, hp⟩ : ∃ p, p = kp cs i x := ⟨_, rfl⟩
          obtain ⟨z, hz⟩ : ∃ z, z = zr cs i x := ⟨_, rfl⟩
          have hpl : s + p ≤ x.f0.size := by have := Dk.kp_le cs i x (by rw [hs]; exact v2); rw [hs, ← hp] at this; simpa using this
          have hzl : z ≤ min p 4 := by have := Dk.zr_le cs i x; rw [← hz, ← hp] at this; exact this
          have k0 : wr.cell? ⟨D, 0, none⟩ = some (.slice (some ⟨g0, 0, none⟩) n e0) := (blk_cell K4.out 0).trans rfl
          have CA := Aside0.mk (fun W (hb : Below wr.heap.size wr W) => choice75_int cs A4 c4 (2 * i + 1) (x.f0.size - s + 1) (2 * (i : Int) + 1) ((x.f0.size : Int) - (s : Int) + 1) (by omega) (by omega) W (Kd.C_below HR.out (below_step B4.out hb)) hc (by omega) (by omega))
          have CB := Aside0.mk (fun W (hb : Below wr.heap.size wr W) => choice75_int cs A4 c4 (2 * i + 2) (min p 4 + 1) (2 * (i : Int) + 2) (min (p : Int) 4 + 1) (by omega) (by omega) W (Kd.C_below HR.out (below_step B4.out hb)) hc (by omega) (by omega))
          rw [show chs cs (2 * i + 1) (x.f0.size - s + 1) = p from by rw [hp]; unfold Dk.kp; rw [hs]; rfl] at CA
          rw [show chs cs (2 * i + 2) (min p 4 + 1) = z from by rw [hz]; unfold Dk.zr; rw [← hp]] at CB
          obtain ⟨q, hq⟩ : ∃ q, q = s + p - z := ⟨_, rfl⟩
          obtain ⟨X', hX'⟩ : ∃ X', X' = x.f0.extract 0 q ++ (⟨#[0, 0, 0, 0]⟩ : ByteArray).extract 0 z := ⟨_, rfl⟩
          have hz4 : z ≤ 4 := by omega
          have hX2 : X'.size = s + p := by rw [hX', Dk.zeros4 hz4, ByteArray.size_append, ByteArray.size_extract, Dk.zeros_size]; omega
          have ET := Aside0.mk (show torn cs i d.ino[i] = ⟨X', ((s + p : Nat) : Int)⟩ from by
            rw [← hx, hX', Dk.zeros4 hz4, hq]; unfold Dk.torn; rw [← hp, ← hz, hs]; rfl)
          have HL := Aside0.mk hl
          have HH := Aside0.mk hh
          have hi0 : (0 : Int) ≤ (i : Int) := by omega
          have hi1 : (i : Int) < (n : Int) := by omega
          have hfo : Try.prog.follows Departure.mixedOrders = true := by kernel_rfl
          have E2 := Aside0.mk (show ∀ h : i < (Dk.tornTo cs d.ino i).length, (Dk.tornTo cs d.ino i)[i]'h = x from fun _ => e2)
          have XS := Aside0.mk hs
          have hTg : w.heap.size ≤ g0 := own_base (R67_own Q4.out) g0 rfl
          have hgD : g0 ≠ D := blk_ne hh K4.out (by decide)
          have hgS : g0 ≠ S := blk_ne hh S4.out (by decide)
          clear hx e2 hp hz hl hh v1 hs
          go_upto_region 10 with fail
          go_big_quiet_o ((go_at_call 75; exact Calls.quiet_of ((CA.out _ (pw_below_drewN (Below.refl _ _) _)).mono (fun e w' h => ⟨h.1, h.2.out⟩))))
          have bq := pw_below_drewN (Below.refl wr.heap.size wr) nq
          generalize wr.drewN nq = W1 at bq ⊢
          have BQ := Aside0.mk bq
          replace x0 := pw_cell_below bq x0
          replace x1 := pw_cell_below bq x1
          clear bq k0
          go_upto_region 12 with (go_at_call 75; refine (CB.out _ BQ.out).mono ?_; rintro e w2 ⟨rfl, hd⟩; have b2 := hd.below; replace x0 := pw_cell_below b2 x0; replace x1 := pw_cell_below b2 x1; have BQ2 := Aside0.mk (below_step BQ.out b2); clear hd b2)
          have hq1 : IntKind.i64.wrap ((s : Int) + (p : Int) - (z : Int)) = (q : Int) := by rw [IntKind.wrap_i64]; omega
          have hq4 : IntKind.i64.wrap ((s : Int) + (p : Int)) = (s : Int) + (p : Int) := by rw [IntKind.wrap_i64]; omega
          have hq2 : q ≤ x.f0.size := by omega
          have hq3 : (q : Int) ≤ (x.f0.size : Int) := by omega
          have hq0 : (0 : Int) ≤ (q : Int) := by omega
          have hzz0 : (0 : Int) ≤ (z : Int) := by omega
          have hzz4 : (z : Int) ≤ 4 := by omega
          have gf := blk_frozen (blk_below HH.out BQ2.out) (i * 2)
          have hadd := fun W => run_string_add_sum (P := Try.prog) W (x.f0.extract 0 q) ((⟨#[0, 0, 0, 0]⟩ : ByteArray).extract 0 z) (by rw [ByteArray.size_extract, ByteArray.size_extract]; have : (⟨#[0, 0, 0, 0]⟩ : ByteArray).size = 4 := rfl; omega)
          rw [← hX'] at hadd
          have HX' := Aside0.mk hX'
          clear hq hX'
          go_still_tail 19, (by kernel_rfl)
          change wpList _ _ _ _ _ w2.drew
          have b3 := below_step BQ2.out (below_drew (Below.refl w2.heap.size w2))
          replace x0 := pw_cell_below (below_drew (Below.refl w2.heap.size w2)) x0
          replace x1 := pw_cell_below (below_drew (Below.refl w2.heap.size w2)) x1
          generalize w2.drew = W3 at b3 x0 x1 ⊢
          have BW := Aside0.mk b3
          clear gf b3
          have gf := blk_frozen (blk_below HH.out BW.out) (i * 2)
          go_upto_region 13 with fail
          have K6 := Aside0.mk (blk_far (blk_below K4.out BW.out) (p := ⟨g0, i * 2, none⟩) (Ne.symm hgD) (.string X'))
          have S6 := Aside0.mk (blk_far (blk_below S4.out BW.out) (p := ⟨g0, i * 2, none⟩) (Ne.symm hgS) (.string X'))
          have H6 := Aside0.mk (blk_set (blk_below HH.out BW.out) (i * 2) (.string X'))
          have L6 := Aside0.mk (Kd.R_set (Kd.R_below L4.out BW.out) (blk_below HH.out BW.out) (by decide) (i * 2) (.string X'))
          have Q6 := Aside0.mk (R67_put (l' := (Dk.tornTo cs d.ino i).set i ⟨X', (s : Nat)⟩) (Kd.R_below Q4.out BW.out) HL.out (by rw [List.length_set]; exact HL.out) (i * 2) (.string X') (by
            rw [cs67_set0 _ i _ (by have := HL.out; omega), E2.out, XS.out]))
          have B6 := Aside0.mk ((below_step B4.out BW.out).setCell (p := ⟨g0, i * 2, none⟩) hTg (.string X'))
          generalize W3.setCell ⟨g0, i * 2, none⟩ (.string X') = W6 at K6 S6 H6 L6 Q6 B6 ⊢
          clear x0 x1 gf K4 S4 HH L4 Q4 B4 BW BQ BQ2 CA CB hadd hq1 hq4 hq2 hq3 hq0 hzz0 hzz4
          have y0 : W6.cell? ⟨g0, i * 2, none⟩ = some (.string X') := by
            have := (R67_cells Q6.out i (by rw [List.length_set]; have := HL.out; omega)).1
            rw [this]
            show some (Value.string (((Dk.tornTo cs d.ino i).set i ⟨X', (s : Nat)⟩)[i]'_).f0) = _
            rw [List.getElem_set_self]
          have y1 : W6.cell? ⟨g0, i * 2 + 1, none⟩ = some (.int .i64 (s : Nat)) := by
            have := (R67_cells Q6.out i (by rw [List.length_set]; have := HL.out; omega)).2
            rw [this]
            show some (Value.int .i64 (((Dk.tornTo cs d.ino i).set i ⟨X', (s : Nat)⟩)[i]'_).f1) = _
            rw [List.getElem_set_self]
          have yf := blk_frozen H6.out (i * 2 + 1)
          go_upto_region 14 with fail
          have Q7 := Aside0.mk (R67_put (l' := Dk.tornTo cs d.ino (i + 1)) Q6.out (by rw [List.length_set]; exact HL.out) (by rw [Dk.tornTo_length _ _ (by have := HN.out; omega)]; exact HN.out.symm) (i * 2 + 1) (.int .i64 ((s : Int) + (p : Int))) (by
            rw [cs67_set1 _ i _ (by rw [List.length_set]; have := HL.out; omega), List.getElem_set_self, List.set_set, ← Dk.tornTo_set cs d.ino (by have := HN.out; omega), ET.out, Int.natCast_add]))
          have K7 := Aside0.mk (blk_far K6.out (p := ⟨g0, i * 2 + 1, none⟩) (Ne.symm hgD) (.int .i64 ((s : Int) + (p : Int))))
          have S7 := Aside0.mk (blk_far S6.out (p := ⟨g0, i * 2 + 1, none⟩) (Ne.symm hgS) (.int .i64 ((s : Int) + (p : Int))))
          have L7 := Aside0.mk (Kd.R_set L6.out H6.out (by decide) (i * 2 + 1) (.int .i64 ((s : Int) + (p : Int))))
          have B7 := Aside0.mk (B6.out.setCell (p := ⟨g0, i * 2 + 1, none⟩) hTg (.int .i64 ((s : Int) + (p : Int))))
          generalize W6.setCell ⟨g0, i * 2 + 1, none⟩ (.int .i64 ((s : Int) + (p : Int))) = W7 at K7 S7 L7 Q7 B7 ⊢
          clear y0 y1 yf K6 S6 H6 L6 Q6 B6
          go_wp2
          go_roundg (n - i - 1)
          case measure => omega
          case rel => exact ⟨i + 1, by first | rfl | (simp; done), hlt, by omega, K7, S7, L7, Q7, B7⟩
        · have e1 : Dk.tornTo cs d.ino i = d.ino.mapIdx (torn cs) := Dk.tornTo_end cs d.ino (by have := HN.out; omega)
          have Q5 := Q4.out
          rw [e1] at Q5
          have E := Aside0.mk (show res = Dk.settle ⟨d.ino.mapIdx (torn cs), l', d.dur, d.ops⟩ from by
            rw [RES.out]; unfold Dk.crash; rw [← VB.out, if_pos rfl, ← KK.out, LL.out]; rfl)
          have DL := Dk.rep_ok (d.ops.take k) d.dur l' (d.ino.length - crt d.ops) V.out.dur (by rw [← LL.out]; congr 1; have := V.out.crt; omega)
          have hln : l'.length ≤ 200000 := by
            have h1 := Dk.rep_length (d.ops.take k) d.dur l' _ LL.out
            have h2 : (d.ops.take k).length ≤ d.ops.length := by rw [List.length_take]; omega
            omega
          have DL2 := (show ∀ x ∈ l', 0 ≤ x.f1 ∧ x.f1 < (d.ino.mapIdx (torn cs)).length from fun x hx => by
            have h1 := (DL.1.1 x hx).2
            have h2 : crt (d.ops.take k) ≤ crt d.ops := List.Sublist.countP_le (List.take_sublist k d.ops)
            have h3 := V.out.crt
            rw [List.length_mapIdx]
            omega)
          have k0 : wr.cell? ⟨D, 0, none⟩ = some (.slice B0 n e0) := (blk_cell K4.out 0).trans rfl
          have k1 : wr.cell? ⟨D, 1, none⟩ = some (.slice A' l'.length e') := (blk_cell K4.out 1).trans rfl
          have k2 : wr.cell? ⟨D, 2, none⟩ = some (.slice A2 d.dur.length c2) := (blk_cell K4.out 2).trans rfl
          have k3 : wr.cell? ⟨D, 3, none⟩ = some (.slice B3 d.ops.length e3) := (blk_cell K4.out 3).trans rfl
          have hmn : (d.ino.mapIdx (torn cs)).length = n := by rw [List.length_mapIdx]; exact HN.out.symm
          have cq := Kd.R_reads' Q5
          have cl := Kd.R_reads' L4.out
          rw [hmn] at cq
          have SC := (settle58_calls B0 e0 A' e' A2 c2 B3 e3 ⟨d.ino.mapIdx (torn cs), l', d.dur, d.ops⟩ wr (by rw [hmn]; exact cq.2.2) (by rw [hmn]; exact cq.2.1) cl.2.2 cl.2.1 ⟨by show (d.ino.mapIdx (torn cs)).length ≤ 200000; omega, hln, by show d.dur.length ≤ 200000; omega, by show d.ops.length ≤ 200000; omega⟩ DL2)
          rw [hmn] at SC
          have SCC := Aside0.mk SC
          clear e1 Q5 DL SC cq cl hmn DL2
          go_wp2_with fail
          refine SCC.out.mono ?_
          rintro e w5 ⟨v, rfl, h1, h2⟩
          obtain ⟨F0, g0, F1, g1, F2, g2, F3, g3, rfl⟩ := h1.slices
          have D7 := Aside0.mk (h1.lower B4.out.size)
          have B7 := Aside0.mk (below_step B4.out h2)
          have S7 := Aside0.mk (blk_below S4.out h2)
          clear h1 h2 k0 k1 k2 k3
          have s0 := (blk_cell S7.out 0).trans rfl
          have s1 := (blk_cell S7.out 1).trans rfl
          have s2 := (blk_cell S7.out 2).trans rfl
          have s3 := (blk_cell S7.out 3).trans rfl
          have f0 := blk_frozen S7.out 0
          have f1 := blk_frozen S7.out 1
          have f2 := blk_frozen S7.out 2
          have f3 := blk_frozen S7.out 3
          go_wp2
          refine bodyPost_ret (results_cell_row rfl _ _ S 47 _ (0, 0) _ rfl (put47 S7.out _ _ _ _) Try.underlying47 rfl (by kernel_rfl)) rfl ?_
          rw [E.out]
          exact ⟨_, rfl, D7.out.put47 S7.out _ _ _ _, below_put47 B7.out hTS _ _ _ _⟩
end Go.Proofs.Ytnaddmkaakdhoaa.J

end
