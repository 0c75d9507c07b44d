/-
  Texts of this claim, joined, without what the claim does not use: XDK
-/
import Derived.Deep.RegionWith
import Derived.Deep.DrawnRows
import Derived.Test.YtnaddmkaakdhoaaSCAk
section
namespace Go.Proofs.Ytnaddmkaakdhoaa.Dk
open J
def tornTo (cs : List Int) (l : List S67) (i : Nat) : List S67 := (l.take i).mapIdx (torn cs) ++ l.drop i
theorem tornTo_zero (cs : List Int) (l : List S67) : tornTo cs l 0 = l := by simp [tornTo]
theorem tornTo_length (cs : List Int) (l : List S67) {i : Nat} (h : i ≤ l.length) : (tornTo cs l i).length = l.length := by
  unfold tornTo
  rw [List.length_append, List.length_mapIdx, List.length_take, List.length_drop]
  omega
theorem tornTo_end (cs : List Int) (l : List S67) {i : Nat} (h : l.length ≤ i) : tornTo cs l i = l.mapIdx (torn cs) := by
  unfold tornTo
  rw [List.take_of_length_le h, List.drop_of_length_le h, List.append_nil]
theorem tornTo_get (cs : List Int) (l : List S67) {i : Nat} (h : i < l.length) : (tornTo cs l i)[i]'(by rw [tornTo_length cs l (by omega)]; exact h) = l[i] := by
  unfold tornTo
  rw [List.getElem_append_right (by simp; omega), List.getElem_drop]
  congr 1
  simp; omega
theorem tornTo_set (cs : List Int) (l : List S67) {i : Nat} (h : i < l.length) : (tornTo cs l i).set i (torn cs i l[i]) = tornTo cs l (i + 1) := by
  unfold tornTo
  rw [List.set_append_right _ _ (by simp; omega), List.take_succ_eq_append_getElem h, List.mapIdx_append, List.append_assoc, List.drop_eq_getElem_cons h]
  congr 1
  have e : ((l.take i).mapIdx (torn cs)).length = i := by rw [List.length_mapIdx, List.length_take]; omega
  rw [e, Nat.sub_self, List.set_cons_zero]
  have e3 : (l.take i).length = i := by rw [List.length_take]; omega
  simp [e3]
theorem rep_length : ∀ (a : List S49) (l l' : List S69) (m : Int), rep l m a = some l' → l'.length ≤ l.length + a.length
  | [], l, l', m, h => by
    obtain rfl : l = l' := by simpa [rep] using h
    simp
  | o :: a, l, l', m, h => by
    rw [rep_cons] at h
    split at h
    · split at h
      · have h1 := rep_length a _ l' _ h
        have h2 := chg_length l o m
        rw [List.length_cons]
        omega
      · cases h
    · cases h
end Go.Proofs.Ytnaddmkaakdhoaa.Dk
namespace Go.Proofs.Ytnaddmkaakdhoaa.J
open Go.RowKit Go.Proofs.YtnaddmkaakdhoaaW.PrintWords Go.Proofs.YtnaddmkaakdhoaaW.PrintLast Go.Proofs.YtnaddmkaakdhoaaW.PrintMore
open Dk (Srt crt rep repd valid Valid chs torn kp zr zeros)
set_option linter.unusedVariables false
set_option linter.unusedSimpArgs false
theorem choice71_int (cs : List Int) (A : Option Addr) (cc C i n : Nat) (I N : Int) (hI : I = (i : Nat)) (hN : N = (n : Nat)) (w : World) (hC : w.cell? ⟨C, 0, none⟩ = some (.slice A cs.length cc)) (hr : Kd.C (Kd.int .i64) w A cs.length cs) (hn : 0 < n) (hn2 : n ≤ 100000000) (hi : i ≤ 100000000) :
    Calls Try.prog 71 #[.int .i64 I, .int .i64 N, .pointer (some ⟨C, 0, none⟩)] w fun e w' => e = .returned (.int .i64 (chs cs i n : Nat)) ∧ w' = w := by
  subst hI
  subst hN
  exact choice71_calls cs A cc C i n w hC hr hn hn2 hi
theorem DR.newdir {w w1 : World} {T : Nat} {v0 v1 v2 v3 v1' : Value} {d : Dsk} {l' : List S69} (h : DR w T (.agg #[v0, v1, v2, v3]) d) (hb : Below w.heap.size w w1) (hT : T ≤ w.heap.size) (hr : Kd.R k69 69 w1 w.heap.size (fun _ => True) v1' l') : DR w1 T (.agg #[v0, v1', v2, v3]) ⟨d.ino, l', d.dur, d.ops⟩ := by
  obtain ⟨u0, u1, u2, u3, e1, h0, h1, h2, h3⟩ := h
  injection e1 with e1
  injection e1 with e1
  simp only [List.cons.injEq] at e1
  obtain ⟨rfl, rfl, rfl, rfl, _⟩ := e1
  have o2 := R69_own h2
  have or := R69_own hr
  refine ⟨_, _, _, _, rfl, Kd.R_below h0 hb, Kd.R_mono (Kd.R_lower (Kd.R_bound hr) hT) (fun k hk e => ?_), Kd.R_mono (Kd.R_below (Kd.R_bound h2) hb) (fun k hk e => ?_), Kd.R_below h3 hb⟩
  · have := own_lt o2 k e.symm
    have := hk.2.1
    omega
  · have := own_base or k e.symm
    have := hk.2.2.1
    omega
theorem C_take {α : Type} {k : Kd α} {w : World} {A : Option Addr} {n m : Nat} {l : List α} (h : k.C w A n l) (hm : m ≤ n) : k.C w A m (l.take m) := by
  obtain ⟨h1, h2, h3⟩ := h
  refine ⟨by rw [List.length_take]; omega, by omega, fun h0 => ?_⟩
  obtain ⟨ad, e, h4⟩ := h3 (by omega)
  refine ⟨ad, e, fun j p hj => h4 j p ?_⟩
  rw [List.getElem?_take] at hj
  split at hj
  · exact hj
  · cases hj
attribute [local go_sem ↓] Go.wp_at_zero Go.wp_at_succ
set_option maxHeartbeats 8000000 in
set_option maxRecDepth 100000 in
theorem crash_calls (a : Value) (d : Dsk) (A4 : Option Addr) (c4 : Nat) (cs : List Int) (w : World) (hd : DC w a d) (hr : Kd.C (Kd.int .i64) w A4 cs.length cs) (hc : cs.length ≤ c4) (hs : Sml 40000 d) :
    Calls Try.prog 41 #[a, .slice A4 cs.length c4] w fun e w' => ∃ v, e = .returned v ∧ DR w' w.heap.size v (Dk.crash d cs) ∧ Below w.heap.size w w' := by
  have DD := Aside0.mk hd
  obtain ⟨A0, c0, A1, c1, A2, c2, A3, c3, rfl, ⟨r0, l0⟩, ⟨r1, l1⟩, ⟨r2, l2⟩, ⟨r3, l3⟩⟩ := hd
  have hs' := Aside0.mk hs
  obtain ⟨n0, n1, n2, n3⟩ := hs
  have HR := Aside0.mk hr
  obtain ⟨res, hres⟩ : ∃ res, res = Dk.crash d cs := ⟨_, rfl⟩
  rw [← hres]
  have RES := Aside0.mk hres
  obtain ⟨b, hb⟩ : ∃ b, b = valid d := ⟨_, rfl⟩
  have VC := Aside0.mk (fun w' hd' => validate_calls (.agg #[.slice A0 d.ino.length c0, .slice A1 d.dir.length c1, .slice A2 d.dur.length c2, .slice A3 d.ops.length c3]) d w' hd' ⟨by omega, by omega, by omega, by omega⟩)
  rw [← hb] at VC
  have VB := Aside0.mk hb
  clear hr hres hb r0 r1 r2 r3
  go_enter Try.func41, Try.ntmps41
  go_wp2_with fail
  have hB := (((Below.refl w.heap.size w).alloc (Nat.le_refl _) (.cells #[.slice A0 d.ino.length c0, .slice A1 d.dir.length c1, .slice A2 d.dur.length c2, .slice A3 d.ops.length c3] 47)).alloc (by simp) (.cells #[.slice A4 cs.length c4] 22)).alloc (by simp; omega) (.cells #[.slice none 0 0, .slice none 0 0, .slice none 0 0, .slice none 0 0] 47)
  have hK := blk_alloc (blk_alloc (blk_new w (.cells #[.slice A0 d.ino.length c0, .slice A1 d.dir.length c1, .slice A2 d.dur.length c2, .slice A3 d.ops.length c3] 47)) (.cells #[.slice A4 cs.length c4] 22)) (.cells #[.slice none 0 0, .slice none 0 0, .slice none 0 0, .slice none 0 0] 47)
  have hC := blk_alloc (blk_new (w.alloc (.cells #[.slice A0 d.ino.length c0, .slice A1 d.dir.length c1, .slice A2 d.dur.length c2, .slice A3 d.ops.length c3] 47)) (.cells #[.slice A4 cs.length c4] 22)) (.cells #[.slice none 0 0, .slice none 0 0, .slice none 0 0, .slice none 0 0] 47)
  have hS := blk_new ((w.alloc (.cells #[.slice A0 d.ino.length c0, .slice A1 d.dir.length c1, .slice A2 d.dur.length c2, .slice A3 d.ops.length c3] 47)).alloc (.cells #[.slice A4 cs.length c4] 22)) (.cells #[.slice none 0 0, .slice none 0 0, .slice none 0 0, .slice none 0 0] 47)
  rw [show (w.alloc (.cells #[.slice A0 d.ino.length c0, .slice A1 d.dir.length c1, .slice A2 d.dur.length c2, .slice A3 d.ops.length c3] 47)).heap.size = w.heap.size + 1 by simp] at hC
  rw [show ((w.alloc (.cells #[.slice A0 d.ino.length c0, .slice A1 d.dir.length c1, .slice A2 d.dur.length c2, .slice A3 d.ops.length c3] 47)).alloc (.cells #[.slice A4 cs.length c4] 22)).heap.size = w.heap.size + 1 + 1 by simp] at hS
  generalize ((w.alloc (.cells #[.slice A0 d.ino.length c0, .slice A1 d.dir.length c1, .slice A2 d.dur.length c2, .slice A3 d.ops.length c3] 47)).alloc (.cells #[.slice A4 cs.length c4] 22)).alloc (.cells #[.slice none 0 0, .slice none 0 0, .slice none 0 0, .slice none 0 0] 47) = W0 at hB hK hC hS ⊢
  refine (VC.out W0 (DD.out.below hB)).mono ?_
  rintro e w1 ⟨rfl, hb1⟩
  have HB := Aside0.mk (below_step hB hb1)
  have HK := Aside0.mk (blk_below hK hb1)
  have HC := Aside0.mk (blk_below hC hb1)
  have HS := Aside0.mk (blk_below hS hb1)
  clear hB hK hC hS hb1 VC
  obtain ⟨D, hD⟩ : ∃ D, D = w.heap.size := ⟨_, rfl⟩
  obtain ⟨C, hC⟩ : ∃ C, C = w.heap.size + 1 := ⟨_, rfl⟩
  obtain ⟨S, hS⟩ : ∃ S, S = w.heap.size + 1 + 1 := ⟨_, rfl⟩
  rw [← hS] at HS ⊢
  rw [← hC] at HC ⊢
  rw [← hD] at HK ⊢
  have hTD : w.heap.size ≤ D := by omega
  have hTS : w.heap.size ≤ S := by omega
  have hDS : D ≠ S := by omega
  have hSD : S ≠ D := by omega
  have hCD : C ≠ D := by omega
  have hDC : D ≠ C := by omega
  have hCS : C ≠ S := by omega
  clear hD hC hS
  cases b with
  | false =>
    have E := Aside0.mk (show res = Dk.E0 from by rw [RES.out]; unfold Dk.crash; rw [← VB.out]; rfl)
    have s0 := (blk_cell HS.out 0).trans rfl
    have s1 := (blk_cell HS.out 1).trans rfl
    have s2 := (blk_cell HS.out 2).trans rfl
    have s3 := (blk_cell HS.out 3).trans rfl
    have f0 := blk_frozen HS.out 0
    have f1 := blk_frozen HS.out 1
    have f2 := blk_frozen HS.out 2
    have f3 := blk_frozen HS.out 3
    go_wp2
    refine bodyPost_ret (results_cell_row rfl _ _ S 47 _ (0, 0) _ rfl (put47 HS.out _ _ _ _) Try.underlying47 rfl (by kernel_rfl)) rfl ?_
    rw [E.out]
    exact ⟨_, rfl, (DR.zero _ _).put47 HS.out _ _ _ _, below_put47 HB.out hTS _ _ _ _⟩
  | true =>
    have V := Aside0.mk (Dk.valid_of.1 VB.out.symm)
    have k0 := (blk_cell HK.out 0).trans rfl
    have k1 := (blk_cell HK.out 1).trans rfl
    have k2 := (blk_cell HK.out 2).trans rfl
    have k3 := (blk_cell HK.out 3).trans rfl
    have g0 := blk_frozen HK.out 0
    have g1 := blk_frozen HK.out 1
    have g2 := blk_frozen HK.out 2
    have g3 := blk_frozen HK.out 3
    go_wp2_with fail
    refine (clone_calls _ d ⟨by have := hs'.out.1; omega, by omega, by omega, by omega⟩ w1 (DD.out.below HB.out)).mono ?_
    rintro e w2 ⟨v, rfl, h1, h2⟩
    obtain ⟨B0, e0, B1, e1, B2, e2, B3, e3, rfl⟩ := h1.slices
    have D2 := Aside0.mk (h1.lower HB.out.size)
    have HB2 := Aside0.mk (below_step HB.out h2)
    have K2 := Aside0.mk (blk_below HK.out h2)
    have C2 := Aside0.mk (blk_below HC.out h2)
    have S2 := Aside0.mk (blk_below HS.out h2)
    clear h1 h2 k0 k1 k2 k3 g0 g1 g2 g3
    have k0 := (blk_cell K2.out 0).trans rfl
    have k1 := (blk_cell K2.out 1).trans rfl
    have k2 := (blk_cell K2.out 2).trans rfl
    have k3 := (blk_cell K2.out 3).trans rfl
    have g0 := blk_frozen K2.out 0
    have g1 := blk_frozen K2.out 1
    have g2 := blk_frozen K2.out 2
    have g3 := blk_frozen K2.out 3
    go_upto_region 5 with fail
    have K3 := Aside0.mk (put47 K2.out (.slice B0 d.ino.length e0) (.slice B1 d.dir.length e1) (.slice B2 d.dur.length e2) (.slice B3 d.ops.length e3))
    have C3 := Aside0.mk (far47 C2.out hCD (.slice B0 d.ino.length e0) (.slice B1 d.dir.length e1) (.slice B2 d.dur.length e2) (.slice B3 d.ops.length e3))
    have S3 := Aside0.mk (far47 S2.out hSD (.slice B0 d.ino.length e0) (.slice B1 d.dir.length e1) (.slice B2 d.dur.length e2) (.slice B3 d.ops.length e3))
    have D3 := Aside0.mk (D2.out.put47 K2.out (.slice B0 d.ino.length e0) (.slice B1 d.dir.length e1) (.slice B2 d.dur.length e2) (.slice B3 d.ops.length e3))
    have B3' := Aside0.mk (below_put47 HB2.out hTD (.slice B0 d.ino.length e0) (.slice B1 d.dir.length e1) (.slice B2 d.dur.length e2) (.slice B3 d.ops.length e3))
    generalize (((w2.setCell ⟨D, 0, none⟩ (.slice B0 d.ino.length e0)).setCell ⟨D, 1, none⟩ (.slice B1 d.dir.length e1)).setCell ⟨D, 2, none⟩ (.slice B2 d.dur.length e2)).setCell ⟨D, 3, none⟩ (.slice B3 d.ops.length e3) = W3 at K3 C3 S3 D3 B3' ⊢
    clear k0 k1 k2 k3 g0 g1 g2 g3 K2 S2 C2 D2 HB2 HB HK HS HC
    have k0 : W3.cell? ⟨D, 0, none⟩ = some (.slice B0 d.ino.length e0) := (blk_cell K3.out 0).trans rfl
    have k1 : W3.cell? ⟨D, 1, none⟩ = some (.slice B1 d.dir.length e1) := (blk_cell K3.out 1).trans rfl
    have k2 : W3.cell? ⟨D, 2, none⟩ = some (.slice B2 d.dur.length e2) := (blk_cell K3.out 2).trans rfl
    have k3 : W3.cell? ⟨D, 3, none⟩ = some (.slice B3 d.ops.length e3) := (blk_cell K3.out 3).trans rfl
    have g1 := blk_frozen K3.out 1
    have kc : W3.cell? ⟨C, 0, none⟩ = some (.slice A4 cs.length c4) := (blk_cell C3.out 0).trans rfl
    have CH := Aside0.mk (fun W (hb : Below W3.heap.size W3 W) => choice71_int cs A4 c4 C 0 (d.ops.length + 1) 0 ((d.ops.length : Int) + 1) rfl (by omega) W (pw_cell_below hb kc) (Kd.C_below HR.out (below_step B3'.out hb)) (by omega) (by omega) (by omega))
    obtain ⟨k, hk⟩ : ∃ k, k = chs cs 0 (d.ops.length + 1) := ⟨_, rfl⟩
    rw [← hk] at CH
    have hkl : k ≤ d.ops.length := by have := Dk.chs_lt cs 0 (show 0 < d.ops.length + 1 by omega); omega
    have KK := Aside0.mk hk
    have hl : (d.ops.take k).length = k := by rw [List.length_take]; omega
    have hdl : d.dur.length ≤ 100000 := by omega
    have q3 := D3.out.rows.2.2.2
    have q4 : Kd.C k49 W3 B3 d.ops.length d.ops := by obtain ⟨A, c', e, _, h⟩ := Kd.R_reads q3; injection e with e1 e2 _; subst e1; exact h
    have q5 : d.ops.length ≤ e3 := by obtain ⟨A, c', e, h, _⟩ := Kd.R_reads q3; injection e with _ _ e3; omega
    have RC0 := (fun W (hb : Below W3.heap.size W3 W) => replay_calls (.agg #[.slice B0 d.ino.length e0, .slice B1 d.dir.length e1, .slice B2 d.dur.length e2, .slice B3 d.ops.length e3]) d B3 e3 (d.ops.take k) W (D3.out.below hb).reads (by rw [hl]; exact C_take (Kd.C_below q4 hb) hkl) (by rw [hl]; omega) V.out.dur.2.1 (by omega) (by omega) (by omega))
    rw [hl] at RC0
    obtain ⟨l', hl'⟩ : ∃ l', Dk.rep d.dur ((d.ino.length : Int) - (crt d.ops : Nat)) (d.ops.take k) = some l' := Dk.rep_take (by have := V.out.rep; have h3 := V.out.crt; rwa [show ((d.ino.length - crt d.ops : Nat) : Int) = (d.ino.length : Int) - (crt d.ops : Nat) by omega] at this) k
    rw [hl'] at RC0
    simp only [repd] at RC0
    have RC := Aside0.mk RC0
    clear RC0
    have LL := Aside0.mk hl'
    have hkk0 : (0 : Int) ≤ (k : Int) := by omega
    have hkk1 : (k : Int) ≤ (d.ops.length : Int) := by omega
    have hkk2 : (k : Int) ≤ (e3 : Int) := by omega
    have hops : IntKind.i64.wrap ((d.ops.length : Int) + 1) = (d.ops.length : Int) + 1 := by rw [IntKind.wrap_i64]; omega
    clear hk hl' hl q3 q4
    go_cut [31] (fun c5 wx => ∃ (A' : Option Addr) (e' : Nat), c5 = .bool true ∧ Aside0 (wx.heap[D]? = some (.cells #[.slice B0 d.ino.length e0, .slice A' l'.length e', .slice B2 d.dur.length e2, .slice B3 d.ops.length e3] 47 (0, 0))) ∧ Aside0 (wx.heap[C]? = some (.cells #[.slice A4 cs.length c4] 22 (0, 0))) ∧ Aside0 (wx.heap[S]? = some (.cells #[.slice none 0 0, .slice none 0 0, .slice none 0 0, .slice none 0 0] 47 (0, 0))) ∧ Aside0 (DR wx w.heap.size (.agg #[.slice B0 d.ino.length e0, .slice A' l'.length e', .slice B2 d.dur.length e2, .slice B3 d.ops.length e3]) ⟨d.ino, l', d.dur, d.ops⟩) ∧ Aside0 (Below w.heap.size w wx))
    case first =>
      have BW := Aside0.mk (Below.refl W3.heap.size W3)
      go_region_with
        (first
          | (go_at_call 71; refine (CH.out _ ?_).mono ?_; exact (Below.refl W3.heap.size W3).drew; rintro e w' ⟨rfl, rfl⟩)
          | (go_at_call 65; refine (RC.out _ ?_).mono ?_; exact (Below.refl W3.heap.size W3).drew; rintro e w4 ⟨v', rfl, h1, h2⟩; obtain ⟨A', e', rfl⟩ := Kd.R_slice h1; have BW2 := Aside0.mk (below_step (Below.refl W3.heap.size W3).drew h2); clear BW; have BW := BW2; clear BW2; have H1 := Aside0.mk h1; have k1' := (blk_cell (blk_below K3.out BW.out) 1).trans rfl; have g1' := blk_frozen (blk_below K3.out BW.out) 1; clear h1 h2))
      all_goals
        go_wp2
        go_meet
        exact ⟨A', e', rfl, ⟨blk_put (blk_below K3.out BW.out) 1 _ rfl⟩, ⟨blk_far (blk_below C3.out BW.out) (p := ⟨D, 1, none⟩) hCD _⟩, ⟨blk_far (blk_below S3.out BW.out) (p := ⟨D, 1, none⟩) hSD _⟩, ⟨(D3.out.newdir BW.out B3'.out.size H1.out).set47 (blk_below K3.out BW.out) 1 _⟩, ⟨(below_step B3'.out BW.out).setCell (p := ⟨D, 1, none⟩) hTD _⟩⟩
    case rest =>
      obtain ⟨A', e', rfl, K4, C4, S4, D4, B4⟩ := hcut
      clear K3 C3 S3 D3 B3' k0 k1 k2 k3 g1 kc CH RC
      obtain ⟨n, hn⟩ : ∃ n, n = d.ino.length := ⟨_, rfl⟩
      have HN := Aside0.mk hn
      have VI := Aside0.mk V.out.ino
      rw [← hn] at K4 D4
      have hn1 : n ≤ 40000 := by omega
      have k0 : wc.cell? ⟨D, 0, none⟩ = some (.slice B0 n e0) := (blk_cell K4.out 0).trans rfl
      clear hn hops hkk0 hkk1 hkk2 n0
      go_wp2_with fail
      go_loopg [36] n (fun kx s36 wr => ∃ i : Nat, s36 = .int .i64 i ∧ i ≤ n ∧ n - i ≤ kx ∧ Aside0 (wr.heap[D]? = some (.cells #[.slice B0 n e0, .slice A' l'.length e', .slice B2 d.dur.length e2, .slice B3 d.ops.length e3] 47 (0, 0))) ∧ Aside0 (wr.heap[C]? = some (.cells #[.slice A4 cs.length c4] 22 (0, 0))) ∧ Aside0 (wr.heap[S]? = some (.cells #[.slice none 0 0, .slice none 0 0, .slice none 0 0, .slice none 0 0] 47 (0, 0))) ∧ Aside0 (DR wr w.heap.size (.agg #[.slice B0 n e0, .slice A' l'.length e', .slice B2 d.dur.length e2, .slice B3 d.ops.length e3]) ⟨Dk.tornTo cs d.ino i, l', d.dur, d.ops⟩) ∧ Aside0 (Below w.heap.size w wr))
      case atStart => exact ⟨0, rfl, Nat.zero_le _, by omega, K4, C4, S4, ⟨by rw [Dk.tornTo_zero]; exact D4.out⟩, B4⟩
      case round =>
        clear K4 C4 S4 D4 B4 k0
        obtain ⟨i, rfl, hi, hk, K4, C4, S4, D4, B4⟩ := hrel
        by_cases hlt : i < n
        · have hil : i < d.ino.length := by have := HN.out; omega
          have hl : (Dk.tornTo cs d.ino i).length = n := by rw [Dk.tornTo_length _ _ (by omega)]; exact HN.out.symm
          obtain ⟨g0, cur, e1, hh⟩ := R67_block D4.out.rows.1 (by show 0 < (Dk.tornTo cs d.ino i).length; omega)
          subst e1
          obtain ⟨x0, x1⟩ := R67_cells D4.out.rows.1 i (by show i < (Dk.tornTo cs d.ino i).length; omega)
          obtain ⟨x, hx⟩ : ∃ x, x = d.ino[i] := ⟨_, rfl⟩
          obtain ⟨v1, v2, v3⟩ := VI.out x (hx ▸ List.getElem_mem hil)
          have e2 : (Dk.tornTo cs d.ino i)[i] = x := by rw [Dk.tornTo_get _ _ hil, hx]
          replace x0 : wr.cell? ⟨g0, i * 2, none⟩ = some (.string x.f0) := by rw [← e2]; exact x0
          replace x1 : wr.cell? ⟨g0, i * 2 + 1, none⟩ = some (.int .i64 x.f1) := by rw [← e2]; exact x1
          obtain ⟨s, hs⟩ : ∃ s : Nat, x.f1 = (s : Int) := ⟨x.f1.toNat, (Int.toNat_of_nonneg v1).symm⟩
          rw [hs] at x1 v2
          have hsz : s ≤ x.f0.size := by omega
          obtain ⟨p, hp⟩ : ∃ p, p = kp cs i x := ⟨_, rfl⟩
          obtain ⟨z, hz⟩ : ∃ z, z = zr cs i x := ⟨_, rfl⟩
          have hpl : s + p ≤ x.f0.size := by have := Dk.kp_le cs i x (by rw [hs]; exact v2); rw [hs, ← hp] at this; simpa using this
          have hzl : z ≤ min p 4 := by have := Dk.zr_le cs i x; rw [← hz, ← hp] at this; exact this
          have kc : wr.cell? ⟨C, 0, none⟩ = some (.slice A4 cs.length c4) := (blk_cell C4.out 0).trans rfl
          have k0 : wr.cell? ⟨D, 0, none⟩ = some (.slice (some ⟨g0, 0, none⟩) n e0) := (blk_cell K4.out 0).trans rfl
          have CA := Aside0.mk (fun W (hb : Below wr.heap.size wr W) => choice71_int cs A4 c4 C (2 * i + 1) (x.f0.size - s + 1) (2 * (i : Int) + 1) ((x.f0.size : Int) - (s : Int) + 1) (by omega) (by omega) W (pw_cell_below hb kc) (Kd.C_below HR.out (below_step B4.out hb)) (by omega) (by omega) (by omega))
          have CB := Aside0.mk (fun W (hb : Below wr.heap.size wr W) => choice71_int cs A4 c4 C (2 * i + 2) (min p 4 + 1) (2 * (i : Int) + 2) (min (p : Int) 4 + 1) (by omega) (by omega) W (pw_cell_below hb kc) (Kd.C_below HR.out (below_step B4.out hb)) (by omega) (by omega) (by omega))
          rw [show chs cs (2 * i + 1) (x.f0.size - s + 1) = p from by rw [hp]; unfold Dk.kp; rw [hs]; rfl] at CA
          rw [show chs cs (2 * i + 2) (min p 4 + 1) = z from by rw [hz]; unfold Dk.zr; rw [← hp]] at CB
          have ET := Aside0.mk (show torn cs i d.ino[i] = ⟨x.f0.extract 0 (s + p - z) ++ zeros z, ((s + p : Nat) : Int)⟩ from by
            rw [← hx]; unfold Dk.torn; rw [← hp, ← hz, hs]; rfl)
          have HL := Aside0.mk hl
          have HH := Aside0.mk hh
          have hi0 : (0 : Int) ≤ (i : Int) := by omega
          have hi1 : (i : Int) < (n : Int) := by omega
          have hfo : Try.prog.follows Departure.mixedOrders = true := by kernel_rfl
          have E2 := Aside0.mk (show ∀ h : i < (Dk.tornTo cs d.ino i).length, (Dk.tornTo cs d.ino i)[i]'h = x from fun _ => e2)
          have XS := Aside0.mk hs
          have XI := Aside0.mk hx
          clear hx e2 hp hz hl hh v1 hs
          go_upto_region 10 with fail
          go_big_quiet_o ((go_at_call 71; exact Calls.quiet_of_same (CA.out _ (pw_below_drewN (Below.refl _ _) _))))
          have bq := pw_below_drewN (Below.refl wr.heap.size wr) nq
          generalize wr.drewN nq = W1 at bq ⊢
          have BQ := Aside0.mk bq
          replace x0 := pw_cell_below bq x0
          replace x1 := pw_cell_below bq x1
          clear bq k0 kc
          go_upto_region 12 with (go_at_call 71; refine (CB.out _ BQ.out).mono ?_; rintro e w' ⟨rfl, rfl⟩)
          go_upto_region 13 with fail
          obtain ⟨Z, hZ⟩ : ∃ Z, Z = zeros z := ⟨_, rfl⟩
          have RZ := Aside0.mk (fun W => Try.strings_Repeat ⟨#[0]⟩ z W (by omega) (by show 1 * z ≤ _; omega))
          have RZ2 := Aside0.mk (show ∀ W, Calls Try.prog 73 #[.string ⟨#[0]⟩, .int .i64 (z : Nat)] W fun e w' => e = .returned (.string Z) ∧ Below W.heap.size W w' from fun W => by rw [hZ]; exact RZ.out W)
          have hZs : Z.size = z := by rw [hZ, Dk.zeros_size]
          rw [← hZ] at ET
          obtain ⟨q, hq⟩ : ∃ q, q = s + p - z := ⟨_, rfl⟩
          have hq1 : IntKind.i64.wrap ((s : Int) + (p : Int) - (z : Int)) = (q : Int) := by rw [IntKind.wrap_i64]; omega
          have hq4 : IntKind.i64.wrap ((s : Int) + (p : Int)) = (s : Int) + (p : Int) := by rw [IntKind.wrap_i64]; omega
          have hq2 : q ≤ x.f0.size := by omega
          have hq3 : (q : Int) ≤ (x.f0.size : Int) := by omega
          have hq0 : (0 : Int) ≤ (q : Int) := by omega
          rw [← hq] at ET
          have hxs : x.f0.size ≤ 1048576 := v3
          have gf := blk_frozen (blk_below HH.out BQ.out) (i * 2)
          clear hZ RZ hq
          have hadd := fun W => run_string_add_sum (P := Try.prog) W (x.f0.extract 0 q) Z (by rw [ByteArray.size_extract]; omega)
          go_region_with
            (first | (go_at_call 73; refine (RZ2.out _).mono ?_; rintro e w5 ⟨rfl, hb5⟩; have B5 := Aside0.mk (below_step (Below.refl w'.heap.size w').drew hb5); have x05 := pw_cell_below B5.out x0; have gf5 := blk_frozen (blk_below (blk_below HH.out BQ.out) B5.out) (i * 2); clear hb5))
          all_goals
            have BW := Aside0.mk (below_step BQ.out B5.out)
            have D5 := Aside0.mk ((D4.out.below BW.out).ino (l' := (Dk.tornTo cs d.ino i).set i ⟨x.f0.extract 0 q ++ Z, (s : Nat)⟩) (blk_below HH.out BW.out) HL.out (by rw [List.length_set]; exact HL.out) (i * 2) (.string (x.f0.extract 0 q ++ Z)) (by
              show (cs67 (Dk.tornTo cs d.ino i)).set _ _ = _
              rw [cs67_set0 _ i _ (by have := HL.out; omega), E2.out, XS.out]))
            have H6 := Aside0.mk (blk_set (blk_below HH.out BW.out) (i * 2) (.string (x.f0.extract 0 q ++ Z)))
            have K6 := Aside0.mk (blk_far (blk_below K4.out BW.out) (p := ⟨g0, i * 2, none⟩) (blk_ne (blk_below K4.out BW.out) (blk_below HH.out BW.out) (by decide)) (.string (x.f0.extract 0 q ++ Z)))
            have C6 := Aside0.mk (blk_far (blk_below C4.out BW.out) (p := ⟨g0, i * 2, none⟩) (blk_ne (blk_below C4.out BW.out) (blk_below HH.out BW.out) (by decide)) (.string (x.f0.extract 0 q ++ Z)))
            have S6 := Aside0.mk (blk_far (blk_below S4.out BW.out) (p := ⟨g0, i * 2, none⟩) (blk_ne (blk_below S4.out BW.out) (blk_below HH.out BW.out) (by decide)) (.string (x.f0.extract 0 q ++ Z)))
            have hTg : w.heap.size ≤ g0 := own_base (R67_own D4.out.rows.1) g0 rfl
            have B6 := Aside0.mk ((below_step B4.out BW.out).setCell (p := ⟨g0, i * 2, none⟩) hTg (.string (x.f0.extract 0 q ++ Z)))
            generalize w5.setCell ⟨g0, i * 2, none⟩ (.string (x.f0.extract 0 q ++ Z)) = W6 at D5 H6 K6 C6 S6 B6 ⊢
            have y1 : W6.cell? ⟨g0, i * 2 + 1, none⟩ = some (.int .i64 (s : Nat)) := by
              have := (R67_cells D5.out.rows.1 i (by show i < ((Dk.tornTo cs d.ino i).set i _).length; rw [List.length_set]; have := HL.out; omega)).2
              rw [this]
              show some (Value.int .i64 (((Dk.tornTo cs d.ino i).set i ⟨x.f0.extract 0 q ++ Z, (s : Nat)⟩)[i]'_).f1) = _
              rw [List.getElem_set_self]
            have yf := blk_frozen H6.out (i * 2 + 1)
            have D7 := Aside0.mk (D5.out.ino (l' := Dk.tornTo cs d.ino (i + 1)) H6.out (by show ((Dk.tornTo cs d.ino i).set i _).length = n; rw [List.length_set]; exact HL.out) (by rw [Dk.tornTo_length _ _ (by have := HN.out; omega)]; exact HN.out.symm) (i * 2 + 1) (.int .i64 ((s : Int) + (p : Int))) (by
              show (cs67 ((Dk.tornTo cs d.ino i).set i _)).set _ _ = _
              rw [cs67_set1 _ i _ (by rw [List.length_set]; have := HL.out; omega), List.getElem_set_self, List.set_set, ← Dk.tornTo_set cs d.ino (by have := HN.out; omega), ET.out, Int.natCast_add]))
            have K7 := Aside0.mk (blk_far K6.out (p := ⟨g0, i * 2 + 1, none⟩) (blk_ne K6.out H6.out (by decide)) (.int .i64 ((s : Int) + (p : Int))))
            have C7 := Aside0.mk (blk_far C6.out (p := ⟨g0, i * 2 + 1, none⟩) (blk_ne C6.out H6.out (by decide)) (.int .i64 ((s : Int) + (p : Int))))
            have S7 := Aside0.mk (blk_far S6.out (p := ⟨g0, i * 2 + 1, none⟩) (blk_ne S6.out H6.out (by decide)) (.int .i64 ((s : Int) + (p : Int))))
            have B7 := Aside0.mk (B6.out.setCell (p := ⟨g0, i * 2 + 1, none⟩) hTg (.int .i64 ((s : Int) + (p : Int))))
            clear x0 x1 x05 gf gf5 D5 H6 K6 C6 S6 B6 hTg
            go_wp2
            go_roundg (n - i - 1)
            case measure => omega
            case rel => exact ⟨i + 1, by first | rfl | (simp; done), hlt, by omega, K7, C7, S7, D7, B7⟩
        · have e1 : Dk.tornTo cs d.ino i = d.ino.mapIdx (torn cs) := Dk.tornTo_end cs d.ino (by have := HN.out; omega)
          have D5 := D4.out
          rw [e1] at D5
          have E := Aside0.mk (show res = Dk.settle ⟨d.ino.mapIdx (torn cs), l', d.dur, d.ops⟩ from by
            rw [RES.out]; unfold Dk.crash; rw [← VB.out, if_pos rfl, ← KK.out, LL.out]; rfl)
          have D6 := Aside0.mk D5
          have DL := Dk.rep_ok (d.ops.take k) d.dur l' (d.ino.length - crt d.ops) V.out.dur (by rw [← LL.out]; congr 1; have := V.out.crt; omega)
          have hln := Aside0.mk (show l'.length ≤ 200000 from by
            have h1 := Dk.rep_length (d.ops.take k) d.dur l' _ LL.out
            have h2 : (d.ops.take k).length ≤ d.ops.length := by rw [List.length_take]; omega
            omega)
          have DL2 := Aside0.mk (show ∀ x ∈ l', 0 ≤ x.f1 ∧ x.f1 < (d.ino.mapIdx (torn cs)).length from fun x hx => by
            have h1 := (DL.1.1 x hx).2
            have h2 : crt (d.ops.take k) ≤ crt d.ops := List.Sublist.countP_le (List.take_sublist k d.ops)
            have h3 := V.out.crt
            rw [List.length_mapIdx]
            omega)
          have k0 : wr.cell? ⟨D, 0, none⟩ = some (.slice B0 n e0) := (blk_cell K4.out 0).trans rfl
          have k1 : wr.cell? ⟨D, 1, none⟩ = some (.slice A' l'.length e') := (blk_cell K4.out 1).trans rfl
          have k2 : wr.cell? ⟨D, 2, none⟩ = some (.slice B2 d.dur.length e2) := (blk_cell K4.out 2).trans rfl
          have k3 : wr.cell? ⟨D, 3, none⟩ = some (.slice B3 d.ops.length e3) := (blk_cell K4.out 3).trans rfl
          clear e1 D5 D4 DL
          go_wp2_with fail
          refine (settle_calls w.heap.size _ ⟨d.ino.mapIdx (torn cs), l', d.dur, d.ops⟩ wr D6.out B4.out.size ⟨by show (d.ino.mapIdx (torn cs)).length ≤ 200000; rw [List.length_mapIdx]; have := hs'.out.1; omega, hln.out, by show d.dur.length ≤ 200000; omega, by show d.ops.length ≤ 200000; omega⟩ DL2.out).mono ?_
          rintro e w5 ⟨v, rfl, h1, h2, h3⟩
          obtain ⟨F0, g0, F1, g1, F2, g2, F3, g3, rfl⟩ := h1.slices
          have D7 := Aside0.mk h1
          have B7 := Aside0.mk (B4.out.trans h2)
          have S7 := Aside0.mk (h3 _ _ _ S4.out (by decide))
          clear h1 h2 h3 k0 k1 k2 k3
          have s0 := (blk_cell S7.out 0).trans rfl
          have s1 := (blk_cell S7.out 1).trans rfl
          have s2 := (blk_cell S7.out 2).trans rfl
          have s3 := (blk_cell S7.out 3).trans rfl
          have f0 := blk_frozen S7.out 0
          have f1 := blk_frozen S7.out 1
          have f2 := blk_frozen S7.out 2
          have f3 := blk_frozen S7.out 3
          go_wp2
          refine bodyPost_ret (results_cell_row rfl _ _ S 47 _ (0, 0) _ rfl (put47 S7.out _ _ _ _) Try.underlying47 rfl (by kernel_rfl)) rfl ?_
          rw [E.out]
          exact ⟨_, rfl, D7.out.put47 S7.out _ _ _ _, below_put47 B7.out hTS _ _ _ _⟩
end Go.Proofs.Ytnaddmkaakdhoaa.J

end
