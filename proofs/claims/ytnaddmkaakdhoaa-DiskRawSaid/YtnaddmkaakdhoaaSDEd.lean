/-
  Texts of this claim, joined, without what the claim does not use: XB
-/
import Derived.Test.YtnaddmkaakdhoaaSCAn
import Derived.Test.YtnaddmkaakdhoaaSDEb
import Derived.Test.YtnaddmkaakdhoaaSDEc
section
namespace Go.Proofs.Ytnaddmkaakdhoaa.J
open Go.RowKit Go.Proofs.YtnaddmkaakdhoaaW.PrintWords Go.Proofs.YtnaddmkaakdhoaaW.PrintLast Go.Proofs.YtnaddmkaakdhoaaW.PrintMore
open Dk (Srt pos has valid app appAll applyAll Valid ent)
set_option linter.unusedVariables false
set_option linter.unusedSimpArgs false
attribute [local go_sem ↓] Go.wp_at_zero Go.wp_at_succ
theorem add_blk (a : Addr) (n : Nat) : (a.add n).block = a.block := by unfold Addr.add; split <;> rfl
theorem reads_off {α : Type} {P P' : α → List Value → Prop} {sz : Nat} {w w1 : World} {A : Option Addr} {n : Nat} {xs : List α} {D : Nat} {cs : Array Value} {t : Nat} (h : ReadsRow P sz w A n xs)
    (hD : w.heap[D]? = some (.cells cs t (0, 0))) (hs : ∀ (i : Nat) (b : ByteArray), cs[i]? ≠ some (.string b)) (hm : ∀ k, k < w.heap.size → k ≠ D → w1.heap[k]? = w.heap[k]?)
    (hP : ∀ x c, P x c → P' x c ∧ ∃ (i : Nat) (b : ByteArray), c[i]? = some (.string b)) : ReadsRow P' sz w1 A n xs := by
  refine ⟨h.1, h.2.1, fun h0 => ?_⟩
  obtain ⟨ad, e, hc⟩ := h.2.2 h0
  refine ⟨ad, e, fun j p hj => ?_⟩
  obtain ⟨c, hl, hp, hcell⟩ := hc j p hj
  obtain ⟨hp', i0, b, hb⟩ := hP _ _ hp
  have hne : ad.block ≠ D := fun hb2 => by
    have h1 := hcell i0 _ hb
    unfold World.cell? at h1
    rw [show (ad.add (j * sz + i0)).block = D from (add_blk ad _).trans hb2, hD] at h1
    simp only at h1
    split at h1
    · cases h1
    · exact hs _ _ h1
  refine ⟨c, hl, hp', fun i u hu => ?_⟩
  have h1 := hcell i u hu
  have hlt := World.block_lt_of_cell? w _ h1
  rw [World.cell?_of_block (hm _ hlt (by rw [add_blk]; exact hne))]
  exact h1
theorem DC.off {w w1 : World} {a : Value} {d : Dsk} {D : Nat} {cs : Array Value} {t : Nat} (h : DC w a d) (hD : w.heap[D]? = some (.cells cs t (0, 0))) (hs : ∀ (i : Nat) (b : ByteArray), cs[i]? ≠ some (.string b)) (hm : ∀ k, k < w.heap.size → k ≠ D → w1.heap[k]? = w.heap[k]?) : DC w1 a d := by
  obtain ⟨A0, c0, A1, c1, A2, c2, A3, c3, e, h0, h1, h2, h3⟩ := h
  have e67 : ∀ (x : S67) (c : List Value), k67.K w x c → k67.K w1 x c ∧ ∃ (i : Nat) (b : ByteArray), c[i]? = some (.string b) := fun x c hk => by
    obtain rfl := k67_open hk
    exact ⟨k67_mk _ _, 0, _, rfl⟩
  have e69 : ∀ (x : S69) (c : List Value), k69.K w x c → k69.K w1 x c ∧ ∃ (i : Nat) (b : ByteArray), c[i]? = some (.string b) := fun x c hk => by
    obtain rfl := k69_open hk
    exact ⟨k69_mk _ _, 0, _, rfl⟩
  have e49 : ∀ (x : S49) (c : List Value), k49.K w x c → k49.K w1 x c ∧ ∃ (i : Nat) (b : ByteArray), c[i]? = some (.string b) := fun x c hk => by
    obtain rfl := k49_open hk
    exact ⟨k49_mk _ _, 1, _, rfl⟩
  exact ⟨A0, c0, A1, c1, A2, c2, A3, c3, e, ⟨reads_off h0.1 hD hs hm e67, h0.2⟩, ⟨reads_off h1.1 hD hs hm e69, h1.2⟩, ⟨reads_off h2.1 hD hs hm e69, h2.2⟩, ⟨reads_off h3.1 hD hs hm e49, h3.2⟩⟩
theorem DC.keep {w0 w w1 : World} {a : Value} {d : Dsk} {g : Nat} (h : DC w a d) (hT : Tp w0 w g) (hk : KeepBut w w1 g none) : DC w1 a d := by
  obtain ⟨s, at_, ⟨A0, c0, hb, _, _⟩, _, _⟩ := hT
  refine h.off hb (fun i b hi => ?_) (fun k hk1 hk2 => hk.2 k hk1 hk2 (by simp))
  match i, hi with
  | 0, hi => cases hi
  | 1, hi => cases hi
  | k + 2, hi => simp at hi
theorem app_one {d : Dsk} {o : S49} (hV : Valid d) : applyAll d [o] = app d o ∨ (app d o).2 ≠ 0 ∧ applyAll d [o] = (Dk.E0, (app d o).2) := by
  unfold Dk.applyAll
  rw [if_pos (Dk.valid_of.2 hV)]
  simp only [Dk.appAll]
  by_cases h : (app d o).2 = 0
  · rw [if_pos h]; left; rw [← h]
  · rw [if_neg h]; right; exact ⟨h, rfl⟩
theorem Sml.mono {k m : Nat} {d : Dsk} (h : Sml k d) (hk : k ≤ m) : Sml m d := ⟨Nat.le_trans h.1 hk, Nat.le_trans h.2.1 hk, Nat.le_trans h.2.2.1 hk, Nat.le_trans h.2.2.2 hk⟩
set_option maxHeartbeats 8000000 in
set_option maxRecDepth 100000 in
theorem build45_calls (g : Nat) (most : Int) (w0 w : World) (hT : Tp w0 w g) (hB : Below w0.heap.size w0 w) (hm0 : 0 ≤ most) (hm1 : most ≤ 100) :
    Calls Try.prog 45 #[.pointer (some ⟨g, 0, none⟩), .int .i64 most] w fun e w' => ∃ v d, e = .returned v ∧ DC w' v d ∧ Valid d ∧ Sml 1000 d ∧ Tp w0 w' g ∧ Below w0.heap.size w0 w' ∧ KeepBut w w' g none := by
  have hgw := hT.lt
  have hw0 := hB.size
  obtain ⟨R, hR⟩ : ∃ R, R = w.heap.size := ⟨_, rfl⟩
  have hTR : w.heap.size ≤ R := by omega
  have hT0R : w0.heap.size ≤ R := by omega
  have hgR : g ≠ R := by omega
  obtain ⟨D, hD⟩ : ∃ D, D = w.heap.size + 1 := ⟨_, rfl⟩
  have hTD : w.heap.size ≤ D := by omega
  have hT0D : w0.heap.size ≤ D := by omega
  have hgD : g ≠ D := by omega
  have hRD : R ≠ D := by omega
  have hadd : IntKind.i64.wrap (most + 1) = most + 1 := by rw [IntKind.wrap_i64]; omega
  go_enter Try.func45, Try.ntmps45
  go_wp2_with fail
  obtain ⟨oZ, hoZ⟩ : ∃ o : Obj, o = .cells #[.slice none 0 0, .slice none 0 0, .slice none 0 0, .slice none 0 0] 47 := ⟨_, rfl⟩
  rw [← hoZ]
  have hB1 := below_alloc (below_alloc (Below.refl w.heap.size w) oZ) oZ
  have hR1 := blk_alloc (blk_new w oZ) oZ
  have hD1 := blk_new (w.alloc oZ) oZ
  rw [show (w.alloc oZ).heap.size = w.heap.size + 1 by simp] at hD1
  rw [← hD] at hD1 ⊢
  rw [← hR] at hR1 ⊢
  generalize (w.alloc oZ).alloc oZ = w1 at hB1 hR1 hD1 ⊢
  subst hoZ
  have HR := Aside0.mk hR1
  have HD := Aside0.mk hD1
  have HT := Aside0.mk (hT.below hB1)
  have HB := Aside0.mk (hB.trans (hB1.mono hw0))
  have HK := Aside0.mk (KeepBut.of_below hB1 g none)
  clear hT hB hB1 hR1 hD1 hR hD
  refine (next47_calls g (most + 1) w0 w1 HT.out HB.out (by omega) (by omega)).mono ?_
  rintro e w2 ⟨r, rfl, r0, r14, h3, h4, h5⟩
  have HR2 := Aside0.mk (h5.blk HR.out (Ne.symm hgR) (by simp))
  have HD2 := Aside0.mk (h5.blk HD.out (Ne.symm hgD) (by simp))
  have HK2 := Aside0.mk (HK.out.trans h5 (.inl rfl))
  have HT2 := Aside0.mk h3
  have HB2 := Aside0.mk h4
  have DZ := Aside0.mk (show DC w2 (.agg #[.slice none 0 0, .slice none 0 0, .slice none 0 0, .slice none 0 0]) Dk.E0 from (DR.zero _ 0).reads)
  clear HR HT HB HK HD h3 h4 h5 hadd
  go_wp2_with fail
  go_loopg [6] r.toNat (fun kx s6 wr => ∃ (i : Int) (d' : Dsk) (C0 C1 C2 C3 : Option Addr) (e0 e1 e2 e3 : Nat), s6 = .int .i64 i ∧ 0 ≤ i ∧ i ≤ 100 ∧ i.toNat ≤ kx ∧ Aside0 (Valid d') ∧ Aside0 (Sml (1000 - i.toNat) d') ∧ Aside0 (wr.heap[D]? = some (.cells #[.slice C0 d'.ino.length e0, .slice C1 d'.dir.length e1, .slice C2 d'.dur.length e2, .slice C3 d'.ops.length e3] 47 (0, 0))) ∧ Aside0 (wr.heap[R]? = some (.cells #[.slice none 0 0, .slice none 0 0, .slice none 0 0, .slice none 0 0] 47 (0, 0))) ∧ Aside0 (DC wr (.agg #[.slice C0 d'.ino.length e0, .slice C1 d'.dir.length e1, .slice C2 d'.dur.length e2, .slice C3 d'.ops.length e3]) d') ∧ Aside0 (Tp w0 wr g) ∧ Aside0 (Below w0.heap.size w0 wr) ∧ Aside0 (KeepBut w wr g none))
  case atStart => exact ⟨r, Dk.E0, none, none, none, none, 0, 0, 0, 0, rfl, r0, by omega, Nat.le_refl _, ⟨Dk.valid_of.1 Dk.valid_E0⟩, ⟨⟨Nat.zero_le _, Nat.zero_le _, Nat.zero_le _, Nat.zero_le _⟩⟩, HD2, HR2, DZ, HT2, HB2, HK2⟩
  case round =>
    clear HD2 HR2 DZ HT2 HB2 HK2
    obtain ⟨i, d', C0, C1, C2, C3, e0, e1, e2, e3, rfl, hi0, hi1, hk, hV, hS, HD, HR, HC, HT, HB, HK⟩ := hrel
    by_cases hlt : 0 < i
    · have d0 : wr.cell? ⟨D, 0, none⟩ = some (.slice C0 d'.ino.length e0) := (blk_cell HD.out 0).trans rfl
      have d1 : wr.cell? ⟨D, 1, none⟩ = some (.slice C1 d'.dir.length e1) := (blk_cell HD.out 1).trans rfl
      have d2 : wr.cell? ⟨D, 2, none⟩ = some (.slice C2 d'.dur.length e2) := (blk_cell HD.out 2).trans rfl
      have d3 : wr.cell? ⟨D, 3, none⟩ = some (.slice C3 d'.ops.length e3) := (blk_cell HD.out 3).trans rfl
      have OC := Aside0.mk (fun W h1 h2 => op48_calls g w0 W h1 h2)
      have AC0 := (fun o W h ho => apply32_calls (.agg #[.slice C0 d'.ino.length e0, .slice C1 d'.dir.length e1, .slice C2 d'.dur.length e2, .slice C3 d'.ops.length e3]) d' o W h (hS.out.mono (by omega)) ho)
      obtain ⟨ap, hap⟩ : ∃ ap : S49 → Dsk, ∀ o, ap o = (applyAll d' [o]).1 := ⟨_, fun _ => rfl⟩
      obtain ⟨er, her⟩ : ∃ er : S49 → Int, ∀ o, er o = (applyAll d' [o]).2 := ⟨_, fun _ => rfl⟩
      simp only [← hap, ← her] at AC0
      have AC := Aside0.mk AC0
      have AP0 := Aside0.mk (fun o => show applyAll d' [o] = (ap o, er o) from by rw [hap, her])
      have hsub : IntKind.i64.wrap (i - 1) = i - 1 := by rw [IntKind.wrap_i64]; omega
      have NT1 : w.heap.size ≤ wr.heap.size := HK.out.1
      have ND1 : D ≠ wr.heap.size := Nat.ne_of_lt (blk_lt HD.out)
      have ND5 : wr.heap.size ≠ D := Ne.symm ND1
      have ND6 : D < wr.heap.size := blk_lt HD.out
      have NR1 : R ≠ wr.heap.size := Nat.ne_of_lt (blk_lt HR.out)
      have TK1 := Aside0.mk trivial
      clear hap her AC0
      go_upto_region 5 with fail
      go_region_with
        (first
          | (clear TK1; go_at_call 48; refine (OC.out _ ?_ ?_).mono ?_; (first | exact HT.out.below (below_drew1 (Below.refl _ wr)) | exact HT.out.below (below_drew1 (below_alloc (Below.refl _ wr) _))); (first | exact below_drew1 HB.out | exact below_drew1 (below_alloc HB.out _)); rintro e w5 ⟨o, rfl, ho, h3, h4, h5⟩; have T5 := Aside0.mk h3; have B5 := Aside0.mk h4; have H5 := Aside0.mk (show KeepBut wr w5 g none from by first | exact h5 | exact (keep_drew (keep_alloc (KeepBut.refl wr g none) (.cells #[.slice none 0 0, .slice none 0 0, .slice none 0 0, .slice none 0 0] 47))).trans h5 (.inl rfl)); (try (have N0 := Aside0.mk (show w5.heap[wr.heap.size]? = some (.cells #[.slice none 0 0, .slice none 0 0, .slice none 0 0, .slice none 0 0] 47 (0, 0)) from h5.blk (blk_drew (blk_new wr (.cells #[.slice none 0 0, .slice none 0 0, .slice none 0 0, .slice none 0 0] 47))) (by have := HT.out.lt; show wr.heap.size ≠ g; omega) (by simp)))); have K5 := Aside0.mk (HK.out.trans H5.out (.inl rfl)); have D5 := Aside0.mk (H5.out.blk HD.out (Ne.symm hgD) (by simp)); have R5 := Aside0.mk (H5.out.blk HR.out (Ne.symm hgR) (by simp)); have C5 := Aside0.mk (HC.out.keep HT.out H5.out); have q0 := (blk_cell D5.out 0).trans rfl; have q1 := (blk_cell D5.out 1).trans rfl; have q2 := (blk_cell D5.out 2).trans rfl; have q3 := (blk_cell D5.out 3).trans rfl; have NT2 : w.heap.size ≤ w5.heap.size := K5.out.1; have ND2 : D ≠ w5.heap.size := Nat.ne_of_lt (blk_lt D5.out); have ND3 : w5.heap.size ≠ D := Ne.symm ND2; have ND4 : D < w5.heap.size := blk_lt D5.out; have NR2 : R ≠ w5.heap.size := Nat.ne_of_lt (blk_lt R5.out); clear h3 h4 h5 H5)
          | (go_at_call 32; refine (AC.out o _ ?_ ?_).mono ?_; (first | exact C5.out | exact C5.out.below (below_alloc (Below.refl _ w5) _)); omega; rintro e w6 ⟨v, rfl, h1, h2⟩; obtain ⟨F0, g0, F1, g1, F2, g2, F3, g3, rfl, -⟩ := id h1; have C6 := Aside0.mk h1; have hb2 : Below w5.heap.size w5 w6 := (by first | exact h2 | exact below_step (below_alloc (Below.refl _ w5) (.cells #[.slice none 0 0, .slice none 0 0, .slice none 0 0, .slice none 0 0] 47)) h2); have T6 := Aside0.mk (T5.out.below hb2); have B6 := Aside0.mk (B5.out.trans (hb2.mono B5.out.size)); have K6 := Aside0.mk (keep_below K5.out hb2); have D6 := Aside0.mk (blk_below D5.out hb2); have R6 := Aside0.mk (blk_below R5.out hb2); have O6 := Aside0.mk (C5.out.below hb2); (try (have N1 := Aside0.mk (show w6.heap[wr.heap.size]? = some (.cells #[.slice none 0 0, .slice none 0 0, .slice none 0 0, .slice none 0 0] 47 (0, 0)) from blk_below N0.out hb2); have n0 := (blk_cell N1.out 0).trans rfl; have n1 := (blk_cell N1.out 1).trans rfl; have n2 := (blk_cell N1.out 2).trans rfl; have n3 := (blk_cell N1.out 3).trans rfl; have nf0 := blk_frozen N1.out 0; have nf1 := blk_frozen N1.out 1; have nf2 := blk_frozen N1.out 2; have nf3 := blk_frozen N1.out 3)); (try (have N2 := Aside0.mk (show w6.heap[w5.heap.size]? = some (.cells #[.slice none 0 0, .slice none 0 0, .slice none 0 0, .slice none 0 0] 47 (0, 0)) from blk_below (blk_new w5 (.cells #[.slice none 0 0, .slice none 0 0, .slice none 0 0, .slice none 0 0] 47)) h2); have n0 := (blk_cell N2.out 0).trans rfl; have n1 := (blk_cell N2.out 1).trans rfl; have n2 := (blk_cell N2.out 2).trans rfl; have n3 := (blk_cell N2.out 3).trans rfl; have nf0 := blk_frozen N2.out 0; have nf1 := blk_frozen N2.out 1; have nf2 := blk_frozen N2.out 2; have nf3 := blk_frozen N2.out 3)); clear h1 h2 hb2))
      all_goals
        clear d0 d1 d2 d3 q0 q1 q2 q3 OC AC HT HB HK HC HD HR T5 B5 K5 D5 R5 C5
        go_upto_region 6 with fail
        have AP1 := AP0.out o
        generalize ap o = ad1 at AP1 C6 ⊢
        generalize er o = ae at AP1 ⊢
        have AP := Aside0.mk AP1
        clear AP0 AP1
        first
        | (rw [show w6.alloc (.cells #[.slice F0 ad1.ino.length g0, .slice F1 ad1.dir.length g1, .slice F2 ad1.dur.length g2, .slice F3 ad1.ops.length g3] 47) = w6.alloc (.cells #[.slice F0 ad1.ino.length g0, .slice F1 ad1.dir.length g1, .slice F2 ad1.dur.length g2, .slice F3 ad1.ops.length g3] 47) from rfl]
           have b1 := below_alloc (Below.refl w6.heap.size w6) (.cells #[.slice F0 ad1.ino.length g0, .slice F1 ad1.dir.length g1, .slice F2 ad1.dur.length g2, .slice F3 ad1.ops.length g3] 47)
           have M7 := Aside0.mk (blk_new w6 (.cells #[.slice F0 ad1.ino.length g0, .slice F1 ad1.dir.length g1, .slice F2 ad1.dur.length g2, .slice F3 ad1.ops.length g3] 47))
           have D7 := Aside0.mk (blk_below D6.out b1)
           have R7 := Aside0.mk (blk_below R6.out b1)
           have C7 := Aside0.mk (C6.out.below b1)
           have O7 := Aside0.mk (O6.out.below b1)
           have T7 := Aside0.mk (T6.out.below b1)
           have B7 := Aside0.mk (B6.out.trans (b1.mono B6.out.size))
           have K7 := Aside0.mk (keep_below K6.out b1)
           have hDN : D ≠ w6.heap.size := Nat.ne_of_lt (blk_lt D6.out)
           generalize w6.alloc (.cells #[.slice F0 ad1.ino.length g0, .slice F1 ad1.dir.length g1, .slice F2 ad1.dur.length g2, .slice F3 ad1.ops.length g3] 47) = w7 at M7 D7 R7 C7 O7 T7 B7 K7 ⊢
           clear C6 T6 B6 K6 D6 R6 O6 b1
           obtain ⟨N, hN⟩ : ∃ N, N = w6.heap.size := ⟨_, rfl⟩
           rw [← hN] at M7 hDN ⊢
           clear hN
           have AA := Aside0.mk (app_one (o := o) hV.out)
           rw [AP.out] at AA
           by_cases hae : ae = 0
           · subst hae
             have APP : app d' o = (ad1, 0) := by
               rcases AA.out with h | ⟨h, h2⟩
               · exact h.symm
               · injection h2 with _ h2; exact absurd h2.symm h
             have V7 := Aside0.mk (show Valid ad1 from by have := Dk.valid_app hV.out o (by rw [APP]); rwa [APP] at this)
             have S7 := Aside0.mk (show Sml (1000 - (i - 1).toNat) ad1 from by have := Dk.Sml_app hS.out o; rw [APP] at this; exact this.mono (by omega))
             clear APP AA
             have m0 := (blk_cell M7.out 0).trans rfl; have m1 := (blk_cell M7.out 1).trans rfl; have m2 := (blk_cell M7.out 2).trans rfl; have m3 := (blk_cell M7.out 3).trans rfl
             have k0 := (blk_cell D7.out 0).trans rfl; have k1 := (blk_cell D7.out 1).trans rfl; have k2 := (blk_cell D7.out 2).trans rfl; have k3 := (blk_cell D7.out 3).trans rfl
             have f0 := blk_frozen D7.out 0; have f1 := blk_frozen D7.out 1; have f2 := blk_frozen D7.out 2; have f3 := blk_frozen D7.out 3
             go_upto_region 4 with fail
             have D8 := Aside0.mk (put47 D7.out (.slice F0 ad1.ino.length g0) (.slice F1 ad1.dir.length g1) (.slice F2 ad1.dur.length g2) (.slice F3 ad1.ops.length g3))
             have R8 := Aside0.mk (far47 R7.out hRD (.slice F0 ad1.ino.length g0) (.slice F1 ad1.dir.length g1) (.slice F2 ad1.dur.length g2) (.slice F3 ad1.ops.length g3))
             have C8 := Aside0.mk (C7.out.put47 D7.out ⟨_, _, _, rfl⟩ ⟨_, _, _, rfl⟩ ⟨_, _, _, rfl⟩ ⟨_, _, _, rfl⟩ (.slice F0 ad1.ino.length g0) (.slice F1 ad1.dir.length g1) (.slice F2 ad1.dur.length g2) (.slice F3 ad1.ops.length g3))
             have T8 := Aside0.mk (T7.out.put4 hgD (.slice F0 ad1.ino.length g0) (.slice F1 ad1.dir.length g1) (.slice F2 ad1.dur.length g2) (.slice F3 ad1.ops.length g3))
             have B8 := Aside0.mk (below_put4 B7.out hT0D (.slice F0 ad1.ino.length g0) (.slice F1 ad1.dir.length g1) (.slice F2 ad1.dur.length g2) (.slice F3 ad1.ops.length g3))
             have K8 := Aside0.mk (keep_put4 K7.out hTD (.slice F0 ad1.ino.length g0) (.slice F1 ad1.dir.length g1) (.slice F2 ad1.dur.length g2) (.slice F3 ad1.ops.length g3))
             generalize ((((w7.setCell ⟨D, 0, none⟩ (.slice F0 ad1.ino.length g0)).setCell ⟨D, 1, none⟩ (.slice F1 ad1.dir.length g1)).setCell ⟨D, 2, none⟩ (.slice F2 ad1.dur.length g2)).setCell ⟨D, 3, none⟩ (.slice F3 ad1.ops.length g3)) = w8 at D8 R8 C8 T8 B8 K8 ⊢
             clear D7 R7 C7 O7 T7 B7 K7 M7 m0 m1 m2 m3 k0 k1 k2 k3 f0 f1 f2 f3
             go_wp2
             go_roundg (i - 1).toNat
             case measure => omega
             case rel => exact ⟨i - 1, ad1, _, _, _, _, _, _, _, _, by first | rfl | (simp [hsub]; done), by omega, by omega, by omega, V7, S7, D8, R8, C8, T8, B8, K8⟩
           · have hae2 : (ae == 0) = false := beq_eq_false_iff_ne.2 hae
             have S7 := Aside0.mk (show Sml (1000 - (i - 1).toNat) d' from hS.out.mono (by omega))
             clear AA
             go_wp2
             go_roundg (i - 1).toNat
             case measure => omega
             case rel => exact ⟨i - 1, d', _, _, _, _, _, _, _, _, by first | rfl | (simp [hsub]; done), by omega, by omega, by omega, hV, S7, D7, R7, O7, T7, B7, K7⟩)
        | (have M7 := Aside0.mk (put47 N1.out (.slice F0 ad1.ino.length g0) (.slice F1 ad1.dir.length g1) (.slice F2 ad1.dur.length g2) (.slice F3 ad1.ops.length g3))
           have hNT : w.heap.size ≤ wr.heap.size := NT1
           have hNT0 : w0.heap.size ≤ wr.heap.size := Nat.le_trans hw0 hNT
           have hgN : g ≠ wr.heap.size := by omega
           have hDN : D ≠ wr.heap.size := ND1
           have hRN : R ≠ wr.heap.size := NR1
           have D7 := Aside0.mk (far47 D6.out hDN (.slice F0 ad1.ino.length g0) (.slice F1 ad1.dir.length g1) (.slice F2 ad1.dur.length g2) (.slice F3 ad1.ops.length g3))
           have R7 := Aside0.mk (far47 R6.out hRN (.slice F0 ad1.ino.length g0) (.slice F1 ad1.dir.length g1) (.slice F2 ad1.dur.length g2) (.slice F3 ad1.ops.length g3))
           have C7 := Aside0.mk (C6.out.put47 N1.out ⟨_, _, _, rfl⟩ ⟨_, _, _, rfl⟩ ⟨_, _, _, rfl⟩ ⟨_, _, _, rfl⟩ (.slice F0 ad1.ino.length g0) (.slice F1 ad1.dir.length g1) (.slice F2 ad1.dur.length g2) (.slice F3 ad1.ops.length g3))
           have O7 := Aside0.mk (O6.out.put47 N1.out ⟨_, _, _, rfl⟩ ⟨_, _, _, rfl⟩ ⟨_, _, _, rfl⟩ ⟨_, _, _, rfl⟩ (.slice F0 ad1.ino.length g0) (.slice F1 ad1.dir.length g1) (.slice F2 ad1.dur.length g2) (.slice F3 ad1.ops.length g3))
           have T7 := Aside0.mk (T6.out.put4 hgN (.slice F0 ad1.ino.length g0) (.slice F1 ad1.dir.length g1) (.slice F2 ad1.dur.length g2) (.slice F3 ad1.ops.length g3))
           have B7 := Aside0.mk (below_put4 B6.out hNT0 (.slice F0 ad1.ino.length g0) (.slice F1 ad1.dir.length g1) (.slice F2 ad1.dur.length g2) (.slice F3 ad1.ops.length g3))
           have K7 := Aside0.mk (keep_put4 K6.out hNT (.slice F0 ad1.ino.length g0) (.slice F1 ad1.dir.length g1) (.slice F2 ad1.dur.length g2) (.slice F3 ad1.ops.length g3))
           rw [show ((((w6.setCell ⟨wr.heap.size, 0, none⟩ (.slice F0 ad1.ino.length g0)).setCell ⟨wr.heap.size, 1, none⟩ (.slice F1 ad1.dir.length g1)).setCell ⟨wr.heap.size, 2, none⟩ (.slice F2 ad1.dur.length g2)).setCell ⟨wr.heap.size, 3, none⟩ (.slice F3 ad1.ops.length g3)) = ((((w6.setCell ⟨wr.heap.size, 0, none⟩ (.slice F0 ad1.ino.length g0)).setCell ⟨wr.heap.size, 1, none⟩ (.slice F1 ad1.dir.length g1)).setCell ⟨wr.heap.size, 2, none⟩ (.slice F2 ad1.dur.length g2)).setCell ⟨wr.heap.size, 3, none⟩ (.slice F3 ad1.ops.length g3)) from rfl]
           generalize ((((w6.setCell ⟨wr.heap.size, 0, none⟩ (.slice F0 ad1.ino.length g0)).setCell ⟨wr.heap.size, 1, none⟩ (.slice F1 ad1.dir.length g1)).setCell ⟨wr.heap.size, 2, none⟩ (.slice F2 ad1.dur.length g2)).setCell ⟨wr.heap.size, 3, none⟩ (.slice F3 ad1.ops.length g3)) = w7 at M7 D7 R7 C7 O7 T7 B7 K7 ⊢
           clear C6 T6 B6 K6 D6 R6 O6 N1 n0 n1 n2 n3 nf0 nf1 nf2 nf3 hNT hNT0 hgN hRN
           obtain ⟨N, hN⟩ : ∃ N, N = wr.heap.size := ⟨_, rfl⟩
           rw [← hN] at M7 hDN ⊢
           clear hN
           have AA := Aside0.mk (app_one (o := o) hV.out)
           rw [AP.out] at AA
           by_cases hae : ae = 0
           · subst hae
             have APP : app d' o = (ad1, 0) := by
               rcases AA.out with h | ⟨h, h2⟩
               · exact h.symm
               · injection h2 with _ h2; exact absurd h2.symm h
             have V7 := Aside0.mk (show Valid ad1 from by have := Dk.valid_app hV.out o (by rw [APP]); rwa [APP] at this)
             have S7 := Aside0.mk (show Sml (1000 - (i - 1).toNat) ad1 from by have := Dk.Sml_app hS.out o; rw [APP] at this; exact this.mono (by omega))
             clear APP AA
             have m0 := (blk_cell M7.out 0).trans rfl; have m1 := (blk_cell M7.out 1).trans rfl; have m2 := (blk_cell M7.out 2).trans rfl; have m3 := (blk_cell M7.out 3).trans rfl
             have k0 := (blk_cell D7.out 0).trans rfl; have k1 := (blk_cell D7.out 1).trans rfl; have k2 := (blk_cell D7.out 2).trans rfl; have k3 := (blk_cell D7.out 3).trans rfl
             have f0 := blk_frozen D7.out 0; have f1 := blk_frozen D7.out 1; have f2 := blk_frozen D7.out 2; have f3 := blk_frozen D7.out 3
             go_upto_region 4 with fail
             have D8 := Aside0.mk (put47 D7.out (.slice F0 ad1.ino.length g0) (.slice F1 ad1.dir.length g1) (.slice F2 ad1.dur.length g2) (.slice F3 ad1.ops.length g3))
             have R8 := Aside0.mk (far47 R7.out hRD (.slice F0 ad1.ino.length g0) (.slice F1 ad1.dir.length g1) (.slice F2 ad1.dur.length g2) (.slice F3 ad1.ops.length g3))
             have C8 := Aside0.mk (C7.out.put47 D7.out ⟨_, _, _, rfl⟩ ⟨_, _, _, rfl⟩ ⟨_, _, _, rfl⟩ ⟨_, _, _, rfl⟩ (.slice F0 ad1.ino.length g0) (.slice F1 ad1.dir.length g1) (.slice F2 ad1.dur.length g2) (.slice F3 ad1.ops.length g3))
             have T8 := Aside0.mk (T7.out.put4 hgD (.slice F0 ad1.ino.length g0) (.slice F1 ad1.dir.length g1) (.slice F2 ad1.dur.length g2) (.slice F3 ad1.ops.length g3))
             have B8 := Aside0.mk (below_put4 B7.out hT0D (.slice F0 ad1.ino.length g0) (.slice F1 ad1.dir.length g1) (.slice F2 ad1.dur.length g2) (.slice F3 ad1.ops.length g3))
             have K8 := Aside0.mk (keep_put4 K7.out hTD (.slice F0 ad1.ino.length g0) (.slice F1 ad1.dir.length g1) (.slice F2 ad1.dur.length g2) (.slice F3 ad1.ops.length g3))
             generalize ((((w7.setCell ⟨D, 0, none⟩ (.slice F0 ad1.ino.length g0)).setCell ⟨D, 1, none⟩ (.slice F1 ad1.dir.length g1)).setCell ⟨D, 2, none⟩ (.slice F2 ad1.dur.length g2)).setCell ⟨D, 3, none⟩ (.slice F3 ad1.ops.length g3)) = w8 at D8 R8 C8 T8 B8 K8 ⊢
             clear D7 R7 C7 O7 T7 B7 K7 M7 m0 m1 m2 m3 k0 k1 k2 k3 f0 f1 f2 f3
             go_wp2
             go_roundg (i - 1).toNat
             case measure => omega
             case rel => exact ⟨i - 1, ad1, _, _, _, _, _, _, _, _, by first | rfl | (simp [hsub]; done), by omega, by omega, by omega, V7, S7, D8, R8, C8, T8, B8, K8⟩
           · have hae2 : (ae == 0) = false := beq_eq_false_iff_ne.2 hae
             have S7 := Aside0.mk (show Sml (1000 - (i - 1).toNat) d' from hS.out.mono (by omega))
             clear AA
             go_wp2
             go_roundg (i - 1).toNat
             case measure => omega
             case rel => exact ⟨i - 1, d', _, _, _, _, _, _, _, _, by first | rfl | (simp [hsub]; done), by omega, by omega, by omega, hV, S7, D7, R7, O7, T7, B7, K7⟩)
        | (have M7 := Aside0.mk (put47 N2.out (.slice F0 ad1.ino.length g0) (.slice F1 ad1.dir.length g1) (.slice F2 ad1.dur.length g2) (.slice F3 ad1.ops.length g3))
           have hNT : w.heap.size ≤ w5.heap.size := NT2
           have hNT0 : w0.heap.size ≤ w5.heap.size := Nat.le_trans hw0 hNT
           have hgN : g ≠ w5.heap.size := by omega
           have hDN : D ≠ w5.heap.size := ND2
           have hRN : R ≠ w5.heap.size := NR2
           have D7 := Aside0.mk (far47 D6.out hDN (.slice F0 ad1.ino.length g0) (.slice F1 ad1.dir.length g1) (.slice F2 ad1.dur.length g2) (.slice F3 ad1.ops.length g3))
           have R7 := Aside0.mk (far47 R6.out hRN (.slice F0 ad1.ino.length g0) (.slice F1 ad1.dir.length g1) (.slice F2 ad1.dur.length g2) (.slice F3 ad1.ops.length g3))
           have C7 := Aside0.mk (C6.out.put47 N2.out ⟨_, _, _, rfl⟩ ⟨_, _, _, rfl⟩ ⟨_, _, _, rfl⟩ ⟨_, _, _, rfl⟩ (.slice F0 ad1.ino.length g0) (.slice F1 ad1.dir.length g1) (.slice F2 ad1.dur.length g2) (.slice F3 ad1.ops.length g3))
           have O7 := Aside0.mk (O6.out.put47 N2.out ⟨_, _, _, rfl⟩ ⟨_, _, _, rfl⟩ ⟨_, _, _, rfl⟩ ⟨_, _, _, rfl⟩ (.slice F0 ad1.ino.length g0) (.slice F1 ad1.dir.length g1) (.slice F2 ad1.dur.length g2) (.slice F3 ad1.ops.length g3))
           have T7 := Aside0.mk (T6.out.put4 hgN (.slice F0 ad1.ino.length g0) (.slice F1 ad1.dir.length g1) (.slice F2 ad1.dur.length g2) (.slice F3 ad1.ops.length g3))
           have B7 := Aside0.mk (below_put4 B6.out hNT0 (.slice F0 ad1.ino.length g0) (.slice F1 ad1.dir.length g1) (.slice F2 ad1.dur.length g2) (.slice F3 ad1.ops.length g3))
           have K7 := Aside0.mk (keep_put4 K6.out hNT (.slice F0 ad1.ino.length g0) (.slice F1 ad1.dir.length g1) (.slice F2 ad1.dur.length g2) (.slice F3 ad1.ops.length g3))
           rw [show ((((w6.setCell ⟨w5.heap.size, 0, none⟩ (.slice F0 ad1.ino.length g0)).setCell ⟨w5.heap.size, 1, none⟩ (.slice F1 ad1.dir.length g1)).setCell ⟨w5.heap.size, 2, none⟩ (.slice F2 ad1.dur.length g2)).setCell ⟨w5.heap.size, 3, none⟩ (.slice F3 ad1.ops.length g3)) = ((((w6.setCell ⟨w5.heap.size, 0, none⟩ (.slice F0 ad1.ino.length g0)).setCell ⟨w5.heap.size, 1, none⟩ (.slice F1 ad1.dir.length g1)).setCell ⟨w5.heap.size, 2, none⟩ (.slice F2 ad1.dur.length g2)).setCell ⟨w5.heap.size, 3, none⟩ (.slice F3 ad1.ops.length g3)) from rfl]
           generalize ((((w6.setCell ⟨w5.heap.size, 0, none⟩ (.slice F0 ad1.ino.length g0)).setCell ⟨w5.heap.size, 1, none⟩ (.slice F1 ad1.dir.length g1)).setCell ⟨w5.heap.size, 2, none⟩ (.slice F2 ad1.dur.length g2)).setCell ⟨w5.heap.size, 3, none⟩ (.slice F3 ad1.ops.length g3)) = w7 at M7 D7 R7 C7 O7 T7 B7 K7 ⊢
           clear C6 T6 B6 K6 D6 R6 O6 N2 n0 n1 n2 n3 nf0 nf1 nf2 nf3 hNT hNT0 hgN hRN
           obtain ⟨N, hN⟩ : ∃ N, N = w5.heap.size := ⟨_, rfl⟩
           rw [← hN] at M7 hDN ⊢
           clear hN
           have AA := Aside0.mk (app_one (o := o) hV.out)
           rw [AP.out] at AA
           by_cases hae : ae = 0
           · subst hae
             have APP : app d' o = (ad1, 0) := by
               rcases AA.out with h | ⟨h, h2⟩
               · exact h.symm
               · injection h2 with _ h2; exact absurd h2.symm h
             have V7 := Aside0.mk (show Valid ad1 from by have := Dk.valid_app hV.out o (by rw [APP]); rwa [APP] at this)
             have S7 := Aside0.mk (show Sml (1000 - (i - 1).toNat) ad1 from by have := Dk.Sml_app hS.out o; rw [APP] at this; exact this.mono (by omega))
             clear APP AA
             have m0 := (blk_cell M7.out 0).trans rfl; have m1 := (blk_cell M7.out 1).trans rfl; have m2 := (blk_cell M7.out 2).trans rfl; have m3 := (blk_cell M7.out 3).trans rfl
             have k0 := (blk_cell D7.out 0).trans rfl; have k1 := (blk_cell D7.out 1).trans rfl; have k2 := (blk_cell D7.out 2).trans rfl; have k3 := (blk_cell D7.out 3).trans rfl
             have f0 := blk_frozen D7.out 0; have f1 := blk_frozen D7.out 1; have f2 := blk_frozen D7.out 2; have f3 := blk_frozen D7.out 3
             go_upto_region 4 with fail
             have D8 := Aside0.mk (put47 D7.out (.slice F0 ad1.ino.length g0) (.slice F1 ad1.dir.length g1) (.slice F2 ad1.dur.length g2) (.slice F3 ad1.ops.length g3))
             have R8 := Aside0.mk (far47 R7.out hRD (.slice F0 ad1.ino.length g0) (.slice F1 ad1.dir.length g1) (.slice F2 ad1.dur.length g2) (.slice F3 ad1.ops.length g3))
             have C8 := Aside0.mk (C7.out.put47 D7.out ⟨_, _, _, rfl⟩ ⟨_, _, _, rfl⟩ ⟨_, _, _, rfl⟩ ⟨_, _, _, rfl⟩ (.slice F0 ad1.ino.length g0) (.slice F1 ad1.dir.length g1) (.slice F2 ad1.dur.length g2) (.slice F3 ad1.ops.length g3))
             have T8 := Aside0.mk (T7.out.put4 hgD (.slice F0 ad1.ino.length g0) (.slice F1 ad1.dir.length g1) (.slice F2 ad1.dur.length g2) (.slice F3 ad1.ops.length g3))
             have B8 := Aside0.mk (below_put4 B7.out hT0D (.slice F0 ad1.ino.length g0) (.slice F1 ad1.dir.length g1) (.slice F2 ad1.dur.length g2) (.slice F3 ad1.ops.length g3))
             have K8 := Aside0.mk (keep_put4 K7.out hTD (.slice F0 ad1.ino.length g0) (.slice F1 ad1.dir.length g1) (.slice F2 ad1.dur.length g2) (.slice F3 ad1.ops.length g3))
             generalize ((((w7.setCell ⟨D, 0, none⟩ (.slice F0 ad1.ino.length g0)).setCell ⟨D, 1, none⟩ (.slice F1 ad1.dir.length g1)).setCell ⟨D, 2, none⟩ (.slice F2 ad1.dur.length g2)).setCell ⟨D, 3, none⟩ (.slice F3 ad1.ops.length g3)) = w8 at D8 R8 C8 T8 B8 K8 ⊢
             clear D7 R7 C7 O7 T7 B7 K7 M7 m0 m1 m2 m3 k0 k1 k2 k3 f0 f1 f2 f3
             go_wp2
             go_roundg (i - 1).toNat
             case measure => omega
             case rel => exact ⟨i - 1, ad1, _, _, _, _, _, _, _, _, by first | rfl | (simp [hsub]; done), by omega, by omega, by omega, V7, S7, D8, R8, C8, T8, B8, K8⟩
           · have hae2 : (ae == 0) = false := beq_eq_false_iff_ne.2 hae
             have S7 := Aside0.mk (show Sml (1000 - (i - 1).toNat) d' from hS.out.mono (by omega))
             clear AA
             go_wp2
             go_roundg (i - 1).toNat
             case measure => omega
             case rel => exact ⟨i - 1, d', _, _, _, _, _, _, _, _, by first | rfl | (simp [hsub]; done), by omega, by omega, by omega, hV, S7, D7, R7, O7, T7, B7, K7⟩)
    · have k0 := (blk_cell HD.out 0).trans rfl
      have k1 := (blk_cell HD.out 1).trans rfl
      have k2 := (blk_cell HD.out 2).trans rfl
      have k3 := (blk_cell HD.out 3).trans rfl
      have s0 := (blk_cell HR.out 0).trans rfl
      have s1 := (blk_cell HR.out 1).trans rfl
      have s2 := (blk_cell HR.out 2).trans rfl
      have s3 := (blk_cell HR.out 3).trans rfl
      have f0 := blk_frozen HR.out 0
      have f1 := blk_frozen HR.out 1
      have f2 := blk_frozen HR.out 2
      have f3 := blk_frozen HR.out 3
      go_wp2
      refine bodyPost_ret (results_cell_row rfl _ _ R 47 _ (0, 0) _ rfl (put47 HR.out _ _ _ _) Try.underlying47 rfl (by kernel_rfl)) rfl ?_

      exact ⟨_, rfl, d', HC.out.put47 HR.out ⟨_, _, _, rfl⟩ ⟨_, _, _, rfl⟩ ⟨_, _, _, rfl⟩ ⟨_, _, _, rfl⟩ _ _ _ _, hV.out, hS.out.mono (by omega), HT.out.put4 hgR _ _ _ _, below_put4 HB.out hT0R _ _ _ _, keep_put4 HK.out hTR _ _ _ _⟩
end Go.Proofs.Ytnaddmkaakdhoaa.J

end
