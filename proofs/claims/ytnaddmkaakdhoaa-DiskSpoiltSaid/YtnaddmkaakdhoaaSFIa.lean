/-
  Texts of this claim, joined, without what the claim does not use: XL12
-/
import Derived.Test.YtnaddmkaakdhoaaSDEj
section
namespace Go.Proofs.Ytnaddmkaakdhoaa.J
open Go.RowKit Go.Proofs.YtnaddmkaakdhoaaW.PrintWords Go.Proofs.YtnaddmkaakdhoaaW.PrintLast Go.Proofs.YtnaddmkaakdhoaaW.PrintMore
open Dk (Srt pos has valid app appAll applyAll Valid ent)
set_option linter.unusedVariables false
set_option linter.unusedSimpArgs false
attribute [local go_sem ↓] Go.wp_at_zero Go.wp_at_succ
theorem mod27_calls (x n : Int) (w : World) (h1 : 1 ≤ n) (h2 : n ≤ 1000000) : Calls Try.prog 27 #[.int .i64 x, .int .i64 n] w fun e w' => ∃ r : Int, e = .returned (.int .i64 r) ∧ 0 ≤ r ∧ r < n ∧ Drawn0 w w' := by
  obtain ⟨v, hv, v0, v1⟩ := mod_f x n h1 h2
  refine (corporamade_Mod.calls x n v w hv).mono ?_
  rintro e w' ⟨rfl, hd⟩
  exact ⟨v, rfl, v0, v1, hd⟩
theorem DC_set0 {w W : World} {A0 A1 A2 A3 B : Option Addr} {c0 c1 c2 c3 n e : Nat} {d : Dsk} {l' : List S67} (h : DC w (.agg #[.slice A0 d.ino.length c0, .slice A1 d.dir.length c1, .slice A2 d.dur.length c2, .slice A3 d.ops.length c3]) d) (hb : Below w.heap.size w W) (h0 : Kd.C k67 W B l'.length l') (hn : l'.length = n) (he : n ≤ e) :
    DC W (.agg #[.slice B n e, .slice A1 d.dir.length c1, .slice A2 d.dur.length c2, .slice A3 d.ops.length c3]) ⟨l', d.dir, d.dur, d.ops⟩ := by
  subst hn
  obtain ⟨_, _, _, _, _, _, _, _, q, _, h1, h2, h3⟩ := h
  injection q with q
  injection q with q
  simp only [List.cons.injEq, Value.slice.injEq] at q
  obtain ⟨_, ⟨rfl, _, rfl⟩, ⟨rfl, _, rfl⟩, ⟨rfl, _, rfl⟩, _⟩ := q
  exact ⟨B, e, A1, c1, A2, c2, A3, c3, rfl, ⟨h0, he⟩, ⟨Kd.C_below h1.1 hb, h1.2⟩, ⟨Kd.C_below h2.1 hb, h2.2⟩, ⟨Kd.C_below h3.1 hb, h3.2⟩⟩
theorem DC_set1 {w W : World} {A0 A1 A2 A3 B : Option Addr} {c0 c1 c2 c3 n e : Nat} {d : Dsk} {l' : List S69} (h : DC w (.agg #[.slice A0 d.ino.length c0, .slice A1 d.dir.length c1, .slice A2 d.dur.length c2, .slice A3 d.ops.length c3]) d) (hb : Below w.heap.size w W) (h1 : Kd.C k69 W B l'.length l') (hn : l'.length = n) (he : n ≤ e) :
    DC W (.agg #[.slice A0 d.ino.length c0, .slice B n e, .slice A2 d.dur.length c2, .slice A3 d.ops.length c3]) ⟨d.ino, l', d.dur, d.ops⟩ := by
  subst hn
  obtain ⟨_, _, _, _, _, _, _, _, q, h0, _, h2, h3⟩ := h
  injection q with q
  injection q with q
  simp only [List.cons.injEq, Value.slice.injEq] at q
  obtain ⟨⟨rfl, _, rfl⟩, _, ⟨rfl, _, rfl⟩, ⟨rfl, _, rfl⟩, _⟩ := q
  exact ⟨A0, c0, B, e, A2, c2, A3, c3, rfl, ⟨Kd.C_below h0.1 hb, h0.2⟩, ⟨h1, he⟩, ⟨Kd.C_below h2.1 hb, h2.2⟩, ⟨Kd.C_below h3.1 hb, h3.2⟩⟩
theorem DC_set2 {w W : World} {A0 A1 A2 A3 B : Option Addr} {c0 c1 c2 c3 n e : Nat} {d : Dsk} {l' : List S69} (h : DC w (.agg #[.slice A0 d.ino.length c0, .slice A1 d.dir.length c1, .slice A2 d.dur.length c2, .slice A3 d.ops.length c3]) d) (hb : Below w.heap.size w W) (h2 : Kd.C k69 W B n l') (hn : l'.length = n) (he : n ≤ e) :
    DC W (.agg #[.slice A0 d.ino.length c0, .slice A1 d.dir.length c1, .slice B n e, .slice A3 d.ops.length c3]) ⟨d.ino, d.dir, l', d.ops⟩ := by
  subst hn
  obtain ⟨_, _, _, _, _, _, _, _, q, h0, h1, _, h3⟩ := h
  injection q with q
  injection q with q
  simp only [List.cons.injEq, Value.slice.injEq] at q
  obtain ⟨⟨rfl, _, rfl⟩, ⟨rfl, _, rfl⟩, _, ⟨rfl, _, rfl⟩, _⟩ := q
  exact ⟨A0, c0, A1, c1, B, e, A3, c3, rfl, ⟨Kd.C_below h0.1 hb, h0.2⟩, ⟨Kd.C_below h1.1 hb, h1.2⟩, ⟨h2, he⟩, ⟨Kd.C_below h3.1 hb, h3.2⟩⟩
theorem DC_set3 {w W : World} {A0 A1 A2 A3 B : Option Addr} {c0 c1 c2 c3 n e : Nat} {d : Dsk} {l' : List S49} (h : DC w (.agg #[.slice A0 d.ino.length c0, .slice A1 d.dir.length c1, .slice A2 d.dur.length c2, .slice A3 d.ops.length c3]) d) (hb : Below w.heap.size w W) (h3 : Kd.C k49 W B n l') (hn : l'.length = n) (he : n ≤ e) :
    DC W (.agg #[.slice A0 d.ino.length c0, .slice A1 d.dir.length c1, .slice A2 d.dur.length c2, .slice B n e]) ⟨d.ino, d.dir, d.dur, l'⟩ := by
  subst hn
  obtain ⟨_, _, _, _, _, _, _, _, q, h0, h1, h2, _⟩ := h
  injection q with q
  injection q with q
  simp only [List.cons.injEq, Value.slice.injEq] at q
  obtain ⟨⟨rfl, _, rfl⟩, ⟨rfl, _, rfl⟩, ⟨rfl, _, rfl⟩, _⟩ := q
  exact ⟨A0, c0, A1, c1, A2, c2, B, e, rfl, ⟨Kd.C_below h0.1 hb, h0.2⟩, ⟨Kd.C_below h1.1 hb, h1.2⟩, ⟨Kd.C_below h2.1 hb, h2.2⟩, ⟨h3, he⟩⟩
theorem DC.C {w : World} {A0 A1 A2 A3 : Option Addr} {n0 n1 n2 n3 c0 c1 c2 c3 : Nat} {d : Dsk} (h : DC w (.agg #[.slice A0 n0 c0, .slice A1 n1 c1, .slice A2 n2 c2, .slice A3 n3 c3]) d) :
    (Kd.C k67 w A0 d.ino.length d.ino ∧ d.ino.length ≤ c0) ∧ (Kd.C k69 w A1 d.dir.length d.dir ∧ d.dir.length ≤ c1) ∧ (Kd.C k69 w A2 d.dur.length d.dur ∧ d.dur.length ≤ c2) ∧ (Kd.C k49 w A3 d.ops.length d.ops ∧ d.ops.length ≤ c3) := by
  obtain ⟨_, _, _, _, _, _, _, _, q, h0, h1, h2, h3⟩ := h
  injection q with q
  injection q with q
  simp only [List.cons.injEq, Value.slice.injEq] at q
  obtain ⟨⟨rfl, _, rfl⟩, ⟨rfl, _, rfl⟩, ⟨rfl, _, rfl⟩, ⟨rfl, _, rfl⟩, _⟩ := q
  exact ⟨h0, h1, h2, h3⟩
theorem add_add (a : Addr) (i j : Nat) : (a.add i).add j = a.add (i + j) := by
  unfold Addr.add
  by_cases hi : i = 0
  · subst hi; simp
  · by_cases hj : j = 0
    · subst hj; simp
    · rw [if_neg hi, if_neg hj, if_neg (by omega)]
      show Addr.mk a.block (a.off + i + j) none = Addr.mk a.block (a.off + (i + j)) none
      rw [Nat.add_assoc]
theorem C_drop69 {w : World} {ad : Addr} {n j : Nat} {l : List S69} (h : Kd.C k69 w (some ad) n l) (hj : j ≤ n) : Kd.C k69 w (some (ad.add (j * 2))) (n - j) (l.drop j) := by
  refine ⟨by rw [List.length_drop, h.1], by have := h.2.1; omega, fun h0 => ?_⟩
  obtain ⟨ad2, e, hc⟩ := h.2.2 (by omega)
  cases e
  refine ⟨_, rfl, fun i p hp => ?_⟩
  rw [List.getElem?_drop] at hp
  obtain ⟨c, hl, hk, hcell⟩ := hc (j + i) p hp
  refine ⟨c, hl, hk, fun q u hu => ?_⟩
  have := hcell q u hu
  rw [add_add]
  rw [show k69.sz = 2 from rfl] at this ⊢
  rw [show j * 2 + (i * 2 + q) = (j + i) * 2 + q by omega]
  exact this
theorem R69_putV {w : World} {T : Nat} {P : Nat → Prop} {g c n : Nat} {l l' : List S69} (h : Kd.R k69 69 w T P (.slice (some ⟨g, 0, none⟩) n c) l) (hn : l.length = n) (hl : l'.length = n) (j : Nat) (u : Value) (e : (cs69 l).set j u = cs69 l') : Kd.R k69 69 (w.setCell ⟨g, j, none⟩ u) T P (.slice (some ⟨g, 0, none⟩) n c) l' := by
  subst hn
  have ho := R69_own h
  refine R69_of (n := l.length) ?_ hl h.1
  refine ⟨by rw [cs69_len, hl], ?_⟩
  rcases ho.2 with ⟨e, _⟩ | ⟨g', cap, cur, e', hg, hh, hnc, hcm, hcs, htk⟩
  · injection e with e; cases e
  · injection e' with e1 _ e2
    injection e1 with e1
    injection e1 with e1
    subst e1
    subst e2
    refine .inr ⟨g, c, _, rfl, hg, blk_set hh _ _, hnc, hcm, by rw [Array.size_setIfInBounds]; exact hcs, ?_⟩
    rw [Array.toList_setIfInBounds, List.take_set, htk]
    exact e
theorem cs69_set0 : ∀ (l : List S69) (i : Nat) (m : ByteArray) (h : i < l.length), (cs69 l).set (i * 2) (.string m) = cs69 (l.set i ⟨m, l[i].f1⟩)
  | x :: l, 0, m, _ => rfl
  | x :: l, i + 1, m, h => by
    have := cs69_set0 l i m (by simpa using h)
    rw [List.set_cons_succ, cs69, cs69, show (i + 1) * 2 = i * 2 + 1 + 1 by omega]
    simpa using this
theorem R69_put1 {w : World} {T : Nat} {P : Nat → Prop} {g c j : Nat} {l : List S69} {x : S69} (h : Kd.R k69 69 w T P (.slice (some ⟨g, 0, none⟩) l.length c) l) (hj : j < l.length) (hx : x = l[j]) (m : Int) : Kd.R k69 69 (w.setCell ⟨g, j * 2 + 1, none⟩ (.int .i64 m)) T P (.slice (some ⟨g, 0, none⟩) l.length c) (l.set j ⟨x.f0, m⟩) :=
  R69_putV h rfl (by simp) (j * 2 + 1) (.int .i64 m) (by rw [cs69_set l j _ hj, ← hx])
theorem R69_put0 {w : World} {T : Nat} {P : Nat → Prop} {g c j : Nat} {l : List S69} {x : S69} (h : Kd.R k69 69 w T P (.slice (some ⟨g, 0, none⟩) l.length c) l) (hj : j < l.length) (hx : x = l[j]) (m : ByteArray) : Kd.R k69 69 (w.setCell ⟨g, j * 2, none⟩ (.string m)) T P (.slice (some ⟨g, 0, none⟩) l.length c) (l.set j ⟨m, x.f1⟩) :=
  R69_putV h rfl (by simp) (j * 2) (.string m) (by rw [cs69_set0 l j _ hj, ← hx])
set_option maxHeartbeats 8000000 in
set_option maxRecDepth 100000 in
theorem diskSpoilt_calls (A0 : Option Addr) (c0 : Nat) (l0 : List Int) (how at_ : Int) (w : World) (hr0 : Kd.C (Kd.int .i64) w A0 l0.length l0) (hc0 : l0.length ≤ c0) :
    Calls Try.prog 12 #[.slice A0 l0.length c0, .int .i64 how, .int .i64 at_] w fun e w' => e = .returned (.bool true) ∧ Below w.heap.size w w' := by
  obtain ⟨m, hm, hml⟩ := new_f l0
  go_enter Try.func12, Try.ntmps12
  go_wp2_with fail
  refine (corporamade_New.calls A0 c0 l0 m 0 w w (Below.refl _ _) hr0 hc0 hm).mono ?_
  rintro e w1 ⟨g, rfl, h1, h2, _⟩
  have HT1 := Aside0.mk (show Tp w w1 g from ⟨m, 0, h1, hml, Int.le_refl _⟩)
  have HB1 := Aside0.mk h2
  clear h1 h2 hm hml hr0 hc0
  go_wp2_with fail
  refine (build45_calls g 10 w w1 HT1.out HB1.out (by omega) (by omega)).mono ?_
  rintro e w2 ⟨v, d, rfl, h1, h2, h3, h4, h5, h6⟩
  have CD := Aside0.mk h1
  have HS := Aside0.mk h3
  have HB := Aside0.mk h5
  clear h1 h2 h3 h4 h5 h6 HT1 HB1
  obtain ⟨F0, f0, F1, f1, F2, f2, F3, f3, rfl, -⟩ := id CD.out
  go_upto_region 2 with fail
  obtain ⟨oD, hoD⟩ : ∃ q : Obj, q = .cells #[.slice F0 d.ino.length f0, .slice F1 d.dir.length f1, .slice F2 d.dur.length f2, .slice F3 d.ops.length f3] 47 := ⟨_, rfl⟩
  rw [← hoD]
  obtain ⟨D, hD⟩ : ∃ q, q = w2.heap.size := ⟨_, rfl⟩
  have BX0 := below_alloc (Below.refl w2.heap.size w2) oD
  have kk := blk_new w2 oD
  rw [← hD] at kk ⊢
  have hTD : w2.heap.size ≤ D := by omega
  generalize w2.alloc oD = w3 at BX0 kk ⊢
  subst hoD
  clear hD
  have i0 : d.ino.length ≤ 1000 := HS.out.1
  have i1 : d.dir.length ≤ 1000 := HS.out.2.1
  have i2 : d.dur.length ≤ 1000 := HS.out.2.2.1
  have i3 : d.ops.length ≤ 1000 := HS.out.2.2.2
  go_wp2_with fail
  refine (mod27_calls how 6 w3 (by omega) (by omega)).mono ?_
  rintro e w4 ⟨k, rfl, k0, k6, hd⟩
  have BX := Aside0.mk (below_step BX0 hd.below)
  have KD := Aside0.mk (blk_below kk hd.below)
  clear BX0 kk hd
  have z0 : w4.cell? ⟨D, 0, none⟩ = some (.slice F0 d.ino.length f0) := (blk_cell KD.out 0).trans rfl
  have z1 : w4.cell? ⟨D, 1, none⟩ = some (.slice F1 d.dir.length f1) := (blk_cell KD.out 1).trans rfl
  have z2 : w4.cell? ⟨D, 2, none⟩ = some (.slice F2 d.dur.length f2) := (blk_cell KD.out 2).trans rfl
  have z3 : w4.cell? ⟨D, 3, none⟩ = some (.slice F3 d.ops.length f3) := (blk_cell KD.out 3).trans rfl
  have hk : k = 0 ∨ k = 1 ∨ k = 2 ∨ k = 3 ∨ k = 4 ∨ k = 5 := by omega
  rcases hk with rfl | rfl | rfl | rfl | rfl | rfl
  · by_cases hl : 0 < d.ino.length
    · obtain ⟨q, hq, q0, q1⟩ := mod_f at_ (d.ino.length : Int) (by omega) (by omega)
      obtain ⟨j, hj⟩ : ∃ j : Nat, q = (j : Int) := ⟨q.toNat, (Int.toNat_of_nonneg q0).symm⟩
      subst hj
      have hjn : j < d.ino.length := by omega
      have MC := Aside0.mk (fun W => corporamade_Mod.calls at_ (d.ino.length : Int) (j : Int) W hq)
      have hj0 : (0 : Int) ≤ (j : Int) := by omega
      have hj1 : (j : Int) < (d.ino.length : Int) := by omega
      have hj2 : (j : Int) ≤ (d.ino.length : Int) := by omega
      have hj3 : j ≤ d.ino.length := by omega
      clear hq q0 q1
      go_wp2_with fail
      refine (MC.out w4).mono ?_
      rintro e w5 ⟨rfl, hd⟩
      have BX5 := Aside0.mk (below_step BX.out hd.below)
      have KD5 := Aside0.mk (blk_below KD.out hd.below)
      clear hd z0 z1 z2 z3 KD BX MC
      have z0 := (blk_cell KD5.out 0).trans rfl
      have bn := below_alloc (Below.refl w5.heap.size w5) (.cells #[] 67)
      have QO := Aside0.mk (R67_empty (T := w2.heap.size) (by have := BX5.out.size; omega) (blk_new w5 (.cells #[] 67)))
      have QX := Aside0.mk (Kd.C_below CD.out.C.1.1 (below_step BX5.out bn))
      have QB := Aside0.mk (below_step BX5.out bn)
      have QK := Aside0.mk (blk_below KD5.out bn)
      have zz : (w5.alloc (.cells #[] 67)).cell? ⟨D, 0, none⟩ = some (.slice F0 d.ino.length f0) := (blk_cell QK.out 0).trans rfl
      clear bn
      go_upto_region 6 with (at_builtin; go_loud (refine Kd.R_append_rows k67 (Rr := k67.K _) (w0 := w2) w2.heap.size rfl _ _ 43 67 (.agg #[.string ⟨#[]⟩, .int .i64 0]) 24 rfl Try.underlying43 info67 rfl (by decide) (by decide) (.slice (some ⟨w5.heap.size, 0, none⟩) 0 0) [] d.ino F0 d.ino.length f0 (fun _ => True) (fun _ => False) rfl rfl QO.out QX.out ?q2 ?q3 ?q4 QB.out QB.out.size ?q7 ?_); (case q2 => intro y cs h; obtain rfl := k67_open h; exact k67_mkM _ _ _ _); (case q3 => intro k h; exact h.elim); (case q4 => intro k hk; trivial); (case q7 => simp only [List.length_nil]; omega); intro v7 w7 h1 h2 h3 h4; rw [List.nil_append] at h1; obtain ⟨B0, b0, hv⟩ := Kd.R_slice h1; subst hv; have R7 := Aside0.mk h1; have BX7 := Aside0.mk h2; have KD7 := Aside0.mk (blk_grown QK.out h3 (Kd.R_ne QO.out QK.out (by decide))); have t0 := (blk_cell KD7.out 0).trans rfl; have tf0 := blk_frozen KD7.out 0; clear h1 h2 h3 h4)
      have KD8 := Aside0.mk (blk_put KD7.out 0 (.slice B0 d.ino.length b0) rfl)
      have R8 := Aside0.mk (Kd.R_set R7.out KD7.out (by decide) 0 (.slice B0 d.ino.length b0))
      have BX8 := Aside0.mk (BX7.out.setCell (p := ⟨D, 0, none⟩) hTD (.slice B0 d.ino.length b0))
      generalize w7.setCell ⟨D, 0, none⟩ (.slice B0 d.ino.length b0) = w8 at KD8 R8 BX8 ⊢
      clear QO QX QB QK zz R7 BX7 KD7 t0 tf0 KD5 BX5
      clear z0
      obtain ⟨gg, cur, eb, hgg⟩ := R67_block R8.out hl
      subst eb
      obtain ⟨xx0, xx1⟩ := R67_cells R8.out j hjn
      obtain ⟨x, hx⟩ : ∃ x, x = d.ino[j] := ⟨_, rfl⟩
      rw [← hx] at xx0 xx1
      have XI := Aside0.mk hx
      have GG := Aside0.mk hgg
      have hTg : w2.heap.size ≤ gg := own_base (R67_own R8.out) gg rfl
      have hgD : gg ≠ D := blk_ne hgg KD8.out (by decide)
      clear hx hgg xx0 xx1
      have z0 := (blk_cell KD8.out 0).trans rfl
      go_region_with
        (first
          | (go_at_call 27; refine (mod27_calls _ 9 _ (by omega) (by omega)).mono ?_; rintro e w9 ⟨r, rfl, r0, r9, hd⟩; have b9 := below_step (below_drew1 (Below.refl w8.heap.size w8)) hd.below; have BX9 := Aside0.mk (below_step BX8.out b9); have KD9 := Aside0.mk (blk_below KD8.out b9); have p0 := (blk_cell KD9.out 0).trans rfl; have hw : IntKind.i64.wrap (r - 1) = r - 1 := (by rw [IntKind.wrap_i64]; omega); have RRw9 := Aside0.mk (Kd.R_below R8.out b9); have GGw9 := Aside0.mk (blk_below GG.out b9); have y0w9 : w9.cell? ⟨gg, j * 2, none⟩ = some (.string x.f0) := (by rw [XI.out]; exact (R67_cells RRw9.out j hjn).1); have y1w9 : w9.cell? ⟨gg, j * 2 + 1, none⟩ = some (.int .i64 x.f1) := (by rw [XI.out]; exact (R67_cells RRw9.out j hjn).2); have yfw9 := blk_frozen GGw9.out (j * 2); have ygw9 := blk_frozen GGw9.out (j * 2 + 1); clear hd b9))
      all_goals
        go_upto_region 19 with fail
        have KDa := Aside0.mk (blk_far KD9.out (p := ⟨gg, j * 2 + 1, none⟩) (Ne.symm hgD) (.int .i64 (r - 1)))
        have RRa := Aside0.mk (R67_put (l' := d.ino.set j ⟨x.f0, r - 1⟩) RRw9.out rfl (by simp) (j * 2 + 1) (.int .i64 (r - 1)) (by rw [cs67_set1 d.ino j _ hjn, ← XI.out]))
        have BXa := Aside0.mk (BX9.out.setCell (p := ⟨gg, j * 2 + 1, none⟩) hTg (.int .i64 (r - 1)))
        generalize w9.setCell ⟨gg, j * 2 + 1, none⟩ (.int .i64 (r - 1)) = wz at KDa RRa BXa ⊢
        have CX := Aside0.mk (DC_set0 (n := d.ino.length) (e := b0) CD.out BXa.out (Kd.R_reads' RRa.out).2.2 (by simp) (Kd.R_reads' RRa.out).2.1)
        clear z0 p0 y0w9 y1w9 yfw9 ygw9 KD8 R8 BX8 GG RRw9 GGw9 KD9 BX9
        go_upto_region 19 with fail
        have HF := Aside0.mk (below_step HB.out BXa.out)
        have MF0 : Sml 40000 (⟨d.ino.set j ⟨x.f0, r - 1⟩, d.dir, d.dur, d.ops⟩) := ⟨by show (d.ino.set j _).length ≤ _; rw [List.length_set]; omega, by show d.dir.length ≤ _; omega, by show d.dur.length ≤ _; omega, by show d.ops.length ≤ _; omega⟩
        obtain ⟨dd, hdd⟩ : ∃ dd : Dsk, dd = (⟨d.ino.set j ⟨x.f0, r - 1⟩, d.dir, d.dur, d.ops⟩) := ⟨_, rfl⟩
        have CF : DC wz (.agg #[.slice (some ⟨gg, 0, none⟩) d.ino.length b0, .slice F1 d.dir.length f1, .slice F2 d.dur.length f2, .slice F3 d.ops.length f3]) dd := by rw [hdd]; exact CX.out
        have MF : Aside0 (Sml 40000 dd) := ⟨by rw [hdd]; exact MF0⟩
        obtain ⟨vr, hvr⟩ : ∃ vr : Int, vr = (if valid dd = true then 0 else 9) := ⟨_, rfl⟩
        have VA0 := (fun W h => validate_calls (.agg #[.slice (some ⟨gg, 0, none⟩) d.ino.length b0, .slice F1 d.dir.length f1, .slice F2 d.dur.length f2, .slice F3 d.ops.length f3]) dd W h ⟨Nat.le_trans MF.out.1 (by omega), Nat.le_trans MF.out.2.1 (by omega), Nat.le_trans MF.out.2.2.1 (by omega), Nat.le_trans MF.out.2.2.2 (by omega)⟩)
        have VB0 := (fun W h => validate36_calls (.agg #[.slice (some ⟨gg, 0, none⟩) d.ino.length b0, .slice F1 d.dir.length f1, .slice F2 d.dur.length f2, .slice F3 d.ops.length f3]) dd W h MF.out)
        rw [← hvr] at VA0 VB0
        have VA := Aside0.mk VA0
        have VB := Aside0.mk VB0
        have CG := Aside0.mk CF
        have hvv : (vr == vr) = true := beq_self_eq_true vr
        clear VA0 VB0 hvr hdd CF MF0
        have d0 := (blk_cell KDa.out 0).trans rfl
        have d1 := (blk_cell KDa.out 1).trans rfl
        have d2 := (blk_cell KDa.out 2).trans rfl
        have d3 := (blk_cell KDa.out 3).trans rfl
        have BW := Aside0.mk (below_drew1 (Below.refl wz.heap.size wz))
        clear d0 d1 d2 d3
        have d0 : wz.cell? ⟨D, 0, none⟩ = some (.slice (some ⟨gg, 0, none⟩) d.ino.length b0) := (blk_cell KDa.out 0).trans rfl
        have d1 : wz.cell? ⟨D, 1, none⟩ = some (.slice F1 d.dir.length f1) := (blk_cell KDa.out 1).trans rfl
        have d2 : wz.cell? ⟨D, 2, none⟩ = some (.slice F2 d.dur.length f2) := (blk_cell KDa.out 2).trans rfl
        have d3 : wz.cell? ⟨D, 3, none⟩ = some (.slice F3 d.ops.length f3) := (blk_cell KDa.out 3).trans rfl
        go_region_held3 (fun w' => w'.cell? ⟨D, 0, none⟩ = some (.slice (some ⟨gg, 0, none⟩) d.ino.length b0) ∧ w'.cell? ⟨D, 1, none⟩ = some (.slice F1 d.dir.length f1) ∧ w'.cell? ⟨D, 2, none⟩ = some (.slice F2 d.dur.length f2) ∧ w'.cell? ⟨D, 3, none⟩ = some (.slice F3 d.ops.length f3))
          (first | (go_keep; done) | exact ⟨(blk_cell (blk_below KDa.out BW.out) 0).trans rfl, (blk_cell (blk_below KDa.out BW.out) 1).trans rfl, (blk_cell (blk_below KDa.out BW.out) 2).trans rfl, (blk_cell (blk_below KDa.out BW.out) 3).trans rfl⟩)
          (first
            | (go_at_call 35; refine (VA.out _ (CG.out.below BW.out)).mono ?_; rintro e w26 ⟨rfl, h2⟩; have n_ := Aside0.mk (below_step BW.out h2); clear BW h2; have BW := n_; clear n_)
            | (go_at_call 36; refine (VB.out _ (CG.out.below BW.out)).mono ?_; rintro e w27 ⟨rfl, h2⟩; have n_ := Aside0.mk (below_step BW.out h2); clear BW h2; have BW := n_; clear n_)
            | (go_at_call 43; refine (known43_calls _).mono ?_; rintro e w28 ⟨rfl, h2⟩; have n_ := Aside0.mk (below_step BW.out h2); clear BW h2; have BW := n_; clear n_))
        all_goals
          go_wp2
          go_ret
          exact ⟨rfl, below_step HF.out BW.out⟩
    · have CX := Aside0.mk (CD.out.below BX.out)
      go_upto_region 19 with fail
      have HF := Aside0.mk (below_step HB.out BX.out)
      have MF0 : Sml 40000 (d) := ⟨by omega, by omega, by omega, by omega⟩
      obtain ⟨dd, hdd⟩ : ∃ dd : Dsk, dd = (d) := ⟨_, rfl⟩
      have CF : DC w4 (.agg #[.slice F0 d.ino.length f0, .slice F1 d.dir.length f1, .slice F2 d.dur.length f2, .slice F3 d.ops.length f3]) dd := by rw [hdd]; exact CX.out
      have MF : Aside0 (Sml 40000 dd) := ⟨by rw [hdd]; exact MF0⟩
      obtain ⟨vr, hvr⟩ : ∃ vr : Int, vr = (if valid dd = true then 0 else 9) := ⟨_, rfl⟩
      have VA0 := (fun W h => validate_calls (.agg #[.slice F0 d.ino.length f0, .slice F1 d.dir.length f1, .slice F2 d.dur.length f2, .slice F3 d.ops.length f3]) dd W h ⟨Nat.le_trans MF.out.1 (by omega), Nat.le_trans MF.out.2.1 (by omega), Nat.le_trans MF.out.2.2.1 (by omega), Nat.le_trans MF.out.2.2.2 (by omega)⟩)
      have VB0 := (fun W h => validate36_calls (.agg #[.slice F0 d.ino.length f0, .slice F1 d.dir.length f1, .slice F2 d.dur.length f2, .slice F3 d.ops.length f3]) dd W h MF.out)
      rw [← hvr] at VA0 VB0
      have VA := Aside0.mk VA0
      have VB := Aside0.mk VB0
      have CG := Aside0.mk CF
      have hvv : (vr == vr) = true := beq_self_eq_true vr
      clear VA0 VB0 hvr hdd CF MF0
      have d0 := (blk_cell KD.out 0).trans rfl
      have d1 := (blk_cell KD.out 1).trans rfl
      have d2 := (blk_cell KD.out 2).trans rfl
      have d3 := (blk_cell KD.out 3).trans rfl
      have BW := Aside0.mk (below_drew1 (Below.refl w4.heap.size w4))
      clear d0 d1 d2 d3
      have d0 : w4.cell? ⟨D, 0, none⟩ = some (.slice F0 d.ino.length f0) := (blk_cell KD.out 0).trans rfl
      have d1 : w4.cell? ⟨D, 1, none⟩ = some (.slice F1 d.dir.length f1) := (blk_cell KD.out 1).trans rfl
      have d2 : w4.cell? ⟨D, 2, none⟩ = some (.slice F2 d.dur.length f2) := (blk_cell KD.out 2).trans rfl
      have d3 : w4.cell? ⟨D, 3, none⟩ = some (.slice F3 d.ops.length f3) := (blk_cell KD.out 3).trans rfl
      go_region_held3 (fun w' => w'.cell? ⟨D, 0, none⟩ = some (.slice F0 d.ino.length f0) ∧ w'.cell? ⟨D, 1, none⟩ = some (.slice F1 d.dir.length f1) ∧ w'.cell? ⟨D, 2, none⟩ = some (.slice F2 d.dur.length f2) ∧ w'.cell? ⟨D, 3, none⟩ = some (.slice F3 d.ops.length f3))
        (first | (go_keep; done) | exact ⟨(blk_cell (blk_below KD.out BW.out) 0).trans rfl, (blk_cell (blk_below KD.out BW.out) 1).trans rfl, (blk_cell (blk_below KD.out BW.out) 2).trans rfl, (blk_cell (blk_below KD.out BW.out) 3).trans rfl⟩)
        (first
          | (go_at_call 35; refine (VA.out _ (CG.out.below BW.out)).mono ?_; rintro e w26 ⟨rfl, h2⟩; have n_ := Aside0.mk (below_step BW.out h2); clear BW h2; have BW := n_; clear n_)
          | (go_at_call 36; refine (VB.out _ (CG.out.below BW.out)).mono ?_; rintro e w27 ⟨rfl, h2⟩; have n_ := Aside0.mk (below_step BW.out h2); clear BW h2; have BW := n_; clear n_)
          | (go_at_call 43; refine (known43_calls _).mono ?_; rintro e w28 ⟨rfl, h2⟩; have n_ := Aside0.mk (below_step BW.out h2); clear BW h2; have BW := n_; clear n_))
      all_goals
        go_wp2
        go_ret
        exact ⟨rfl, below_step HF.out BW.out⟩
  · by_cases hl : 0 < d.dir.length
    · obtain ⟨q, hq, q0, q1⟩ := mod_f at_ (d.dir.length : Int) (by omega) (by omega)
      obtain ⟨j, hj⟩ : ∃ j : Nat, q = (j : Int) := ⟨q.toNat, (Int.toNat_of_nonneg q0).symm⟩
      subst hj
      have hjn : j < d.dir.length := by omega
      have MC := Aside0.mk (fun W => corporamade_Mod.calls at_ (d.dir.length : Int) (j : Int) W hq)
      have hj0 : (0 : Int) ≤ (j : Int) := by omega
      have hj1 : (j : Int) < (d.dir.length : Int) := by omega
      have hj2 : (j : Int) ≤ (d.dir.length : Int) := by omega
      have hj3 : j ≤ d.dir.length := by omega
      clear hq q0 q1
      have bn := below_alloc (Below.refl w4.heap.size w4) (.cells #[] 69)
      have QO := Aside0.mk (R69_empty (T := w2.heap.size) (by have := BX.out.size; omega) (blk_new w4 (.cells #[] 69)))
      have QX := Aside0.mk (Kd.C_below CD.out.C.2.1.1 (below_step BX.out bn))
      have QB := Aside0.mk (below_step BX.out bn)
      have QK := Aside0.mk (blk_below KD.out bn)
      have zz : (w4.alloc (.cells #[] 69)).cell? ⟨D, 1, none⟩ = some (.slice F1 d.dir.length f1) := (blk_cell QK.out 1).trans rfl
      clear bn
      go_upto_region 9 with (at_builtin; go_loud (refine Kd.R_append_rows k69 (Rr := k69.K _) (w0 := w2) w2.heap.size rfl _ _ 44 69 (.agg #[.string ⟨#[]⟩, .int .i64 0]) 24 rfl Try.underlying44 info69 rfl (by decide) (by decide) (.slice (some ⟨w4.heap.size, 0, none⟩) 0 0) [] d.dir F1 d.dir.length f1 (fun _ => True) (fun _ => False) rfl rfl QO.out QX.out ?q2 ?q3 ?q4 QB.out QB.out.size ?q7 ?_); (case q2 => intro y cs h; obtain rfl := k69_open h; exact k69_mkM _ _ _ _); (case q3 => intro k h; exact h.elim); (case q4 => intro k hk; trivial); (case q7 => simp only [List.length_nil]; omega); intro v7 w7 h1 h2 h3 h4; rw [List.nil_append] at h1; obtain ⟨B0, b0, hv⟩ := Kd.R_slice h1; subst hv; have R7 := Aside0.mk h1; have BX7 := Aside0.mk h2; have KD7 := Aside0.mk (blk_grown QK.out h3 (Kd.R_ne QO.out QK.out (by decide))); have t0 := (blk_cell KD7.out 1).trans rfl; have tf0 := blk_frozen KD7.out 1; clear h1 h2 h3 h4)
      have KD8 := Aside0.mk (blk_put KD7.out 1 (.slice B0 d.dir.length b0) rfl)
      have R8 := Aside0.mk (Kd.R_set R7.out KD7.out (by decide) 1 (.slice B0 d.dir.length b0))
      have BX8 := Aside0.mk (BX7.out.setCell (p := ⟨D, 1, none⟩) hTD (.slice B0 d.dir.length b0))
      generalize w7.setCell ⟨D, 1, none⟩ (.slice B0 d.dir.length b0) = w8 at KD8 R8 BX8 ⊢
      clear QO QX QB QK zz R7 BX7 KD7 t0 tf0 KD BX
      clear z0 z1 z2 z3
      obtain ⟨gg, cur, eb, hgg⟩ := R69_block R8.out hl
      subst eb
      obtain ⟨xx0, xx1⟩ := R69_cells R8.out j hjn
      obtain ⟨x, hx⟩ : ∃ x, x = d.dir[j] := ⟨_, rfl⟩
      rw [← hx] at xx0 xx1
      have XI := Aside0.mk hx
      have GG := Aside0.mk hgg
      have hTg : w2.heap.size ≤ gg := own_base (R69_own R8.out) gg rfl
      have hgD : gg ≠ D := blk_ne hgg KD8.out (by decide)
      clear hx hgg xx0 xx1
      have z1 : w8.cell? ⟨D, 1, none⟩ = some (.slice (some ⟨gg, 0, none⟩) d.dir.length b0) := (blk_cell KD8.out 1).trans rfl
      have TK1 := Aside0.mk trivial
      have BW := Aside0.mk (below_drew1 (Below.refl w8.heap.size w8))
      go_region_held3 (fun w' => w'.cell? ⟨D, 1, none⟩ = some (.slice (some ⟨gg, 0, none⟩) d.dir.length b0))
        (first | (go_keep; done) | exact (blk_cell (blk_below KD8.out BW.out) 1).trans rfl)
        (first
          | (clear TK1; go_at_call 27; refine (MC.out _).mono ?_; rintro e w6 ⟨rfl, hd⟩; have n_ := Aside0.mk (below_step BW.out hd.below); clear BW; have BW := n_; clear n_; clear hd)
          | (go_at_call 27; refine (mod27_calls _ 6 _ (by omega) (by omega)).mono ?_; rintro e w9 ⟨r, rfl, r0, r9, hd⟩; have n_ := Aside0.mk (below_step BW.out hd.below); clear BW; have BW := n_; clear n_; have hw : IntKind.i64.wrap (r - 1) = r - 1 := (by rw [IntKind.wrap_i64]; omega); have BX9 := Aside0.mk (below_step BX8.out BW.out); have KD9 := Aside0.mk (blk_below KD8.out BW.out); have RRw9 := Aside0.mk (Kd.R_below R8.out BW.out); have GGw9 := Aside0.mk (blk_below GG.out BW.out); have y0w9 : w9.cell? ⟨gg, j * 2, none⟩ = some (.string x.f0) := (by rw [XI.out]; exact (R69_cells RRw9.out j hjn).1); have y1w9 : w9.cell? ⟨gg, j * 2 + 1, none⟩ = some (.int .i64 x.f1) := (by rw [XI.out]; exact (R69_cells RRw9.out j hjn).2); have yfw9 := blk_frozen GGw9.out (j * 2); have ygw9 := blk_frozen GGw9.out (j * 2 + 1); clear hd))
      all_goals
        go_upto_region 19 with fail
        have KDa := Aside0.mk (blk_far KD9.out (p := ⟨gg, j * 2 + 1, none⟩) (Ne.symm hgD) (.int .i64 (r - 1)))
        have RRa := Aside0.mk (R69_put1 (x := x) RRw9.out hjn XI.out (r - 1))
        have BXa := Aside0.mk (BX9.out.setCell (p := ⟨gg, j * 2 + 1, none⟩) hTg (.int .i64 (r - 1)))
        generalize w9.setCell ⟨gg, j * 2 + 1, none⟩ (.int .i64 (r - 1)) = wz at KDa RRa BXa ⊢
        have CX := Aside0.mk (DC_set1 (n := d.dir.length) (e := b0) CD.out BXa.out (Kd.R_reads' RRa.out).2.2 (by simp) (Kd.R_reads' RRa.out).2.1)
        clear z1 y0w9 y1w9 yfw9 ygw9 KD8 R8 BX8 GG RRw9 GGw9 KD9 BX9 BW
        go_upto_region 19 with fail
        have HF := Aside0.mk (below_step HB.out BXa.out)
        have MF0 : Sml 40000 (⟨d.ino, d.dir.set j ⟨x.f0, r - 1⟩, d.dur, d.ops⟩) := ⟨by show d.ino.length ≤ _; omega, by show (d.dir.set j _).length ≤ _; rw [List.length_set]; omega, by show d.dur.length ≤ _; omega, by show d.ops.length ≤ _; omega⟩
        obtain ⟨dd, hdd⟩ : ∃ dd : Dsk, dd = (⟨d.ino, d.dir.set j ⟨x.f0, r - 1⟩, d.dur, d.ops⟩) := ⟨_, rfl⟩
        have CF : DC wz (.agg #[.slice F0 d.ino.length f0, .slice (some ⟨gg, 0, none⟩) d.dir.length b0, .slice F2 d.dur.length f2, .slice F3 d.ops.length f3]) dd := by rw [hdd]; exact CX.out
        have MF : Aside0 (Sml 40000 dd) := ⟨by rw [hdd]; exact MF0⟩
        obtain ⟨vr, hvr⟩ : ∃ vr : Int, vr = (if valid dd = true then 0 else 9) := ⟨_, rfl⟩
        have VA0 := (fun W h => validate_calls (.agg #[.slice F0 d.ino.length f0, .slice (some ⟨gg, 0, none⟩) d.dir.length b0, .slice F2 d.dur.length f2, .slice F3 d.ops.length f3]) dd W h ⟨Nat.le_trans MF.out.1 (by omega), Nat.le_trans MF.out.2.1 (by omega), Nat.le_trans MF.out.2.2.1 (by omega), Nat.le_trans MF.out.2.2.2 (by omega)⟩)
        have VB0 := (fun W h => validate36_calls (.agg #[.slice F0 d.ino.length f0, .slice (some ⟨gg, 0, none⟩) d.dir.length b0, .slice F2 d.dur.length f2, .slice F3 d.ops.length f3]) dd W h MF.out)
        rw [← hvr] at VA0 VB0
        have VA := Aside0.mk VA0
        have VB := Aside0.mk VB0
        have CG := Aside0.mk CF
        have hvv : (vr == vr) = true := beq_self_eq_true vr
        clear VA0 VB0 hvr hdd CF MF0
        have d0 := (blk_cell KDa.out 0).trans rfl
        have d1 := (blk_cell KDa.out 1).trans rfl
        have d2 := (blk_cell KDa.out 2).trans rfl
        have d3 := (blk_cell KDa.out 3).trans rfl
        have BW := Aside0.mk (below_drew1 (Below.refl wz.heap.size wz))
        clear d0 d1 d2 d3
        have d0 : wz.cell? ⟨D, 0, none⟩ = some (.slice F0 d.ino.length f0) := (blk_cell KDa.out 0).trans rfl
        have d1 : wz.cell? ⟨D, 1, none⟩ = some (.slice (some ⟨gg, 0, none⟩) d.dir.length b0) := (blk_cell KDa.out 1).trans rfl
        have d2 : wz.cell? ⟨D, 2, none⟩ = some (.slice F2 d.dur.length f2) := (blk_cell KDa.out 2).trans rfl
        have d3 : wz.cell? ⟨D, 3, none⟩ = some (.slice F3 d.ops.length f3) := (blk_cell KDa.out 3).trans rfl
        go_region_held3 (fun w' => w'.cell? ⟨D, 0, none⟩ = some (.slice F0 d.ino.length f0) ∧ w'.cell? ⟨D, 1, none⟩ = some (.slice (some ⟨gg, 0, none⟩) d.dir.length b0) ∧ w'.cell? ⟨D, 2, none⟩ = some (.slice F2 d.dur.length f2) ∧ w'.cell? ⟨D, 3, none⟩ = some (.slice F3 d.ops.length f3))
          (first | (go_keep; done) | exact ⟨(blk_cell (blk_below KDa.out BW.out) 0).trans rfl, (blk_cell (blk_below KDa.out BW.out) 1).trans rfl, (blk_cell (blk_below KDa.out BW.out) 2).trans rfl, (blk_cell (blk_below KDa.out BW.out) 3).trans rfl⟩)
          (first
            | (go_at_call 35; refine (VA.out _ (CG.out.below BW.out)).mono ?_; rintro e w26 ⟨rfl, h2⟩; have n_ := Aside0.mk (below_step BW.out h2); clear BW h2; have BW := n_; clear n_)
            | (go_at_call 36; refine (VB.out _ (CG.out.below BW.out)).mono ?_; rintro e w27 ⟨rfl, h2⟩; have n_ := Aside0.mk (below_step BW.out h2); clear BW h2; have BW := n_; clear n_)
            | (go_at_call 43; refine (known43_calls _).mono ?_; rintro e w28 ⟨rfl, h2⟩; have n_ := Aside0.mk (below_step BW.out h2); clear BW h2; have BW := n_; clear n_))
        all_goals
          go_wp2
          go_ret
          exact ⟨rfl, below_step HF.out BW.out⟩
    · have CX := Aside0.mk (CD.out.below BX.out)
      go_upto_region 19 with fail
      have HF := Aside0.mk (below_step HB.out BX.out)
      have MF0 : Sml 40000 (d) := ⟨by omega, by omega, by omega, by omega⟩
      obtain ⟨dd, hdd⟩ : ∃ dd : Dsk, dd = (d) := ⟨_, rfl⟩
      have CF : DC w4 (.agg #[.slice F0 d.ino.length f0, .slice F1 d.dir.length f1, .slice F2 d.dur.length f2, .slice F3 d.ops.length f3]) dd := by rw [hdd]; exact CX.out
      have MF : Aside0 (Sml 40000 dd) := ⟨by rw [hdd]; exact MF0⟩
      obtain ⟨vr, hvr⟩ : ∃ vr : Int, vr = (if valid dd = true then 0 else 9) := ⟨_, rfl⟩
      have VA0 := (fun W h => validate_calls (.agg #[.slice F0 d.ino.length f0, .slice F1 d.dir.length f1, .slice F2 d.dur.length f2, .slice F3 d.ops.length f3]) dd W h ⟨Nat.le_trans MF.out.1 (by omega), Nat.le_trans MF.out.2.1 (by omega), Nat.le_trans MF.out.2.2.1 (by omega), Nat.le_trans MF.out.2.2.2 (by omega)⟩)
      have VB0 := (fun W h => validate36_calls (.agg #[.slice F0 d.ino.length f0, .slice F1 d.dir.length f1, .slice F2 d.dur.length f2, .slice F3 d.ops.length f3]) dd W h MF.out)
      rw [← hvr] at VA0 VB0
      have VA := Aside0.mk VA0
      have VB := Aside0.mk VB0
      have CG := Aside0.mk CF
      have hvv : (vr == vr) = true := beq_self_eq_true vr
      clear VA0 VB0 hvr hdd CF MF0
      have d0 := (blk_cell KD.out 0).trans rfl
      have d1 := (blk_cell KD.out 1).trans rfl
      have d2 := (blk_cell KD.out 2).trans rfl
      have d3 := (blk_cell KD.out 3).trans rfl
      have BW := Aside0.mk (below_drew1 (Below.refl w4.heap.size w4))
      clear d0 d1 d2 d3
      have d0 : w4.cell? ⟨D, 0, none⟩ = some (.slice F0 d.ino.length f0) := (blk_cell KD.out 0).trans rfl
      have d1 : w4.cell? ⟨D, 1, none⟩ = some (.slice F1 d.dir.length f1) := (blk_cell KD.out 1).trans rfl
      have d2 : w4.cell? ⟨D, 2, none⟩ = some (.slice F2 d.dur.length f2) := (blk_cell KD.out 2).trans rfl
      have d3 : w4.cell? ⟨D, 3, none⟩ = some (.slice F3 d.ops.length f3) := (blk_cell KD.out 3).trans rfl
      go_region_held3 (fun w' => w'.cell? ⟨D, 0, none⟩ = some (.slice F0 d.ino.length f0) ∧ w'.cell? ⟨D, 1, none⟩ = some (.slice F1 d.dir.length f1) ∧ w'.cell? ⟨D, 2, none⟩ = some (.slice F2 d.dur.length f2) ∧ w'.cell? ⟨D, 3, none⟩ = some (.slice F3 d.ops.length f3))
        (first | (go_keep; done) | exact ⟨(blk_cell (blk_below KD.out BW.out) 0).trans rfl, (blk_cell (blk_below KD.out BW.out) 1).trans rfl, (blk_cell (blk_below KD.out BW.out) 2).trans rfl, (blk_cell (blk_below KD.out BW.out) 3).trans rfl⟩)
        (first
          | (go_at_call 35; refine (VA.out _ (CG.out.below BW.out)).mono ?_; rintro e w26 ⟨rfl, h2⟩; have n_ := Aside0.mk (below_step BW.out h2); clear BW h2; have BW := n_; clear n_)
          | (go_at_call 36; refine (VB.out _ (CG.out.below BW.out)).mono ?_; rintro e w27 ⟨rfl, h2⟩; have n_ := Aside0.mk (below_step BW.out h2); clear BW h2; have BW := n_; clear n_)
          | (go_at_call 43; refine (known43_calls _).mono ?_; rintro e w28 ⟨rfl, h2⟩; have n_ := Aside0.mk (below_step BW.out h2); clear BW h2; have BW := n_; clear n_))
      all_goals
        go_wp2
        go_ret
        exact ⟨rfl, below_step HF.out BW.out⟩
  · by_cases hl : 0 < d.dur.length
    · obtain ⟨q, hq, q0, q1⟩ := mod_f at_ (d.dur.length : Int) (by omega) (by omega)
      obtain ⟨j, hj⟩ : ∃ j : Nat, q = (j : Int) := ⟨q.toNat, (Int.toNat_of_nonneg q0).symm⟩
      subst hj
      have hjn : j < d.dur.length := by omega
      have MC := Aside0.mk (fun W => corporamade_Mod.calls at_ (d.dur.length : Int) (j : Int) W hq)
      have hj0 : (0 : Int) ≤ (j : Int) := by omega
      have hj1 : (j : Int) < (d.dur.length : Int) := by omega
      have hj2 : (j : Int) ≤ (d.dur.length : Int) := by omega
      have hj3 : j ≤ d.dur.length := by omega
      clear hq q0 q1
      obtain ⟨ad, ea, hcs⟩ := CD.out.C.2.2.1.1.2.2 hl
      subst ea
      have hcap : d.dur.length ≤ f2 := CD.out.C.2.2.1.2
      have hcap2 : (d.dur.length : Int) ≤ (f2 : Int) := by omega
      have hcap3 : (j : Int) ≤ (f2 : Int) := by omega
      have hcap4 : ¬ f2 = j := by omega
      go_upto_region 11 with fail
      go_region_with
        (first
          | (go_at_call 27; refine (MC.out _).mono ?_; rintro e w6 ⟨rfl, hd⟩; have b6 := below_step (below_drew1 (Below.refl w4.heap.size w4)) hd.below; have BX6 := Aside0.mk (below_step BX.out b6); have KD6 := Aside0.mk (blk_below KD.out b6); have q0 := (blk_cell KD6.out 0).trans rfl; have q1 := (blk_cell KD6.out 1).trans rfl; have q2 := (blk_cell KD6.out 2).trans rfl; have q3 := (blk_cell KD6.out 3).trans rfl; have qf0 := blk_frozen KD6.out 0; have qf1 := blk_frozen KD6.out 1; have qf2 := blk_frozen KD6.out 2; have qf3 := blk_frozen KD6.out 3; clear hd b6))
      all_goals
        go_upto_region 19 with fail
        have KD7 := Aside0.mk (blk_put KD6.out 2 (.slice (some (ad.add (j * 2))) (d.dur.length - j) (f2 - j)) rfl)
        have BX7 := Aside0.mk (BX6.out.setCell (p := ⟨D, 2, none⟩) hTD (.slice (some (ad.add (j * 2))) (d.dur.length - j) (f2 - j)))
        generalize w6.setCell ⟨D, 2, none⟩ (.slice (some (ad.add (j * 2))) (d.dur.length - j) (f2 - j)) = w7 at KD7 BX7 ⊢
        have CX := Aside0.mk (DC_set2 (n := d.dur.length - j) (e := f2 - j) CD.out BX7.out (C_drop69 (Kd.C_below CD.out.C.2.2.1.1 BX7.out) hj3) (by rw [List.length_drop]) (by omega))
        clear KD6 BX6 q0 q1 q2 q3 qf0 qf1 qf2 qf3 z0 z1 z2 z3 KD BX MC
        go_upto_region 19 with fail
        have HF := Aside0.mk (below_step HB.out BX7.out)
        have MF0 : Sml 40000 (⟨d.ino, d.dir, d.dur.drop j, d.ops⟩) := ⟨by show d.ino.length ≤ _; omega, by show d.dir.length ≤ _; omega, by show (d.dur.drop j).length ≤ _; rw [List.length_drop]; omega, by show d.ops.length ≤ _; omega⟩
        obtain ⟨dd, hdd⟩ : ∃ dd : Dsk, dd = (⟨d.ino, d.dir, d.dur.drop j, d.ops⟩) := ⟨_, rfl⟩
        have CF : DC w7 (.agg #[.slice F0 d.ino.length f0, .slice F1 d.dir.length f1, .slice (some (ad.add (j * 2))) (d.dur.length - j) (f2 - j), .slice F3 d.ops.length f3]) dd := by rw [hdd]; exact CX.out
        have MF : Aside0 (Sml 40000 dd) := ⟨by rw [hdd]; exact MF0⟩
        obtain ⟨vr, hvr⟩ : ∃ vr : Int, vr = (if valid dd = true then 0 else 9) := ⟨_, rfl⟩
        have VA0 := (fun W h => validate_calls (.agg #[.slice F0 d.ino.length f0, .slice F1 d.dir.length f1, .slice (some (ad.add (j * 2))) (d.dur.length - j) (f2 - j), .slice F3 d.ops.length f3]) dd W h ⟨Nat.le_trans MF.out.1 (by omega), Nat.le_trans MF.out.2.1 (by omega), Nat.le_trans MF.out.2.2.1 (by omega), Nat.le_trans MF.out.2.2.2 (by omega)⟩)
        have VB0 := (fun W h => validate36_calls (.agg #[.slice F0 d.ino.length f0, .slice F1 d.dir.length f1, .slice (some (ad.add (j * 2))) (d.dur.length - j) (f2 - j), .slice F3 d.ops.length f3]) dd W h MF.out)
        rw [← hvr] at VA0 VB0
        have VA := Aside0.mk VA0
        have VB := Aside0.mk VB0
        have CG := Aside0.mk CF
        have hvv : (vr == vr) = true := beq_self_eq_true vr
        clear VA0 VB0 hvr hdd CF MF0
        have d0 := (blk_cell KD7.out 0).trans rfl
        have d1 := (blk_cell KD7.out 1).trans rfl
        have d2 := (blk_cell KD7.out 2).trans rfl
        have d3 := (blk_cell KD7.out 3).trans rfl
        have BW := Aside0.mk (below_drew1 (Below.refl w7.heap.size w7))
        clear d0 d1 d2 d3
        have d0 : w7.cell? ⟨D, 0, none⟩ = some (.slice F0 d.ino.length f0) := (blk_cell KD7.out 0).trans rfl
        have d1 : w7.cell? ⟨D, 1, none⟩ = some (.slice F1 d.dir.length f1) := (blk_cell KD7.out 1).trans rfl
        have d2 : w7.cell? ⟨D, 2, none⟩ = some (.slice (some (ad.add (j * 2))) (d.dur.length - j) (f2 - j)) := (blk_cell KD7.out 2).trans rfl
        have d3 : w7.cell? ⟨D, 3, none⟩ = some (.slice F3 d.ops.length f3) := (blk_cell KD7.out 3).trans rfl
        go_region_held3 (fun w' => w'.cell? ⟨D, 0, none⟩ = some (.slice F0 d.ino.length f0) ∧ w'.cell? ⟨D, 1, none⟩ = some (.slice F1 d.dir.length f1) ∧ w'.cell? ⟨D, 2, none⟩ = some (.slice (some (ad.add (j * 2))) (d.dur.length - j) (f2 - j)) ∧ w'.cell? ⟨D, 3, none⟩ = some (.slice F3 d.ops.length f3))
          (first | (go_keep; done) | exact ⟨(blk_cell (blk_below KD7.out BW.out) 0).trans rfl, (blk_cell (blk_below KD7.out BW.out) 1).trans rfl, (blk_cell (blk_below KD7.out BW.out) 2).trans rfl, (blk_cell (blk_below KD7.out BW.out) 3).trans rfl⟩)
          (first
            | (go_at_call 35; refine (VA.out _ (CG.out.below BW.out)).mono ?_; rintro e w26 ⟨rfl, h2⟩; have n_ := Aside0.mk (below_step BW.out h2); clear BW h2; have BW := n_; clear n_)
            | (go_at_call 36; refine (VB.out _ (CG.out.below BW.out)).mono ?_; rintro e w27 ⟨rfl, h2⟩; have n_ := Aside0.mk (below_step BW.out h2); clear BW h2; have BW := n_; clear n_)
            | (go_at_call 43; refine (known43_calls _).mono ?_; rintro e w28 ⟨rfl, h2⟩; have n_ := Aside0.mk (below_step BW.out h2); clear BW h2; have BW := n_; clear n_))
        all_goals
          go_wp2
          go_ret
          exact ⟨rfl, below_step HF.out BW.out⟩
    · have CX := Aside0.mk (CD.out.below BX.out)
      go_upto_region 19 with fail
      have HF := Aside0.mk (below_step HB.out BX.out)
      have MF0 : Sml 40000 (d) := ⟨by omega, by omega, by omega, by omega⟩
      obtain ⟨dd, hdd⟩ : ∃ dd : Dsk, dd = (d) := ⟨_, rfl⟩
      have CF : DC w4 (.agg #[.slice F0 d.ino.length f0, .slice F1 d.dir.length f1, .slice F2 d.dur.length f2, .slice F3 d.ops.length f3]) dd := by rw [hdd]; exact CX.out
      have MF : Aside0 (Sml 40000 dd) := ⟨by rw [hdd]; exact MF0⟩
      obtain ⟨vr, hvr⟩ : ∃ vr : Int, vr = (if valid dd = true then 0 else 9) := ⟨_, rfl⟩
      have VA0 := (fun W h => validate_calls (.agg #[.slice F0 d.ino.length f0, .slice F1 d.dir.length f1, .slice F2 d.dur.length f2, .slice F3 d.ops.length f3]) dd W h ⟨Nat.le_trans MF.out.1 (by omega), Nat.le_trans MF.out.2.1 (by omega), Nat.le_trans MF.out.2.2.1 (by omega), Nat.le_trans MF.out.2.2.2 (by omega)⟩)
      have VB0 := (fun W h => validate36_calls (.agg #[.slice F0 d.ino.length f0, .slice F1 d.dir.length f1, .slice F2 d.dur.length f2, .slice F3 d.ops.length f3]) dd W h MF.out)
      rw [← hvr] at VA0 VB0
      have VA := Aside0.mk VA0
      have VB := Aside0.mk VB0
      have CG := Aside0.mk CF
      have hvv : (vr == vr) = true := beq_self_eq_true vr
      clear VA0 VB0 hvr hdd CF MF0
      have d0 := (blk_cell KD.out 0).trans rfl
      have d1 := (blk_cell KD.out 1).trans rfl
      have d2 := (blk_cell KD.out 2).trans rfl
      have d3 := (blk_cell KD.out 3).trans rfl
      have BW := Aside0.mk (below_drew1 (Below.refl w4.heap.size w4))
      clear d0 d1 d2 d3
      have d0 : w4.cell? ⟨D, 0, none⟩ = some (.slice F0 d.ino.length f0) := (blk_cell KD.out 0).trans rfl
      have d1 : w4.cell? ⟨D, 1, none⟩ = some (.slice F1 d.dir.length f1) := (blk_cell KD.out 1).trans rfl
      have d2 : w4.cell? ⟨D, 2, none⟩ = some (.slice F2 d.dur.length f2) := (blk_cell KD.out 2).trans rfl
      have d3 : w4.cell? ⟨D, 3, none⟩ = some (.slice F3 d.ops.length f3) := (blk_cell KD.out 3).trans rfl
      go_region_held3 (fun w' => w'.cell? ⟨D, 0, none⟩ = some (.slice F0 d.ino.length f0) ∧ w'.cell? ⟨D, 1, none⟩ = some (.slice F1 d.dir.length f1) ∧ w'.cell? ⟨D, 2, none⟩ = some (.slice F2 d.dur.length f2) ∧ w'.cell? ⟨D, 3, none⟩ = some (.slice F3 d.ops.length f3))
        (first | (go_keep; done) | exact ⟨(blk_cell (blk_below KD.out BW.out) 0).trans rfl, (blk_cell (blk_below KD.out BW.out) 1).trans rfl, (blk_cell (blk_below KD.out BW.out) 2).trans rfl, (blk_cell (blk_below KD.out BW.out) 3).trans rfl⟩)
        (first
          | (go_at_call 35; refine (VA.out _ (CG.out.below BW.out)).mono ?_; rintro e w26 ⟨rfl, h2⟩; have n_ := Aside0.mk (below_step BW.out h2); clear BW h2; have BW := n_; clear n_)
          | (go_at_call 36; refine (VB.out _ (CG.out.below BW.out)).mono ?_; rintro e w27 ⟨rfl, h2⟩; have n_ := Aside0.mk (below_step BW.out h2); clear BW h2; have BW := n_; clear n_)
          | (go_at_call 43; refine (known43_calls _).mono ?_; rintro e w28 ⟨rfl, h2⟩; have n_ := Aside0.mk (below_step BW.out h2); clear BW h2; have BW := n_; clear n_))
      all_goals
        go_wp2
        go_ret
        exact ⟨rfl, below_step HF.out BW.out⟩
  · by_cases hl : 0 < d.ops.length
    · obtain ⟨q, hq, q0, q1⟩ := mod_f at_ (d.ops.length : Int) (by omega) (by omega)
      obtain ⟨j, hj⟩ : ∃ j : Nat, q = (j : Int) := ⟨q.toNat, (Int.toNat_of_nonneg q0).symm⟩
      subst hj
      have hjn : j < d.ops.length := by omega
      have MC := Aside0.mk (fun W => corporamade_Mod.calls at_ (d.ops.length : Int) (j : Int) W hq)
      have hj0 : (0 : Int) ≤ (j : Int) := by omega
      have hj1 : (j : Int) < (d.ops.length : Int) := by omega
      have hj2 : (j : Int) ≤ (d.ops.length : Int) := by omega
      have hj3 : j ≤ d.ops.length := by omega
      clear hq q0 q1
      have hcap : d.ops.length ≤ f3 := CD.out.C.2.2.2.2
      have hcap2 : (j : Int) ≤ (f3 : Int) := by omega
      have hcap3 : j ≤ f3 := by omega
      go_upto_region 13 with fail
      go_region_with
        (first
          | (go_at_call 27; refine (MC.out _).mono ?_; rintro e w6 ⟨rfl, hd⟩; have b6 := below_step (below_drew1 (Below.refl w4.heap.size w4)) hd.below; have BX6 := Aside0.mk (below_step BX.out b6); have KD6 := Aside0.mk (blk_below KD.out b6); have q0 := (blk_cell KD6.out 0).trans rfl; have q1 := (blk_cell KD6.out 1).trans rfl; have q2 := (blk_cell KD6.out 2).trans rfl; have q3 := (blk_cell KD6.out 3).trans rfl; have qf0 := blk_frozen KD6.out 0; have qf1 := blk_frozen KD6.out 1; have qf2 := blk_frozen KD6.out 2; have qf3 := blk_frozen KD6.out 3; clear hd b6))
      all_goals
        go_upto_region 19 with fail
        have KD7 := Aside0.mk (blk_put KD6.out 3 (.slice F3 j f3) rfl)
        have BX7 := Aside0.mk (BX6.out.setCell (p := ⟨D, 3, none⟩) hTD (.slice F3 j f3))
        generalize w6.setCell ⟨D, 3, none⟩ (.slice F3 j f3) = w7 at KD7 BX7 ⊢
        have CX := Aside0.mk (DC_set3 (n := j) (e := f3) CD.out BX7.out (C_take (Kd.C_below CD.out.C.2.2.2.1 BX7.out) (by omega)) (by rw [List.length_take]; omega) (by have := CD.out.C.2.2.2.2; omega))
        clear KD6 BX6 q0 q1 q2 q3 qf0 qf1 qf2 qf3 z0 z1 z2 z3 KD BX MC
        go_upto_region 19 with fail
        have HF := Aside0.mk (below_step HB.out BX7.out)
        have MF0 : Sml 40000 (⟨d.ino, d.dir, d.dur, d.ops.take j⟩) := ⟨by show d.ino.length ≤ _; omega, by show d.dir.length ≤ _; omega, by show d.dur.length ≤ _; omega, by show (d.ops.take j).length ≤ _; rw [List.length_take]; omega⟩
        obtain ⟨dd, hdd⟩ : ∃ dd : Dsk, dd = (⟨d.ino, d.dir, d.dur, d.ops.take j⟩) := ⟨_, rfl⟩
        have CF : DC w7 (.agg #[.slice F0 d.ino.length f0, .slice F1 d.dir.length f1, .slice F2 d.dur.length f2, .slice F3 j f3]) dd := by rw [hdd]; exact CX.out
        have MF : Aside0 (Sml 40000 dd) := ⟨by rw [hdd]; exact MF0⟩
        obtain ⟨vr, hvr⟩ : ∃ vr : Int, vr = (if valid dd = true then 0 else 9) := ⟨_, rfl⟩
        have VA0 := (fun W h => validate_calls (.agg #[.slice F0 d.ino.length f0, .slice F1 d.dir.length f1, .slice F2 d.dur.length f2, .slice F3 j f3]) dd W h ⟨Nat.le_trans MF.out.1 (by omega), Nat.le_trans MF.out.2.1 (by omega), Nat.le_trans MF.out.2.2.1 (by omega), Nat.le_trans MF.out.2.2.2 (by omega)⟩)
        have VB0 := (fun W h => validate36_calls (.agg #[.slice F0 d.ino.length f0, .slice F1 d.dir.length f1, .slice F2 d.dur.length f2, .slice F3 j f3]) dd W h MF.out)
        rw [← hvr] at VA0 VB0
        have VA := Aside0.mk VA0
        have VB := Aside0.mk VB0
        have CG := Aside0.mk CF
        have hvv : (vr == vr) = true := beq_self_eq_true vr
        clear VA0 VB0 hvr hdd CF MF0
        have d0 := (blk_cell KD7.out 0).trans rfl
        have d1 := (blk_cell KD7.out 1).trans rfl
        have d2 := (blk_cell KD7.out 2).trans rfl
        have d3 := (blk_cell KD7.out 3).trans rfl
        have BW := Aside0.mk (below_drew1 (Below.refl w7.heap.size w7))
        clear d0 d1 d2 d3
        have d0 : w7.cell? ⟨D, 0, none⟩ = some (.slice F0 d.ino.length f0) := (blk_cell KD7.out 0).trans rfl
        have d1 : w7.cell? ⟨D, 1, none⟩ = some (.slice F1 d.dir.length f1) := (blk_cell KD7.out 1).trans rfl
        have d2 : w7.cell? ⟨D, 2, none⟩ = some (.slice F2 d.dur.length f2) := (blk_cell KD7.out 2).trans rfl
        have d3 : w7.cell? ⟨D, 3, none⟩ = some (.slice F3 j f3) := (blk_cell KD7.out 3).trans rfl
        go_region_held3 (fun w' => w'.cell? ⟨D, 0, none⟩ = some (.slice F0 d.ino.length f0) ∧ w'.cell? ⟨D, 1, none⟩ = some (.slice F1 d.dir.length f1) ∧ w'.cell? ⟨D, 2, none⟩ = some (.slice F2 d.dur.length f2) ∧ w'.cell? ⟨D, 3, none⟩ = some (.slice F3 j f3))
          (first | (go_keep; done) | exact ⟨(blk_cell (blk_below KD7.out BW.out) 0).trans rfl, (blk_cell (blk_below KD7.out BW.out) 1).trans rfl, (blk_cell (blk_below KD7.out BW.out) 2).trans rfl, (blk_cell (blk_below KD7.out BW.out) 3).trans rfl⟩)
          (first
            | (go_at_call 35; refine (VA.out _ (CG.out.below BW.out)).mono ?_; rintro e w26 ⟨rfl, h2⟩; have n_ := Aside0.mk (below_step BW.out h2); clear BW h2; have BW := n_; clear n_)
            | (go_at_call 36; refine (VB.out _ (CG.out.below BW.out)).mono ?_; rintro e w27 ⟨rfl, h2⟩; have n_ := Aside0.mk (below_step BW.out h2); clear BW h2; have BW := n_; clear n_)
            | (go_at_call 43; refine (known43_calls _).mono ?_; rintro e w28 ⟨rfl, h2⟩; have n_ := Aside0.mk (below_step BW.out h2); clear BW h2; have BW := n_; clear n_))
        all_goals
          go_wp2
          go_ret
          exact ⟨rfl, below_step HF.out BW.out⟩
    · have CX := Aside0.mk (CD.out.below BX.out)
      go_upto_region 19 with fail
      have HF := Aside0.mk (below_step HB.out BX.out)
      have MF0 : Sml 40000 (d) := ⟨by omega, by omega, by omega, by omega⟩
      obtain ⟨dd, hdd⟩ : ∃ dd : Dsk, dd = (d) := ⟨_, rfl⟩
      have CF : DC w4 (.agg #[.slice F0 d.ino.length f0, .slice F1 d.dir.length f1, .slice F2 d.dur.length f2, .slice F3 d.ops.length f3]) dd := by rw [hdd]; exact CX.out
      have MF : Aside0 (Sml 40000 dd) := ⟨by rw [hdd]; exact MF0⟩
      obtain ⟨vr, hvr⟩ : ∃ vr : Int, vr = (if valid dd = true then 0 else 9) := ⟨_, rfl⟩
      have VA0 := (fun W h => validate_calls (.agg #[.slice F0 d.ino.length f0, .slice F1 d.dir.length f1, .slice F2 d.dur.length f2, .slice F3 d.ops.length f3]) dd W h ⟨Nat.le_trans MF.out.1 (by omega), Nat.le_trans MF.out.2.1 (by omega), Nat.le_trans MF.out.2.2.1 (by omega), Nat.le_trans MF.out.2.2.2 (by omega)⟩)
      have VB0 := (fun W h => validate36_calls (.agg #[.slice F0 d.ino.length f0, .slice F1 d.dir.length f1, .slice F2 d.dur.length f2, .slice F3 d.ops.length f3]) dd W h MF.out)
      rw [← hvr] at VA0 VB0
      have VA := Aside0.mk VA0
      have VB := Aside0.mk VB0
      have CG := Aside0.mk CF
      have hvv : (vr == vr) = true := beq_self_eq_true vr
      clear VA0 VB0 hvr hdd CF MF0
      have d0 := (blk_cell KD.out 0).trans rfl
      have d1 := (blk_cell KD.out 1).trans rfl
      have d2 := (blk_cell KD.out 2).trans rfl
      have d3 := (blk_cell KD.out 3).trans rfl
      have BW := Aside0.mk (below_drew1 (Below.refl w4.heap.size w4))
      clear d0 d1 d2 d3
      have d0 : w4.cell? ⟨D, 0, none⟩ = some (.slice F0 d.ino.length f0) := (blk_cell KD.out 0).trans rfl
      have d1 : w4.cell? ⟨D, 1, none⟩ = some (.slice F1 d.dir.length f1) := (blk_cell KD.out 1).trans rfl
      have d2 : w4.cell? ⟨D, 2, none⟩ = some (.slice F2 d.dur.length f2) := (blk_cell KD.out 2).trans rfl
      have d3 : w4.cell? ⟨D, 3, none⟩ = some (.slice F3 d.ops.length f3) := (blk_cell KD.out 3).trans rfl
      go_region_held3 (fun w' => w'.cell? ⟨D, 0, none⟩ = some (.slice F0 d.ino.length f0) ∧ w'.cell? ⟨D, 1, none⟩ = some (.slice F1 d.dir.length f1) ∧ w'.cell? ⟨D, 2, none⟩ = some (.slice F2 d.dur.length f2) ∧ w'.cell? ⟨D, 3, none⟩ = some (.slice F3 d.ops.length f3))
        (first | (go_keep; done) | exact ⟨(blk_cell (blk_below KD.out BW.out) 0).trans rfl, (blk_cell (blk_below KD.out BW.out) 1).trans rfl, (blk_cell (blk_below KD.out BW.out) 2).trans rfl, (blk_cell (blk_below KD.out BW.out) 3).trans rfl⟩)
        (first
          | (go_at_call 35; refine (VA.out _ (CG.out.below BW.out)).mono ?_; rintro e w26 ⟨rfl, h2⟩; have n_ := Aside0.mk (below_step BW.out h2); clear BW h2; have BW := n_; clear n_)
          | (go_at_call 36; refine (VB.out _ (CG.out.below BW.out)).mono ?_; rintro e w27 ⟨rfl, h2⟩; have n_ := Aside0.mk (below_step BW.out h2); clear BW h2; have BW := n_; clear n_)
          | (go_at_call 43; refine (known43_calls _).mono ?_; rintro e w28 ⟨rfl, h2⟩; have n_ := Aside0.mk (below_step BW.out h2); clear BW h2; have BW := n_; clear n_))
      all_goals
        go_wp2
        go_ret
        exact ⟨rfl, below_step HF.out BW.out⟩
  · have bn := below_alloc (Below.refl w4.heap.size w4) (.cells #[] 67)
    have QO := Aside0.mk (R67_empty (T := w2.heap.size) (by have := BX.out.size; omega) (blk_new w4 (.cells #[] 67)))
    have QX := Aside0.mk (Kd.C_below CD.out.C.1.1 (below_step BX.out bn))
    have QB := Aside0.mk (below_step BX.out bn)
    have QK := Aside0.mk (blk_below KD.out bn)
    have zz : (w4.alloc (.cells #[] 67)).cell? ⟨D, 0, none⟩ = some (.slice F0 d.ino.length f0) := (blk_cell QK.out 0).trans rfl
    clear bn
    go_upto_region 19 with (at_builtin; go_loud (first
      | (refine Kd.R_append_rows k67 (Rr := k67.K _) (w0 := w2) w2.heap.size rfl _ _ 43 67 (.agg #[.string ⟨#[]⟩, .int .i64 0]) 24 rfl Try.underlying43 info67 rfl (by decide) (by decide) (.slice (some ⟨w4.heap.size, 0, none⟩) 0 0) [] d.ino F0 d.ino.length f0 (fun _ => True) (fun _ => False) rfl rfl QO.out QX.out ?q2 ?q3 ?q4 QB.out QB.out.size ?q7 ?_; (case q2 => intro y cs h; obtain rfl := k67_open h; exact k67_mkM _ _ _ _); (case q3 => intro k h; exact h.elim); (case q4 => intro k hk; trivial); (case q7 => simp only [List.length_nil]; omega); intro v7 w7 h1 h2 h3 h4; rw [List.nil_append] at h1; obtain ⟨B0, b0, hv⟩ := Kd.R_slice h1; subst hv; have BX7 := Aside0.mk h2; have KD7 := Aside0.mk (blk_grown QK.out h3 (Kd.R_ne QO.out QK.out (by decide))); have bn := below_alloc (Below.refl w7.heap.size w7) (.cells #[.string ⟨#[]⟩, .int .i64 0] 67); have QC2 := Aside0.mk (C67_one (x := z67) (blk_new w7 (.cells #[.string ⟨#[]⟩, .int .i64 0] 67))); have QO2 := Aside0.mk (Kd.R_below h1 bn); have QB2 := Aside0.mk (below_step BX7.out bn); have QK2 := Aside0.mk (blk_below KD7.out bn); clear h1 h2 h3 h4 QO QX bn zz)
      | (refine Kd.R_append_rows k67 (Rr := k67.K _) (w0 := w2) w2.heap.size rfl _ _ 43 67 (.agg #[.string ⟨#[]⟩, .int .i64 0]) 24 rfl Try.underlying43 info67 rfl (by decide) (by decide) (.slice B0 d.ino.length b0) d.ino [z67] (some ⟨w7.heap.size, 0, none⟩) 1 1 (fun _ => True) (fun _ => False) rfl rfl QO2.out QC2.out ?q2 ?q3 ?q4 QB2.out QB2.out.size ?q7 ?_; (case q2 => intro y cs h; obtain rfl := k67_open h; exact k67_mkM _ _ _ _); (case q3 => intro k h; exact h.elim); (case q4 => intro k hk; trivial); (case q7 => omega); intro v8 w8 h1 h2 h3 h4; obtain ⟨B1, b1, hv⟩ := Kd.R_slice h1; subst hv; have R8 := Aside0.mk h1; have BX8 := Aside0.mk h2; have KD8 := Aside0.mk (blk_grown QK2.out h3 (Kd.R_ne QO2.out QK2.out (by decide))); have t0 := (blk_cell KD8.out 0).trans rfl; have tf0 := blk_frozen KD8.out 0; clear h1 h2 h3 h4)))
    have hl8 : (d.ino ++ [z67]).length = d.ino.length + 1 := by simp
    rw [hl8] at R8
    have KD9 := Aside0.mk (blk_put KD8.out 0 (.slice B1 (d.ino.length + 1) b1) rfl)
    have R9 := Aside0.mk (Kd.R_set R8.out KD8.out (by decide) 0 (.slice B1 (d.ino.length + 1) b1))
    have BX9 := Aside0.mk (BX8.out.setCell (p := ⟨D, 0, none⟩) hTD (.slice B1 (d.ino.length + 1) b1))
    generalize w8.setCell ⟨D, 0, none⟩ (.slice B1 (d.ino.length + 1) b1) = w9 at KD9 R9 BX9 ⊢
    clear QB QK R8 BX8 KD8 t0 tf0 KD BX z0 z1 z2 z3
    have CX := Aside0.mk (DC_set0 (n := d.ino.length + 1) (e := b1) CD.out BX9.out (Kd.R_reads' R9.out).2.2 (by simp) (Kd.R_reads' R9.out).2.1)
    go_upto_region 19 with fail
    have HF := Aside0.mk (below_step HB.out BX9.out)
    have MF0 : Sml 40000 (⟨d.ino ++ [z67], d.dir, d.dur, d.ops⟩) := ⟨by show (d.ino ++ [z67]).length ≤ _; rw [hl8]; omega, by show d.dir.length ≤ _; omega, by show d.dur.length ≤ _; omega, by show d.ops.length ≤ _; omega⟩
    obtain ⟨dd, hdd⟩ : ∃ dd : Dsk, dd = (⟨d.ino ++ [z67], d.dir, d.dur, d.ops⟩) := ⟨_, rfl⟩
    have CF : DC w9 (.agg #[.slice B1 (d.ino.length + 1) b1, .slice F1 d.dir.length f1, .slice F2 d.dur.length f2, .slice F3 d.ops.length f3]) dd := by rw [hdd]; exact CX.out
    have MF : Aside0 (Sml 40000 dd) := ⟨by rw [hdd]; exact MF0⟩
    obtain ⟨vr, hvr⟩ : ∃ vr : Int, vr = (if valid dd = true then 0 else 9) := ⟨_, rfl⟩
    have VA0 := (fun W h => validate_calls (.agg #[.slice B1 (d.ino.length + 1) b1, .slice F1 d.dir.length f1, .slice F2 d.dur.length f2, .slice F3 d.ops.length f3]) dd W h ⟨Nat.le_trans MF.out.1 (by omega), Nat.le_trans MF.out.2.1 (by omega), Nat.le_trans MF.out.2.2.1 (by omega), Nat.le_trans MF.out.2.2.2 (by omega)⟩)
    have VB0 := (fun W h => validate36_calls (.agg #[.slice B1 (d.ino.length + 1) b1, .slice F1 d.dir.length f1, .slice F2 d.dur.length f2, .slice F3 d.ops.length f3]) dd W h MF.out)
    rw [← hvr] at VA0 VB0
    have VA := Aside0.mk VA0
    have VB := Aside0.mk VB0
    have CG := Aside0.mk CF
    have hvv : (vr == vr) = true := beq_self_eq_true vr
    clear VA0 VB0 hvr hdd CF MF0
    have d0 := (blk_cell KD9.out 0).trans rfl
    have d1 := (blk_cell KD9.out 1).trans rfl
    have d2 := (blk_cell KD9.out 2).trans rfl
    have d3 := (blk_cell KD9.out 3).trans rfl
    have BW := Aside0.mk (below_drew1 (Below.refl w9.heap.size w9))
    clear d0 d1 d2 d3
    have d0 : w9.cell? ⟨D, 0, none⟩ = some (.slice B1 (d.ino.length + 1) b1) := (blk_cell KD9.out 0).trans rfl
    have d1 : w9.cell? ⟨D, 1, none⟩ = some (.slice F1 d.dir.length f1) := (blk_cell KD9.out 1).trans rfl
    have d2 : w9.cell? ⟨D, 2, none⟩ = some (.slice F2 d.dur.length f2) := (blk_cell KD9.out 2).trans rfl
    have d3 : w9.cell? ⟨D, 3, none⟩ = some (.slice F3 d.ops.length f3) := (blk_cell KD9.out 3).trans rfl
    go_region_held3 (fun w' => w'.cell? ⟨D, 0, none⟩ = some (.slice B1 (d.ino.length + 1) b1) ∧ w'.cell? ⟨D, 1, none⟩ = some (.slice F1 d.dir.length f1) ∧ w'.cell? ⟨D, 2, none⟩ = some (.slice F2 d.dur.length f2) ∧ w'.cell? ⟨D, 3, none⟩ = some (.slice F3 d.ops.length f3))
      (first | (go_keep; done) | exact ⟨(blk_cell (blk_below KD9.out BW.out) 0).trans rfl, (blk_cell (blk_below KD9.out BW.out) 1).trans rfl, (blk_cell (blk_below KD9.out BW.out) 2).trans rfl, (blk_cell (blk_below KD9.out BW.out) 3).trans rfl⟩)
      (first
        | (go_at_call 35; refine (VA.out _ (CG.out.below BW.out)).mono ?_; rintro e w26 ⟨rfl, h2⟩; have n_ := Aside0.mk (below_step BW.out h2); clear BW h2; have BW := n_; clear n_)
        | (go_at_call 36; refine (VB.out _ (CG.out.below BW.out)).mono ?_; rintro e w27 ⟨rfl, h2⟩; have n_ := Aside0.mk (below_step BW.out h2); clear BW h2; have BW := n_; clear n_)
        | (go_at_call 43; refine (known43_calls _).mono ?_; rintro e w28 ⟨rfl, h2⟩; have n_ := Aside0.mk (below_step BW.out h2); clear BW h2; have BW := n_; clear n_))
    all_goals
      go_wp2
      go_ret
      exact ⟨rfl, below_step HF.out BW.out⟩
  · by_cases hl : 0 < d.dir.length
    · obtain ⟨q, hq, q0, q1⟩ := mod_f at_ (d.dir.length : Int) (by omega) (by omega)
      obtain ⟨j, hj⟩ : ∃ j : Nat, q = (j : Int) := ⟨q.toNat, (Int.toNat_of_nonneg q0).symm⟩
      subst hj
      have hjn : j < d.dir.length := by omega
      have MC := Aside0.mk (fun W => corporamade_Mod.calls at_ (d.dir.length : Int) (j : Int) W hq)
      have hj0 : (0 : Int) ≤ (j : Int) := by omega
      have hj1 : (j : Int) < (d.dir.length : Int) := by omega
      have hj2 : (j : Int) ≤ (d.dir.length : Int) := by omega
      have hj3 : j ≤ d.dir.length := by omega
      clear hq q0 q1
      have bn := below_alloc (Below.refl w4.heap.size w4) (.cells #[] 69)
      have QO := Aside0.mk (R69_empty (T := w2.heap.size) (by have := BX.out.size; omega) (blk_new w4 (.cells #[] 69)))
      have QX := Aside0.mk (Kd.C_below CD.out.C.2.1.1 (below_step BX.out bn))
      have QB := Aside0.mk (below_step BX.out bn)
      have QK := Aside0.mk (blk_below KD.out bn)
      have zz : (w4.alloc (.cells #[] 69)).cell? ⟨D, 1, none⟩ = some (.slice F1 d.dir.length f1) := (blk_cell QK.out 1).trans rfl
      clear bn
      go_upto_region 18 with (at_builtin; go_loud (refine Kd.R_append_rows k69 (Rr := k69.K _) (w0 := w2) w2.heap.size rfl _ _ 44 69 (.agg #[.string ⟨#[]⟩, .int .i64 0]) 24 rfl Try.underlying44 info69 rfl (by decide) (by decide) (.slice (some ⟨w4.heap.size, 0, none⟩) 0 0) [] d.dir F1 d.dir.length f1 (fun _ => True) (fun _ => False) rfl rfl QO.out QX.out ?q2 ?q3 ?q4 QB.out QB.out.size ?q7 ?_); (case q2 => intro y cs h; obtain rfl := k69_open h; exact k69_mkM _ _ _ _); (case q3 => intro k h; exact h.elim); (case q4 => intro k hk; trivial); (case q7 => simp only [List.length_nil]; omega); intro v7 w7 h1 h2 h3 h4; rw [List.nil_append] at h1; obtain ⟨B0, b0, hv⟩ := Kd.R_slice h1; subst hv; have R7 := Aside0.mk h1; have BX7 := Aside0.mk h2; have KD7 := Aside0.mk (blk_grown QK.out h3 (Kd.R_ne QO.out QK.out (by decide))); have t0 := (blk_cell KD7.out 1).trans rfl; have tf0 := blk_frozen KD7.out 1; clear h1 h2 h3 h4)
      have KD8 := Aside0.mk (blk_put KD7.out 1 (.slice B0 d.dir.length b0) rfl)
      have R8 := Aside0.mk (Kd.R_set R7.out KD7.out (by decide) 1 (.slice B0 d.dir.length b0))
      have BX8 := Aside0.mk (BX7.out.setCell (p := ⟨D, 1, none⟩) hTD (.slice B0 d.dir.length b0))
      generalize w7.setCell ⟨D, 1, none⟩ (.slice B0 d.dir.length b0) = w8 at KD8 R8 BX8 ⊢
      clear QO QX QB QK zz R7 BX7 KD7 t0 tf0 KD BX
      clear z0 z1 z2 z3
      obtain ⟨gg, cur, eb, hgg⟩ := R69_block R8.out hl
      subst eb
      obtain ⟨xx0, xx1⟩ := R69_cells R8.out j hjn
      obtain ⟨x, hx⟩ : ∃ x, x = d.dir[j] := ⟨_, rfl⟩
      rw [← hx] at xx0 xx1
      have XI := Aside0.mk hx
      have GG := Aside0.mk hgg
      have hTg : w2.heap.size ≤ gg := own_base (R69_own R8.out) gg rfl
      have hgD : gg ≠ D := blk_ne hgg KD8.out (by decide)
      clear hx hgg xx0 xx1
      have z1 : w8.cell? ⟨D, 1, none⟩ = some (.slice (some ⟨gg, 0, none⟩) d.dir.length b0) := (blk_cell KD8.out 1).trans rfl
      have TK1 := Aside0.mk trivial
      have BW := Aside0.mk (below_drew1 (Below.refl w8.heap.size w8))
      go_region_held3 (fun w' => w'.cell? ⟨D, 1, none⟩ = some (.slice (some ⟨gg, 0, none⟩) d.dir.length b0))
        (first | (go_keep; done) | exact (blk_cell (blk_below KD8.out BW.out) 1).trans rfl)
        (first
          | (clear TK1; go_at_call 27; refine (MC.out _).mono ?_; rintro e w6 ⟨rfl, hd⟩; have n_ := Aside0.mk (below_step BW.out hd.below); clear BW; have BW := n_; clear n_; clear hd)
          | (go_at_call 46; refine (name46_calls _ _).mono ?_; rintro e w9 ⟨nm, rfl, hnm, hd⟩; have n_ := Aside0.mk (below_step BW.out hd); clear BW; have BW := n_; clear n_; have BX9 := Aside0.mk (below_step BX8.out BW.out); have KD9 := Aside0.mk (blk_below KD8.out BW.out); have RRw9 := Aside0.mk (Kd.R_below R8.out BW.out); have GGw9 := Aside0.mk (blk_below GG.out BW.out); have y0w9 : w9.cell? ⟨gg, j * 2, none⟩ = some (.string x.f0) := (by rw [XI.out]; exact (R69_cells RRw9.out j hjn).1); have y1w9 : w9.cell? ⟨gg, j * 2 + 1, none⟩ = some (.int .i64 x.f1) := (by rw [XI.out]; exact (R69_cells RRw9.out j hjn).2); have yfw9 := blk_frozen GGw9.out (j * 2); have ygw9 := blk_frozen GGw9.out (j * 2 + 1); clear hd))
      all_goals
        go_upto_region 19 with fail
        have KDa := Aside0.mk (blk_far KD9.out (p := ⟨gg, j * 2, none⟩) (Ne.symm hgD) (.string nm))
        have RRa := Aside0.mk (R69_put0 (x := x) RRw9.out hjn XI.out nm)
        have BXa := Aside0.mk (BX9.out.setCell (p := ⟨gg, j * 2, none⟩) hTg (.string nm))
        generalize w9.setCell ⟨gg, j * 2, none⟩ (.string nm) = wz at KDa RRa BXa ⊢
        have CX := Aside0.mk (DC_set1 (n := d.dir.length) (e := b0) CD.out BXa.out (Kd.R_reads' RRa.out).2.2 (by simp) (Kd.R_reads' RRa.out).2.1)
        clear z1 y0w9 y1w9 yfw9 ygw9 KD8 R8 BX8 GG RRw9 GGw9 KD9 BX9 BW
        go_upto_region 19 with fail
        have HF := Aside0.mk (below_step HB.out BXa.out)
        have MF0 : Sml 40000 (⟨d.ino, d.dir.set j ⟨nm, x.f1⟩, d.dur, d.ops⟩) := ⟨by show d.ino.length ≤ _; omega, by show (d.dir.set j _).length ≤ _; rw [List.length_set]; omega, by show d.dur.length ≤ _; omega, by show d.ops.length ≤ _; omega⟩
        obtain ⟨dd, hdd⟩ : ∃ dd : Dsk, dd = (⟨d.ino, d.dir.set j ⟨nm, x.f1⟩, d.dur, d.ops⟩) := ⟨_, rfl⟩
        have CF : DC wz (.agg #[.slice F0 d.ino.length f0, .slice (some ⟨gg, 0, none⟩) d.dir.length b0, .slice F2 d.dur.length f2, .slice F3 d.ops.length f3]) dd := by rw [hdd]; exact CX.out
        have MF : Aside0 (Sml 40000 dd) := ⟨by rw [hdd]; exact MF0⟩
        obtain ⟨vr, hvr⟩ : ∃ vr : Int, vr = (if valid dd = true then 0 else 9) := ⟨_, rfl⟩
        have VA0 := (fun W h => validate_calls (.agg #[.slice F0 d.ino.length f0, .slice (some ⟨gg, 0, none⟩) d.dir.length b0, .slice F2 d.dur.length f2, .slice F3 d.ops.length f3]) dd W h ⟨Nat.le_trans MF.out.1 (by omega), Nat.le_trans MF.out.2.1 (by omega), Nat.le_trans MF.out.2.2.1 (by omega), Nat.le_trans MF.out.2.2.2 (by omega)⟩)
        have VB0 := (fun W h => validate36_calls (.agg #[.slice F0 d.ino.length f0, .slice (some ⟨gg, 0, none⟩) d.dir.length b0, .slice F2 d.dur.length f2, .slice F3 d.ops.length f3]) dd W h MF.out)
        rw [← hvr] at VA0 VB0
        have VA := Aside0.mk VA0
        have VB := Aside0.mk VB0
        have CG := Aside0.mk CF
        have hvv : (vr == vr) = true := beq_self_eq_true vr
        clear VA0 VB0 hvr hdd CF MF0
        have d0 := (blk_cell KDa.out 0).trans rfl
        have d1 := (blk_cell KDa.out 1).trans rfl
        have d2 := (blk_cell KDa.out 2).trans rfl
        have d3 := (blk_cell KDa.out 3).trans rfl
        have BW := Aside0.mk (below_drew1 (Below.refl wz.heap.size wz))
        clear d0 d1 d2 d3
        have d0 : wz.cell? ⟨D, 0, none⟩ = some (.slice F0 d.ino.length f0) := (blk_cell KDa.out 0).trans rfl
        have d1 : wz.cell? ⟨D, 1, none⟩ = some (.slice (some ⟨gg, 0, none⟩) d.dir.length b0) := (blk_cell KDa.out 1).trans rfl
        have d2 : wz.cell? ⟨D, 2, none⟩ = some (.slice F2 d.dur.length f2) := (blk_cell KDa.out 2).trans rfl
        have d3 : wz.cell? ⟨D, 3, none⟩ = some (.slice F3 d.ops.length f3) := (blk_cell KDa.out 3).trans rfl
        go_region_held3 (fun w' => w'.cell? ⟨D, 0, none⟩ = some (.slice F0 d.ino.length f0) ∧ w'.cell? ⟨D, 1, none⟩ = some (.slice (some ⟨gg, 0, none⟩) d.dir.length b0) ∧ w'.cell? ⟨D, 2, none⟩ = some (.slice F2 d.dur.length f2) ∧ w'.cell? ⟨D, 3, none⟩ = some (.slice F3 d.ops.length f3))
          (first | (go_keep; done) | exact ⟨(blk_cell (blk_below KDa.out BW.out) 0).trans rfl, (blk_cell (blk_below KDa.out BW.out) 1).trans rfl, (blk_cell (blk_below KDa.out BW.out) 2).trans rfl, (blk_cell (blk_below KDa.out BW.out) 3).trans rfl⟩)
          (first
            | (go_at_call 35; refine (VA.out _ (CG.out.below BW.out)).mono ?_; rintro e w26 ⟨rfl, h2⟩; have n_ := Aside0.mk (below_step BW.out h2); clear BW h2; have BW := n_; clear n_)
            | (go_at_call 36; refine (VB.out _ (CG.out.below BW.out)).mono ?_; rintro e w27 ⟨rfl, h2⟩; have n_ := Aside0.mk (below_step BW.out h2); clear BW h2; have BW := n_; clear n_)
            | (go_at_call 43; refine (known43_calls _).mono ?_; rintro e w28 ⟨rfl, h2⟩; have n_ := Aside0.mk (below_step BW.out h2); clear BW h2; have BW := n_; clear n_))
        all_goals
          go_wp2
          go_ret
          exact ⟨rfl, below_step HF.out BW.out⟩
    · have CX := Aside0.mk (CD.out.below BX.out)
      go_upto_region 19 with fail
      have HF := Aside0.mk (below_step HB.out BX.out)
      have MF0 : Sml 40000 (d) := ⟨by omega, by omega, by omega, by omega⟩
      obtain ⟨dd, hdd⟩ : ∃ dd : Dsk, dd = (d) := ⟨_, rfl⟩
      have CF : DC w4 (.agg #[.slice F0 d.ino.length f0, .slice F1 d.dir.length f1, .slice F2 d.dur.length f2, .slice F3 d.ops.length f3]) dd := by rw [hdd]; exact CX.out
      have MF : Aside0 (Sml 40000 dd) := ⟨by rw [hdd]; exact MF0⟩
      obtain ⟨vr, hvr⟩ : ∃ vr : Int, vr = (if valid dd = true then 0 else 9) := ⟨_, rfl⟩
      have VA0 := (fun W h => validate_calls (.agg #[.slice F0 d.ino.length f0, .slice F1 d.dir.length f1, .slice F2 d.dur.length f2, .slice F3 d.ops.length f3]) dd W h ⟨Nat.le_trans MF.out.1 (by omega), Nat.le_trans MF.out.2.1 (by omega), Nat.le_trans MF.out.2.2.1 (by omega), Nat.le_trans MF.out.2.2.2 (by omega)⟩)
      have VB0 := (fun W h => validate36_calls (.agg #[.slice F0 d.ino.length f0, .slice F1 d.dir.length f1, .slice F2 d.dur.length f2, .slice F3 d.ops.length f3]) dd W h MF.out)
      rw [← hvr] at VA0 VB0
      have VA := Aside0.mk VA0
      have VB := Aside0.mk VB0
      have CG := Aside0.mk CF
      have hvv : (vr == vr) = true := beq_self_eq_true vr
      clear VA0 VB0 hvr hdd CF MF0
      have d0 := (blk_cell KD.out 0).trans rfl
      have d1 := (blk_cell KD.out 1).trans rfl
      have d2 := (blk_cell KD.out 2).trans rfl
      have d3 := (blk_cell KD.out 3).trans rfl
      have BW := Aside0.mk (below_drew1 (Below.refl w4.heap.size w4))
      clear d0 d1 d2 d3
      have d0 : w4.cell? ⟨D, 0, none⟩ = some (.slice F0 d.ino.length f0) := (blk_cell KD.out 0).trans rfl
      have d1 : w4.cell? ⟨D, 1, none⟩ = some (.slice F1 d.dir.length f1) := (blk_cell KD.out 1).trans rfl
      have d2 : w4.cell? ⟨D, 2, none⟩ = some (.slice F2 d.dur.length f2) := (blk_cell KD.out 2).trans rfl
      have d3 : w4.cell? ⟨D, 3, none⟩ = some (.slice F3 d.ops.length f3) := (blk_cell KD.out 3).trans rfl
      go_region_held3 (fun w' => w'.cell? ⟨D, 0, none⟩ = some (.slice F0 d.ino.length f0) ∧ w'.cell? ⟨D, 1, none⟩ = some (.slice F1 d.dir.length f1) ∧ w'.cell? ⟨D, 2, none⟩ = some (.slice F2 d.dur.length f2) ∧ w'.cell? ⟨D, 3, none⟩ = some (.slice F3 d.ops.length f3))
        (first | (go_keep; done) | exact ⟨(blk_cell (blk_below KD.out BW.out) 0).trans rfl, (blk_cell (blk_below KD.out BW.out) 1).trans rfl, (blk_cell (blk_below KD.out BW.out) 2).trans rfl, (blk_cell (blk_below KD.out BW.out) 3).trans rfl⟩)
        (first
          | (go_at_call 35; refine (VA.out _ (CG.out.below BW.out)).mono ?_; rintro e w26 ⟨rfl, h2⟩; have n_ := Aside0.mk (below_step BW.out h2); clear BW h2; have BW := n_; clear n_)
          | (go_at_call 36; refine (VB.out _ (CG.out.below BW.out)).mono ?_; rintro e w27 ⟨rfl, h2⟩; have n_ := Aside0.mk (below_step BW.out h2); clear BW h2; have BW := n_; clear n_)
          | (go_at_call 43; refine (known43_calls _).mono ?_; rintro e w28 ⟨rfl, h2⟩; have n_ := Aside0.mk (below_step BW.out h2); clear BW h2; have BW := n_; clear n_))
      all_goals
        go_wp2
        go_ret
        exact ⟨rfl, below_step HF.out BW.out⟩
end Go.Proofs.Ytnaddmkaakdhoaa.J

end
