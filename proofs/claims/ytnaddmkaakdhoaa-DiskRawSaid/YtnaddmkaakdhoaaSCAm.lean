/-
  Texts of this claim, joined, without what the claim does not use: XRg XRh XRi XRj
-/
import Derived.Deep.RegionLaw
import Derived.Deep.DrawnRows
import Derived.Test.YtnaddmkaakdhoaaSCAl
section
namespace Go.Proofs.Ytnaddmkaakdhoaa.J
open Go.RowKit Go.Proofs.YtnaddmkaakdhoaaW.PrintWords Go.Proofs.YtnaddmkaakdhoaaW.PrintLast Go.Proofs.YtnaddmkaakdhoaaW.PrintMore
set_option linter.unusedVariables false
set_option linter.unusedSimpArgs false
theorem R67_empty {w : World} {T g : Nat} (hT : T ≤ g) (h : w.heap[g]? = some (.cells #[] 67 (0, 0))) : Kd.R k67 67 w T (fun _ => True) (.slice (some ⟨g, 0, none⟩) 0 0) [] :=
  ⟨fun _ _ => trivial, [], ⟨rfl, .inr ⟨g, 0, #[], rfl, hT, h, Nat.le_refl _, Nat.zero_le _, rfl, rfl⟩⟩, rfl, fun j p hj => by simp at hj⟩
theorem R49_empty {w : World} {T g : Nat} (hT : T ≤ g) (h : w.heap[g]? = some (.cells #[] 49 (0, 0))) : Kd.R k49 49 w T (fun _ => True) (.slice (some ⟨g, 0, none⟩) 0 0) [] :=
  ⟨fun _ _ => trivial, [], ⟨rfl, .inr ⟨g, 0, #[], rfl, hT, h, Nat.le_refl _, Nat.zero_le _, rfl, rfl⟩⟩, rfl, fun j p hj => by simp at hj⟩
set_option maxHeartbeats 8000000 in
set_option maxRecDepth 100000 in
theorem copied56_calls (A0 : Option Addr) (c0 : Nat) (A1 : Option Addr) (c1 : Nat) (A2 : Option Addr) (c2 : Nat) (A3 : Option Addr) (c3 : Nat) (d : Dsk) (w : World) (hr0 : Kd.C k67 w A0 d.ino.length d.ino) (hc0 : d.ino.length ≤ c0) (hr3 : Kd.C k49 w A3 d.ops.length d.ops) (hc3 : d.ops.length ≤ c3) (hs : Sml 200000 d) :
    Calls Try.prog 56 #[.agg #[.slice A0 d.ino.length c0, .slice A1 d.dir.length c1, .slice A2 d.dur.length c2, .slice A3 d.ops.length c3]] w fun e w' => ∃ B0 e0 B3 e3, e = .returned (.agg #[.slice B0 d.ino.length e0, .slice A1 d.dir.length c1, .slice A2 d.dur.length c2, .slice B3 d.ops.length e3]) ∧
      Kd.R k67 67 w' w.heap.size (fun _ => True) (.slice B0 d.ino.length e0) d.ino ∧ Kd.R k49 49 w' w.heap.size (fun _ => True) (.slice B3 d.ops.length e3) d.ops ∧ Below w.heap.size w w' := by
  obtain ⟨n0, n1, n2, n3⟩ := hs
  have R0 := Aside0.mk hr0
  have R3 := Aside0.mk hr3
  clear hr0 hr3
  go_enter Try.func56, Try.ntmps56
  go_upto_region 1 with fail
  have hB := ((Below.refl w.heap.size w).alloc (Nat.le_refl _) (.cells #[.slice A0 d.ino.length c0, .slice A1 d.dir.length c1, .slice A2 d.dur.length c2, .slice A3 d.ops.length c3] 47)).alloc (by simp) (.cells #[.slice none 0 0, .slice none 0 0, .slice none 0 0, .slice none 0 0] 47)
  have k1 := blk_alloc (blk_new w (.cells #[.slice A0 d.ino.length c0, .slice A1 d.dir.length c1, .slice A2 d.dur.length c2, .slice A3 d.ops.length c3] 47)) (.cells #[.slice none 0 0, .slice none 0 0, .slice none 0 0, .slice none 0 0] 47)
  have k2 := blk_new (w.alloc (.cells #[.slice A0 d.ino.length c0, .slice A1 d.dir.length c1, .slice A2 d.dur.length c2, .slice A3 d.ops.length c3] 47)) (.cells #[.slice none 0 0, .slice none 0 0, .slice none 0 0, .slice none 0 0] 47)
  rw [show (w.alloc (.cells #[.slice A0 d.ino.length c0, .slice A1 d.dir.length c1, .slice A2 d.dur.length c2, .slice A3 d.ops.length c3] 47)).heap.size = w.heap.size + 1 by simp] at k2
  generalize (w.alloc (.cells #[.slice A0 d.ino.length c0, .slice A1 d.dir.length c1, .slice A2 d.dur.length c2, .slice A3 d.ops.length c3] 47)).alloc (.cells #[.slice none 0 0, .slice none 0 0, .slice none 0 0, .slice none 0 0] 47) = W at hB k1 k2 ⊢
  obtain ⟨D, hD⟩ : ∃ D, D = w.heap.size := ⟨_, rfl⟩
  obtain ⟨S, hS⟩ : ∃ S, S = w.heap.size + 1 := ⟨_, rfl⟩
  have hTD : w.heap.size ≤ D := by omega
  have hTS : w.heap.size ≤ S := by omega
  have hDS : D ≠ S := by omega
  rw [← hS] at k2 ⊢
  rw [← hD] at k1 ⊢
  have bn := (Below.refl W.heap.size W).alloc (Nat.le_refl _) (.cells #[] 67)
  have QO := Aside0.mk (R67_empty hB.size (blk_new W (.cells #[] 67)))
  have QX := Aside0.mk (Kd.C_below R0.out (below_step hB bn))
  have QB := Aside0.mk (below_step hB bn)
  have K1 := Aside0.mk (blk_below k1 bn)
  have K2 := Aside0.mk (blk_below k2 bn)
  have z0 : (W.alloc (.cells #[] 67)).cell? ⟨D, 0, none⟩ = some (.slice A0 d.ino.length c0) := (blk_cell K1.out 0).trans rfl
  clear hB k1 k2 bn hD hS
  go_upto_region 2 with (at_builtin; go_loud ((refine Kd.R_append_rows k67 (Rr := k67.K _) (w0 := w) w.heap.size rfl _ _ 43 67 (.agg #[.string ⟨#[]⟩, .int .i64 0]) 24 rfl Try.underlying43 info67 rfl (by decide) (by decide) (.slice (some ⟨W.heap.size, 0, none⟩) 0 0) [] d.ino A0 d.ino.length c0 (fun _ => True) (fun _ => False) rfl rfl QO.out QX.out ?q2 ?q3 ?q4 QB.out QB.out.size ?q7 ?_); (case q2 => intro y cs h; obtain rfl := k67_open h; exact k67_mkM _ _ _ _); (case q3 => intro k h; exact h.elim); (case q4 => intro k hk; trivial); (case q7 => simp only [List.length_nil]; omega); intro v1 w1 h1 h2 h3 h4; rw [List.nil_append] at h1; obtain ⟨B0, e0, hv0⟩ := Kd.R_slice h1; subst hv0; have O1 := Aside0.mk h1; have HB1 := Aside0.mk h2; have P1 := Aside0.mk (blk_grown K1.out h3 (Kd.R_ne QO.out K1.out (by decide))); have P2 := Aside0.mk (blk_grown K2.out h3 (Kd.R_ne QO.out K2.out (by decide))); have y0 := blk_frozen P1.out 0; have y1 := (blk_cell P1.out 0).trans rfl; clear h1 h2 h3 h4))
  clear z0 QO QX QB K1 K2 y0 y1
  have O2 := Aside0.mk (Kd.R_set O1.out P1.out (by decide) 0 (.slice B0 d.ino.length e0))
  have HB2 := Aside0.mk (HB1.out.setCell (p := ⟨D, 0, none⟩) hTD (.slice B0 d.ino.length e0))
  have S1 := Aside0.mk (blk_put P1.out 0 (.slice B0 d.ino.length e0) rfl)
  have S2 := Aside0.mk (blk_far P2.out (p := ⟨D, 0, none⟩) (Ne.symm hDS) (.slice B0 d.ino.length e0))
  generalize w1.setCell ⟨D, 0, none⟩ (.slice B0 d.ino.length e0) = W2 at O2 HB2 S1 S2 ⊢
  clear O1 HB1 P1 P2
  have bn := (Below.refl W2.heap.size W2).alloc (Nat.le_refl _) (.cells #[] 49)
  have QO := Aside0.mk (R49_empty HB2.out.size (blk_new W2 (.cells #[] 49)))
  have QX := Aside0.mk (Kd.C_below R3.out (below_step HB2.out bn))
  have QB := Aside0.mk (below_step HB2.out bn)
  have K1 := Aside0.mk (blk_below S1.out bn)
  have K2 := Aside0.mk (blk_below S2.out bn)
  have O3 := Aside0.mk (Kd.R_below O2.out bn)
  have z3 : (W2.alloc (.cells #[] 49)).cell? ⟨D, 3, none⟩ = some (.slice A3 d.ops.length c3) := (blk_cell K1.out 3).trans rfl
  clear bn O2 HB2 S1 S2
  go_upto_region 3 with (at_builtin; go_loud ((refine Kd.R_append_rows k49 (Rr := k49.K _) (w0 := w) w.heap.size rfl _ _ 45 49 (.agg #[.int .i64 0, .string ⟨#[]⟩, .string ⟨#[]⟩, .string ⟨#[]⟩]) 56 rfl Try.underlying45 info49 rfl (by decide) (by decide) (.slice (some ⟨W2.heap.size, 0, none⟩) 0 0) [] d.ops A3 d.ops.length c3 (fun _ => True) (fun _ => False) rfl rfl QO.out QX.out ?q2 ?q3 ?q4 QB.out QB.out.size ?q7 ?_); (case q2 => intro y cs h; obtain rfl := k49_open h; exact k49_mkM _ _ _ _); (case q3 => intro k h; exact h.elim); (case q4 => intro k hk; trivial); (case q7 => simp only [List.length_nil]; omega); intro v1 w3 h1 h2 h3 h4; rw [List.nil_append] at h1; obtain ⟨B3, e3, hv0⟩ := Kd.R_slice h1; subst hv0; have O4 := Aside0.mk h1; have HB3 := Aside0.mk h2; have O5 := Aside0.mk (R_other O3.out QO.out (by decide) h3); have P1 := Aside0.mk (blk_grown K1.out h3 (Kd.R_ne QO.out K1.out (by decide))); have P2 := Aside0.mk (blk_grown K2.out h3 (Kd.R_ne QO.out K2.out (by decide))); have y0 := blk_frozen P1.out 3; have y1 := (blk_cell P1.out 3).trans rfl; clear h1 h2 h3 h4))
  clear z3 QO QX QB K1 K2 y0 y1 O3
  have O6 := Aside0.mk (Kd.R_set O5.out P1.out (by decide) 3 (.slice B3 d.ops.length e3))
  have O7 := Aside0.mk (Kd.R_set O4.out P1.out (by decide) 3 (.slice B3 d.ops.length e3))
  have HB4 := Aside0.mk (HB3.out.setCell (p := ⟨D, 3, none⟩) hTD (.slice B3 d.ops.length e3))
  have S1 := Aside0.mk (blk_put P1.out 3 (.slice B3 d.ops.length e3) rfl)
  have S2 := Aside0.mk (blk_far P2.out (p := ⟨D, 3, none⟩) (Ne.symm hDS) (.slice B3 d.ops.length e3))
  generalize w3.setCell ⟨D, 3, none⟩ (.slice B3 d.ops.length e3) = W4 at O6 O7 HB4 S1 S2 ⊢
  clear O4 O5 HB3 P1 P2
  have z0 := (blk_cell S1.out 0).trans rfl
  have z1 := (blk_cell S1.out 1).trans rfl
  have z2 := (blk_cell S1.out 2).trans rfl
  have z3 := (blk_cell S1.out 3).trans rfl
  have s0 := (blk_cell S2.out 0).trans rfl
  have s1 := (blk_cell S2.out 1).trans rfl
  have s2 := (blk_cell S2.out 2).trans rfl
  have s3 := (blk_cell S2.out 3).trans rfl
  have f0 := blk_frozen S2.out 0
  have f1 := blk_frozen S2.out 1
  have f2 := blk_frozen S2.out 2
  have f3 := blk_frozen S2.out 3
  have q4 := Aside0.mk (put47 S2.out (.slice B0 d.ino.length e0) (.slice A1 d.dir.length c1) (.slice A2 d.dur.length c2) (.slice B3 d.ops.length e3))
  go_wp2
  refine bodyPost_ret (results_cell_row rfl _ _ S 47 _ (0, 0) _ rfl q4.out Try.underlying47 rfl (by kernel_rfl)) rfl ?_
  exact ⟨_, _, _, _, rfl, Kd.R_set (Kd.R_set (Kd.R_set (Kd.R_set O6.out S2.out (by decide) _ _) (blk_put S2.out 0 _ rfl) (by decide) _ _) (blk_put (blk_put S2.out 0 _ rfl) 1 _ rfl) (by decide) _ _) (blk_put (blk_put (blk_put S2.out 0 _ rfl) 1 _ rfl) 2 _ rfl) (by decide) _ _, Kd.R_set (Kd.R_set (Kd.R_set (Kd.R_set O7.out S2.out (by decide) _ _) (blk_put S2.out 0 _ rfl) (by decide) _ _) (blk_put (blk_put S2.out 0 _ rfl) 1 _ rfl) (by decide) _ _) (blk_put (blk_put (blk_put S2.out 0 _ rfl) 1 _ rfl) 2 _ rfl) (by decide) _ _, below_put47 HB4.out hTS _ _ _ _⟩
end Go.Proofs.Ytnaddmkaakdhoaa.J

end
section
namespace Go.Proofs.Ytnaddmkaakdhoaa.Dk
open J
def toAt (l : List S69) (i j : Nat) : Int := if j < i then (if marked l j = true then (num l j : Nat) else -1) else 0
end Go.Proofs.Ytnaddmkaakdhoaa.Dk
namespace Go.Proofs.Ytnaddmkaakdhoaa.J
open Go.RowKit Go.Proofs.YtnaddmkaakdhoaaW.PrintWords Go.Proofs.YtnaddmkaakdhoaaW.PrintLast Go.Proofs.YtnaddmkaakdhoaaW.PrintMore
open Dk (marked num keptTo ren toAt)
set_option linter.unusedVariables false
set_option linter.unusedSimpArgs false
theorem DR.swap {w : World} {T : Nat} {v0 v1 v2 v3 : Value} {d : Dsk} (h : DR w T (.agg #[v0, v1, v2, v3]) d) : DR w T (.agg #[v0, v2, v1, v3]) ⟨d.ino, d.dur, d.dir, d.ops⟩ := by
  obtain ⟨h0, h1, h2, h3⟩ := h.rows
  exact ⟨_, _, _, _, rfl, h0, h2, h1, h3⟩
attribute [local go_sem ↓] Go.wp_at_zero Go.wp_at_succ
set_option maxHeartbeats 8000000 in
set_option maxRecDepth 100000 in
theorem settle58_calls (A0 : Option Addr) (c0 : Nat) (A1 : Option Addr) (c1 : Nat) (A2 : Option Addr) (c2 : Nat) (A3 : Option Addr) (c3 : Nat) (d : Dsk) (w : World) (hr0 : Kd.C k67 w A0 d.ino.length d.ino) (hc0 : d.ino.length ≤ c0) (hr1 : Kd.C k69 w A1 d.dir.length d.dir) (hc1 : d.dir.length ≤ c1) (hs : Sml 200000 d) (hin : ∀ x ∈ d.dir, 0 ≤ x.f1 ∧ x.f1 < d.ino.length) :
    Calls Try.prog 58 #[.agg #[.slice A0 d.ino.length c0, .slice A1 d.dir.length c1, .slice A2 d.dur.length c2, .slice A3 d.ops.length c3]] w fun e w' => ∃ v, e = .returned v ∧ DR w' w.heap.size v (Dk.settle d) ∧ Below w.heap.size w w' := by
  obtain ⟨n0, n1, n2, n3⟩ := hs
  have R0 := Aside0.mk hr0
  have R1 := Aside0.mk hr1
  have HI := Aside0.mk hin
  clear hr0 hr1 hin
  obtain ⟨n, hn⟩ : ∃ n, n = d.ino.length := ⟨_, rfl⟩
  have HN := Aside0.mk hn
  obtain ⟨ld, hld⟩ : ∃ ld, ld = d.dir.length := ⟨_, rfl⟩
  have HLD := Aside0.mk hld
  obtain ⟨lu, hlu⟩ : ∃ lu, lu = d.dur.length := ⟨_, rfl⟩
  obtain ⟨lo, hlo⟩ : ∃ lo, lo = d.ops.length := ⟨_, rfl⟩
  rw [← hn] at n0 hc0 ⊢
  rw [← hld] at n1 hc1 ⊢
  rw [← hlu] at n2 ⊢
  rw [← hlo] at n3 ⊢
  have hmk := make_nums n (by omega)
  clear hn hld hlu hlo
  go_enter Try.func58, Try.ntmps58
  go_upto_region 3 with fail
  obtain ⟨oD, hoD⟩ : ∃ o : Obj, o = .cells #[.slice A0 n c0, .slice A1 ld c1, .slice A2 lu c2, .slice A3 lo c3] 47 := ⟨_, rfl⟩
  obtain ⟨oZ, hoZ⟩ : ∃ o : Obj, o = .cells #[.slice none 0 0, .slice none 0 0, .slice none 0 0, .slice none 0 0] 47 := ⟨_, rfl⟩
  obtain ⟨oN, hoN⟩ : ∃ o : Obj, o = .cells (ncells n (fun _ => 0)) 3 := ⟨_, rfl⟩
  rw [← hoD, ← hoZ, ← hoN]
  have hB := below_alloc (below_alloc (below_alloc (below_alloc (Below.refl w.heap.size w) oD) oZ) oN) oZ
  have k1 := blk_alloc (blk_alloc (blk_alloc (blk_new w oD) oZ) oN) oZ
  have k2 := blk_alloc (blk_alloc (blk_new (w.alloc oD) oZ) oN) oZ
  have k3 := blk_alloc (blk_new ((w.alloc oD).alloc oZ) oN) oZ
  have k4 := blk_new (((w.alloc oD).alloc oZ).alloc oN) oZ
  rw [show ((w.alloc oD).alloc oZ).heap.size = w.heap.size + 1 + 1 by simp] at k3
  rw [show (((w.alloc oD).alloc oZ).alloc oN).heap.size = w.heap.size + 1 + 1 + 1 by simp] at k4
  rw [show (w.alloc oD).heap.size = w.heap.size + 1 by simp] at k2
  generalize (((w.alloc oD).alloc oZ).alloc oN).alloc oZ = W0 at hB k1 k2 k3 k4 ⊢
  subst hoD hoZ hoN
  obtain ⟨D, hD⟩ : ∃ D, D = w.heap.size := ⟨_, rfl⟩
  obtain ⟨S, hS⟩ : ∃ S, S = w.heap.size + 1 := ⟨_, rfl⟩
  obtain ⟨N, hNe⟩ : ∃ N, N = w.heap.size + 1 + 1 := ⟨_, rfl⟩
  obtain ⟨O, hO⟩ : ∃ O, O = w.heap.size + 1 + 1 + 1 := ⟨_, rfl⟩
  rw [← hO] at k4 ⊢
  rw [← hNe] at k3 ⊢
  rw [← hS] at k2 ⊢
  have hTD : w.heap.size ≤ D := by omega
  have hTS : w.heap.size ≤ S := by omega
  have hTN : w.heap.size ≤ N := by omega
  have hTO : w.heap.size ≤ O := by omega
  have hDN : D ≠ N := by omega
  have hDO : D ≠ O := by omega
  have hSN : S ≠ N := by omega
  have hSO : S ≠ O := by omega
  have hNO : N ≠ O := by omega
  rw [← hD] at k1 ⊢
  have HB0 := Aside0.mk hB
  have K1 := Aside0.mk k1
  have K2 := Aside0.mk k2
  have KN : Aside0 (Nums W0 N n (toAt d.dir 0)) := ⟨by
    have e : toAt d.dir 0 = fun _ => 0 := by funext j; unfold toAt; rw [if_neg (Nat.not_lt_zero _)]
    rw [e]; exact k3⟩
  have K4 := Aside0.mk k4
  have z0 : W0.cell? ⟨D, 0, none⟩ = some (.slice A0 n c0) := (blk_cell k1 0).trans rfl
  clear hB k1 k2 k3 k4 hD hS hNe hO
  go_wp2_with fail
  go_loopg [18] n (fun kx s18 wr => ∃ (i : Nat) (B0 : Option Addr) (e0 : Nat), s18 = .int .i64 i ∧ i ≤ n ∧ n - i ≤ kx ∧ Aside0 (Below w.heap.size w wr) ∧ Aside0 (wr.heap[D]? = some (.cells #[.slice A0 n c0, .slice A1 ld c1, .slice A2 lu c2, .slice A3 lo c3] 47 (0, 0))) ∧ Aside0 (wr.heap[S]? = some (.cells #[.slice none 0 0, .slice none 0 0, .slice none 0 0, .slice none 0 0] 47 (0, 0))) ∧ Aside0 (wr.heap[O]? = some (.cells #[.slice B0 (num d.dir i) e0, .slice none 0 0, .slice none 0 0, .slice none 0 0] 47 (0, 0))) ∧ Aside0 (Nums wr N n (toAt d.dir i)) ∧ Aside0 (Kd.R k67 67 wr w.heap.size (fun _ => True) (.slice B0 (num d.dir i) e0) (keptTo d.dir d.ino i)))
  case atStart => exact ⟨0, none, 0, rfl, Nat.zero_le _, by omega, HB0, K1, K2, K4, KN, ⟨Kd.R_nil _ _ _ _ _⟩⟩
  case round =>
    clear HB0 K1 K2 K4 KN z0
    obtain ⟨i, B0, e0, rfl, hi, hk, HB, K1, K2, K4, KN, RO⟩ := hrel
    by_cases hlt : i < n
    · obtain ⟨ad, ea, hx0, hx1⟩ := at_T67 R0.out (i : Int) (by omega) (by have := HN.out; omega)
      cases ea
      obtain ⟨y, hy⟩ : ∃ y, y = rd_T67 d.ino (i : Int) := ⟨_, rfl⟩
      rw [← hy] at hx0 hx1
      replace hx0 : wr.cell? (ad.add (i * 2)) = some (.string y.f0) := pw_cell_below HB.out hx0
      replace hx1 : wr.cell? ⟨(ad.add (i * 2)).block, (ad.add (i * 2)).off + 1, none⟩ = some (.int .i64 y.f1) := pw_cell_below HB.out hx1
      have Y := Aside0.mk (show d.ino.getD i z67 = y from by rw [hy]; rfl)
      have hi0 : (0 : Int) ≤ (i : Int) := by omega
      have hin : (i : Int) < (n : Int) := by omega
      have HB2 := Aside0.mk (below_alloc HB.out (.cells #[.string y.f0, .int .i64 y.f1] 67))
      have M1 := Aside0.mk (blk_alloc K1.out (.cells #[.string y.f0, .int .i64 y.f1] 67))
      have M2 := Aside0.mk (blk_alloc K2.out (.cells #[.string y.f0, .int .i64 y.f1] 67))
      have M4 := Aside0.mk (blk_alloc K4.out (.cells #[.string y.f0, .int .i64 y.f1] 67))
      have MN : Aside0 (Nums (wr.alloc (.cells #[.string y.f0, .int .i64 y.f1] 67)) N n (toAt d.dir i)) := ⟨blk_alloc KN.out _⟩
      have MR := Aside0.mk (Kd.R_alloc RO.out (.cells #[.string y.f0, .int .i64 y.f1] 67))
      have KY := Aside0.mk (blk_new wr (.cells #[.string y.f0, .int .i64 y.f1] 67))
      have hTY : w.heap.size ≤ wr.heap.size := HB.out.size
      clear hy HB K1 K2 K4 KN RO
      go_upto_region 6 with fail
      generalize wr.alloc (.cells #[.string y.f0, .int .i64 y.f1] 67) = W1 at HB2 M1 M2 M4 MN MR KY ⊢
      obtain ⟨X, hX⟩ : ∃ X, X = wr.heap.size := ⟨_, rfl⟩
      rw [← hX] at KY hTY ⊢
      clear hX hx0 hx1
      have fN : W1.frozen? ⟨N, i, none⟩ = false := blk_frozen MN.out i
      have gN := Nums.cell MN.out hlt
      go_upto_region 7 with fail
      obtain ⟨fo, hfo⟩ : ∃ fo : Bool → Nat → Int, fo = fun b j => if j = i then (if b = true then ((num d.dir i : Nat) : Int) else -1) else toAt d.dir i j := ⟨_, rfl⟩
      have FO := Aside0.mk hfo
      have HB3 := Aside0.mk (HB2.out.setCell (p := ⟨N, i, none⟩) hTN (.int .i64 (-1)))
      have P1 := Aside0.mk (blk_far M1.out (p := ⟨N, i, none⟩) hDN (.int .i64 (-1)))
      have P2 := Aside0.mk (blk_far M2.out (p := ⟨N, i, none⟩) hSN (.int .i64 (-1)))
      have P4 := Aside0.mk (blk_far M4.out (p := ⟨N, i, none⟩) (Ne.symm hNO) (.int .i64 (-1)))
      have PY := Aside0.mk (blk_far KY.out (p := ⟨N, i, none⟩) (blk_ne KY.out MN.out (by decide)) (.int .i64 (-1)))
      have PN : Aside0 (Nums (W1.setCell ⟨N, i, none⟩ (.int .i64 (-1))) N n (fo false)) := ⟨Nums.set MN.out hlt (-1) (fun k => by rw [hfo]; simp)⟩
      have PR := Aside0.mk (Kd.R_set MR.out MN.out (by decide) i (.int .i64 (-1)))
      generalize W1.setCell ⟨N, i, none⟩ (.int .i64 (-1)) = W2 at HB3 P1 P2 P4 PY PN PR ⊢
      have z1 : W2.cell? ⟨D, 1, none⟩ = some (.slice A1 ld c1) := (blk_cell P1.out 1).trans rfl
      clear HB2 M1 M2 M4 MN MR KY fN gN hfo
      go_wp2_with fail
      go_loopg [29] ld (fun kx s29 wr => ∃ t : Nat, s29 = .int .i64 t ∧ t ≤ ld ∧ ld - t ≤ kx ∧ Aside0 (Below w.heap.size w wr) ∧ Aside0 (wr.heap[D]? = some (.cells #[.slice (some ad) n c0, .slice A1 ld c1, .slice A2 lu c2, .slice A3 lo c3] 47 (0, 0))) ∧ Aside0 (wr.heap[S]? = some (.cells #[.slice none 0 0, .slice none 0 0, .slice none 0 0, .slice none 0 0] 47 (0, 0))) ∧ Aside0 (wr.heap[O]? = some (.cells #[.slice B0 (num d.dir i) e0, .slice none 0 0, .slice none 0 0, .slice none 0 0] 47 (0, 0))) ∧ Aside0 (wr.heap[X]? = some (.cells #[.string y.f0, .int .i64 y.f1] 67 (0, 0))) ∧ Aside0 (Nums wr N n (fo (marked (d.dir.take t) i))) ∧ Aside0 (Kd.R k67 67 wr w.heap.size (fun _ => True) (.slice B0 (num d.dir i) e0) (keptTo d.dir d.ino i)))
      case atStart => exact ⟨0, rfl, Nat.zero_le _, by omega, HB3, P1, P2, P4, PY, PN, PR⟩
      case round =>
        clear HB3 P1 P2 P4 PY PN PR z1
        obtain ⟨t, rfl, ht, hkt, HB, K1, K2, K4, KY, KN, RO⟩ := hrel
        by_cases hti : t < ld
        · obtain ⟨ad2, ea, hp0, hp1⟩ := at_T69 R1.out (t : Int) (by omega) (by have := HLD.out; omega)
          cases ea
          obtain ⟨yp, hyp⟩ : ∃ yp, yp = rd_T69 d.dir (t : Int) := ⟨_, rfl⟩
          rw [← hyp] at hp0 hp1
          have MT := Aside0.mk (marked_take (l := d.dir) (t := t) (i := i) (y := yp) (by have := HLD.out; omega) (by rw [hyp]; rfl))
          replace hp0 : wr.cell? (ad2.add (t * 2)) = some (.string yp.f0) := pw_cell_below HB.out hp0
          replace hp1 : wr.cell? ⟨(ad2.add (t * 2)).block, (ad2.add (t * 2)).off + 1, none⟩ = some (.int .i64 yp.f1) := pw_cell_below HB.out hp1
          have HB2 := Aside0.mk (below_alloc HB.out (.cells #[.string yp.f0, .int .i64 yp.f1] 69))
          have M1 := Aside0.mk (blk_alloc K1.out (.cells #[.string yp.f0, .int .i64 yp.f1] 69))
          have M2 := Aside0.mk (blk_alloc K2.out (.cells #[.string yp.f0, .int .i64 yp.f1] 69))
          have M4 := Aside0.mk (blk_alloc K4.out (.cells #[.string yp.f0, .int .i64 yp.f1] 69))
          have MY := Aside0.mk (blk_alloc KY.out (.cells #[.string yp.f0, .int .i64 yp.f1] 69))
          have MN : Aside0 (Nums (wr.alloc (.cells #[.string yp.f0, .int .i64 yp.f1] 69)) N n (fo (marked (d.dir.take t) i))) := ⟨blk_alloc KN.out _⟩
          have MR := Aside0.mk (Kd.R_alloc RO.out (.cells #[.string yp.f0, .int .i64 yp.f1] 69))
          have y1 := (blk_cell (blk_new wr (.cells #[.string yp.f0, .int .i64 yp.f1] 69)) 1).trans rfl
          have o0 := (blk_cell M4.out 0).trans rfl
          have fN : (wr.alloc (.cells #[.string yp.f0, .int .i64 yp.f1] 69)).frozen? ⟨N, i, none⟩ = false := blk_frozen MN.out i
          have gN := Nums.cell MN.out hlt
          clear hyp HB K1 K2 K4 KY KN RO
          go_wp2_with fail
          all_goals
            first
            | (have he : yp.f1 = (i : Int) := eq_of_beq (by assumption : (yp.f1 == (i : Int)) = true)
               have et : marked (d.dir.take (t + 1)) i = true := by rw [MT.out, he]; simp
               go_roundg (ld - t - 1)
               case measure => omega
               case rel =>
                refine ⟨t + 1, by first | rfl | (simp; done), hti, by omega, ⟨HB2.out.setCell (p := ⟨N, i, none⟩) hTN _⟩, ⟨blk_far M1.out (p := ⟨N, i, none⟩) hDN _⟩, ⟨blk_far M2.out (p := ⟨N, i, none⟩) hSN _⟩, ⟨blk_far M4.out (p := ⟨N, i, none⟩) (Ne.symm hNO) _⟩, ⟨blk_far MY.out (p := ⟨N, i, none⟩) (blk_ne MY.out MN.out (by decide)) _⟩, ⟨?_⟩, ⟨Kd.R_set MR.out MN.out (by decide) i _⟩⟩
                rw [et]
                exact Nums.set MN.out hlt _ (fun k => by
                  rw [FO.out]
                  by_cases hk : k = i
                  · simp [hk]
                  · simp [hk]))
            | (have he : ¬ yp.f1 = (i : Int) := ne_of_beq_false (by assumption : (yp.f1 == (i : Int)) = false)
               have et : marked (d.dir.take (t + 1)) i = marked (d.dir.take t) i := by rw [MT.out, decide_eq_false he, Bool.or_false]
               go_roundg (ld - t - 1)
               case measure => omega
               case rel =>
                exact ⟨t + 1, by first | rfl | (simp; done), hti, by omega, HB2, M1, M2, M4, MY, ⟨by rw [et]; exact MN.out⟩, MR⟩)
        · have et : marked (d.dir.take t) i = marked d.dir i := by rw [List.take_of_length_le (by have := HLD.out; omega)]
          rw [et] at KN
          obtain ⟨mb, hmb⟩ : ∃ mb, mb = marked d.dir i := ⟨_, rfl⟩
          rw [← hmb] at KN
          have MB := Aside0.mk hmb
          have NS := Aside0.mk (Dk.num_succ d.dir i)
          have KS := Aside0.mk (Dk.keptTo_succ d.dir d.ino i)
          have TS := Aside0.mk (show toAt d.dir (i + 1) = fo mb from by
            rw [FO.out]
            funext j
            show toAt d.dir (i + 1) j = if j = i then (if mb = true then ((num d.dir i : Nat) : Int) else -1) else toAt d.dir i j
            by_cases h : j = i
            · rw [if_pos h, h, hmb]
              unfold toAt
              rw [if_pos (by omega)]
            · rw [if_neg h]
              unfold toAt
              by_cases h2 : j < i
              · rw [if_pos h2, if_pos (by omega)]
              · rw [if_neg h2, if_neg (by omega)])
          have gN := Nums.cell KN.out hlt
          rw [show fo mb i = if mb = true then ((num d.dir i : Nat) : Int) else -1 from by rw [FO.out]; simp] at gN
          clear et hmb
          cases mb with
          | false =>
            rw [if_neg (by decide)] at gN
            rw [← MB.out] at NS KS
            go_wp2_with fail
            go_roundg (n - i - 1)
            case measure => omega
            case rel =>
              refine ⟨i + 1, B0, e0, by first | rfl | (simp; done), hlt, by omega, HB, K1, K2, ⟨?_⟩, ⟨by rw [TS.out]; exact KN.out⟩, ⟨?_⟩⟩
              · rw [NS.out]; exact K4.out
              · rw [NS.out, KS.out]
                simpa using RO.out
          | true =>
            rw [if_pos rfl] at gN
            rw [← MB.out] at NS KS
            have hno : ((num d.dir i : Nat) : Int) ≠ -1 := by omega
            have hno2 : (((num d.dir i : Nat) : Int) == -1) = false := beq_eq_false_iff_ne.2 hno
            have hnl : num d.dir i ≤ i := Dk.num_le d.dir i
            have KL := Aside0.mk (Dk.keptTo_length d.dir d.ino i)
            have o0 := (blk_cell K4.out 0).trans rfl
            have y0 := (blk_cell KY.out 0).trans rfl
            have y1 := (blk_cell KY.out 1).trans rfl
            obtain ⟨m, hm⟩ : ∃ m, m = num d.dir i := ⟨_, rfl⟩
            rw [← hm] at NS KL K4 RO gN hno hno2 hnl o0
            have HM := Aside0.mk hm
            clear hm
            have NS2 := Aside0.mk (show num d.dir (i + 1) = m + 1 from by have := NS.out; simpa using this)
            have KS2 := Aside0.mk (show keptTo d.dir d.ino (i + 1) = keptTo d.dir d.ino i ++ [y] from by have := KS.out; rw [Y.out] at this; simpa using this)
            clear NS KS
            go_upto_region 14 with fail
            have bn := (Below.refl wr.heap.size wr).alloc (Nat.le_refl _) (.cells #[.string y.f0, .int .i64 y.f1] 67)
            have QC := Aside0.mk (C67_one (x := y) (blk_new wr (.cells #[.string y.f0, .int .i64 y.f1] 67)))
            have QR := Aside0.mk (Kd.R_below RO.out bn)
            have QB := Aside0.mk (below_step HB.out bn)
            have K1' := Aside0.mk (blk_below K1.out bn)
            have K2' := Aside0.mk (blk_below K2.out bn)
            have K4' := Aside0.mk (blk_below K4.out bn)
            have KN' : Aside0 (Nums _ N n (fo true)) := ⟨blk_below KN.out bn⟩
            clear bn gN
            go_upto_region 15 with (at_builtin; go_loud ((refine Kd.R_append_rows k67 (Rr := k67.K _) (w0 := w) w.heap.size rfl _ _ 43 67 (.agg #[.string ⟨#[]⟩, .int .i64 0]) 24 rfl Try.underlying43 info67 rfl (by decide) (by decide) (.slice B0 m e0) (keptTo d.dir d.ino i) [y] (some ⟨wr.heap.size, 0, none⟩) 1 1 (fun _ => True) (fun _ => False) rfl rfl QR.out QC.out ?q2 ?q3 ?q4 QB.out QB.out.size ?q7 ?_); (case q2 => intro y cs h; obtain rfl := k67_open h; exact k67_mkM _ _ _ _); (case q3 => intro k h; exact h.elim); (case q4 => intro k hk; trivial); (case q7 => have := KL.out; first | omega | (simp only [List.length_cons, List.length_nil, List.length_append] at *; omega)); intro v1 w3 h1 h2 h3 h4; obtain ⟨B0', e0', hv0⟩ := Kd.R_slice h1; rw [show (keptTo d.dir d.ino i ++ [y]).length = m + 1 by rw [List.length_append, KL.out]; rfl] at hv0; subst hv0; have O1 := Aside0.mk h1; have HB1 := Aside0.mk h2; have P1 := Aside0.mk (blk_grown K1'.out h3 (Kd.R_ne QR.out K1'.out (by decide))); have P2 := Aside0.mk (blk_grown K2'.out h3 (Kd.R_ne QR.out K2'.out (by decide))); have P4 := Aside0.mk (blk_grown K4'.out h3 (Kd.R_ne QR.out K4'.out (by decide))); have PN : Aside0 (Nums w3 N n (fo true)) := ⟨blk_grown KN'.out h3 (Kd.R_ne QR.out KN'.out (by decide))⟩; have g0 := blk_frozen P4.out 0; have g1 := (blk_cell P4.out 0).trans rfl; clear h1 h2 h3 h4))
            go_wp2_with fail
            go_roundg (n - i - 1)
            case measure => omega
            case rel =>
              refine ⟨i + 1, B0', e0', by first | rfl | (simp; done), hlt, by omega, ⟨HB1.out.setCell (p := ⟨O, 0, none⟩) hTO _⟩, ⟨blk_far P1.out (p := ⟨O, 0, none⟩) hDO _⟩, ⟨blk_far P2.out (p := ⟨O, 0, none⟩) hSO _⟩, ⟨?_⟩, ⟨?_⟩, ⟨?_⟩⟩
              · rw [NS2.out]
                exact blk_put P4.out 0 _ rfl
              · rw [TS.out]
                exact blk_far PN.out (p := ⟨O, 0, none⟩) hNO _
              · rw [NS2.out, KS2.out]
                exact Kd.R_set O1.out P4.out (by decide) 0 _
    · have hin2 : i = n := by omega
      have E0 := Aside0.mk (show keptTo d.dir d.ino n = (Dk.settle d).ino from by rw [HN.out]; rfl)
      rw [hin2] at K4 KN RO
      rw [E0.out] at RO
      obtain ⟨m, hm⟩ : ∃ m, m = num d.dir n := ⟨_, rfl⟩
      rw [← hm] at K4 RO
      have DS := Aside0.mk (show DR wr w.heap.size (.agg #[.slice B0 m e0, .slice none 0 0, .slice none 0 0, .slice none 0 0]) ⟨(Dk.settle d).ino, [], [], []⟩ from ⟨_, _, _, _, rfl, RO.out, Kd.R_nil _ _ _ _ _, Kd.R_nil _ _ _ _ _, Kd.R_nil _ _ _ _ _⟩)
      have HB' := HB
      have K1' := K1
      have K2' := K2
      have K4' := K4
      have KN' := KN
      have z1 : wr.cell? ⟨D, 1, none⟩ = some (.slice A1 ld c1) := (blk_cell K1.out 1).trans rfl
      clear hm RO E0 HB K1 K2 K4 KN hk hi hin2
      go_wp2_with fail
      go_loopg [59] ld (fun kx s59 wr => ∃ (t : Nat) (B1 : Option Addr) (e1 : Nat) (B2 : Option Addr) (e2 : Nat), s59 = .int .i64 t ∧ t ≤ ld ∧ ld - t ≤ kx ∧ Aside0 (Below w.heap.size w wr) ∧ Aside0 (wr.heap[D]? = some (.cells #[.slice A0 n c0, .slice A1 ld c1, .slice A2 lu c2, .slice A3 lo c3] 47 (0, 0))) ∧ Aside0 (wr.heap[S]? = some (.cells #[.slice none 0 0, .slice none 0 0, .slice none 0 0, .slice none 0 0] 47 (0, 0))) ∧ Aside0 (wr.heap[O]? = some (.cells #[.slice B0 m e0, .slice B1 t e1, .slice B2 t e2, .slice none 0 0] 47 (0, 0))) ∧ Aside0 (Nums wr N n (toAt d.dir n)) ∧ Aside0 (DR wr w.heap.size (.agg #[.slice B0 m e0, .slice B1 t e1, .slice B2 t e2, .slice none 0 0]) ⟨(Dk.settle d).ino, (d.dir.take t).map (ren d.dir), (d.dir.take t).map (ren d.dir), []⟩))
      case atStart => exact ⟨0, none, 0, none, 0, rfl, Nat.zero_le _, by omega, HB', K1', K2', K4', KN', DS⟩
      case round =>
        clear HB' K1' K2' K4' KN' DS z1
        obtain ⟨t, B1, e1, B2, e2, rfl, ht, hkt, HB, K1, K2, K4, KN, DS⟩ := hrel
        by_cases hti : t < ld
        · obtain ⟨ad2, ea, hp0, hp1⟩ := at_T69 R1.out (t : Int) (by omega) (by have := HLD.out; omega)
          cases ea
          obtain ⟨y, hy⟩ : ∃ y, y = rd_T69 d.dir (t : Int) := ⟨_, rfl⟩
          rw [← hy] at hp0 hp1
          have htl : t < d.dir.length := by have := HLD.out; omega
          have hyt : d.dir[t] = y := by rw [hy]; show _ = d.dir.getD t z69; rw [Dk.getD_eq htl]
          have hmem : y ∈ d.dir := hyt ▸ List.getElem_mem htl
          obtain ⟨j, hj⟩ : ∃ j : Nat, y.f1 = (j : Int) := ⟨y.f1.toNat, (Int.toNat_of_nonneg (HI.out y hmem).1).symm⟩
          have hjn : j < n := by have := (HI.out y hmem).2; have := HN.out; omega
          have TK := Aside0.mk (show (d.dir.take (t + 1)).map (ren d.dir) = (d.dir.take t).map (ren d.dir) ++ [⟨y.f0, (num d.dir j : Nat)⟩] from by
            rw [List.take_succ_eq_append_getElem htl, List.map_append, hyt]
            show _ = _ ++ [_]
            congr 1
            show [ren d.dir y] = _
            unfold ren
            rw [hj, Int.toNat_natCast])
          have hnum := Nums.cell KN.out hjn
          rw [show toAt d.dir n j = (num d.dir j : Nat) from by unfold toAt; rw [if_pos hjn, if_pos (Dk.marked_mem hmem hj)]] at hnum
          obtain ⟨nj, hnj⟩ : ∃ nj, nj = num d.dir j := ⟨_, rfl⟩
          rw [← hnj] at hnum TK
          replace hp0 : wr.cell? (ad2.add (t * 2)) = some (.string y.f0) := pw_cell_below HB.out hp0
          replace hp1 : wr.cell? ⟨(ad2.add (t * 2)).block, (ad2.add (t * 2)).off + 1, none⟩ = some (.int .i64 y.f1) := pw_cell_below HB.out hp1
          rw [hj] at hp1
          have NJ := Aside0.mk hnj
          have MKJ := Aside0.mk (Dk.marked_mem hmem hj)
          have bn := (Below.refl wr.heap.size wr).alloc (Nat.le_refl _) (.cells #[.string y.f0, .int .i64 (j : Nat)] 69)
          have HB2 := Aside0.mk (below_step HB.out bn)
          have M1 := Aside0.mk (blk_below K1.out bn)
          have M2 := Aside0.mk (blk_below K2.out bn)
          have M4 := Aside0.mk (blk_below K4.out bn)
          have MN : Aside0 (Nums (wr.alloc (.cells #[.string y.f0, .int .i64 (j : Nat)] 69)) N n (toAt d.dir n)) := ⟨blk_below KN.out bn⟩
          have MD := Aside0.mk (DS.out.below bn)
          have MX := Aside0.mk (blk_new wr (.cells #[.string y.f0, .int .i64 (j : Nat)] 69))
          have hj0 : (0 : Int) ≤ (j : Int) := by omega
          have hj1 : (j : Int) < (n : Int) := by omega
          have hnj' := Aside0.mk (pw_cell_below bn hnum)
          have MDX := DS
          clear hy hyt hmem hj hnj HB K1 K2 K4 KN DS bn hnum
          go_upto_region 19 with fail
          generalize wr.alloc (.cells #[.string y.f0, .int .i64 (j : Nat)] 69) = W1 at HB2 M1 M2 M4 MN MD MX hnj' ⊢
          obtain ⟨X, hX⟩ : ∃ X, X = wr.heap.size := ⟨_, rfl⟩
          rw [← hX] at MX ⊢
          have hXw : wr.heap.size ≤ X := by omega
          clear hX hp0 hp1
          have x0 : W1.cell? ⟨X, 0, none⟩ = some (.string y.f0) := (blk_cell MX.out 0).trans rfl
          have x1 : W1.cell? ⟨X, 1, none⟩ = some (.int .i64 (j : Nat)) := (blk_cell MX.out 1).trans rfl
          have xn : W1.cell? ⟨N, j, none⟩ = some (.int .i64 (nj : Nat)) := hnj'.out
          have o1 : W1.cell? ⟨O, 1, none⟩ = some (.slice B1 t e1) := (blk_cell M4.out 1).trans rfl
          have o1' := fun o => (World.cell?_alloc_lt W1 o _ (World.block_lt_of_cell? W1 _ o1)).trans o1
          have bd := ((Below.refl W1.heap.size W1).alloc (Nat.le_refl _) (.cells #[.string y.f0, .int .i64 (nj : Nat)] 69)).drew
          have QC := Aside0.mk (C69_one (x := ⟨y.f0, (nj : Nat)⟩) (blk_drew (blk_new W1 (.cells #[.string y.f0, .int .i64 (nj : Nat)] 69))))
          have QB := Aside0.mk (below_step HB2.out bd)
          have P1 := Aside0.mk (blk_below M1.out bd)
          have P2 := Aside0.mk (blk_below M2.out bd)
          have P4 := Aside0.mk (blk_below M4.out bd)
          have PX := Aside0.mk (blk_below MX.out bd)
          have PN : Aside0 (Nums _ N n (toAt d.dir n)) := ⟨blk_below MN.out bd⟩
          have PD := Aside0.mk (MD.out.below bd)
          clear bd
          have hl1 : ((d.dir.take t).map (ren d.dir)).length = t := by rw [List.length_map, List.length_take]; omega
          have L1 := Aside0.mk hl1
          clear hl1
          have XNE := Aside0.mk (show some X ≠ (Value.slice B1 t e1).ownBlock ∧ X ≠ O from ⟨fun e => by
            have := own_lt (R69_own MDX.out.rows.2.1) X e.symm
            omega, blk_ne MX.out M4.out (by decide)⟩)
          go_cut [74] (fun c wx => ∃ (C1 : Option Addr) (g1 : Nat), c = .slice C1 (t + 1) g1 ∧ Aside0 (Below w.heap.size w wx) ∧ Aside0 (wx.heap[D]? = some (.cells #[.slice A0 n c0, .slice (some ad2) ld c1, .slice A2 lu c2, .slice A3 lo c3] 47 (0, 0))) ∧ Aside0 (wx.heap[S]? = some (.cells #[.slice none 0 0, .slice none 0 0, .slice none 0 0, .slice none 0 0] 47 (0, 0))) ∧ Aside0 (wx.heap[O]? = some (.cells #[.slice B0 m e0, .slice C1 (t + 1) g1, .slice B2 t e2, .slice none 0 0] 47 (0, 0))) ∧ Aside0 (wx.cell? ⟨X, 0, none⟩ = some (.string y.f0) ∧ wx.cell? ⟨X, 1, none⟩ = some (.int .i64 (j : Nat))) ∧ Aside0 (Nums wx N n (toAt d.dir n)) ∧ Aside0 (DR wx w.heap.size (.agg #[.slice B0 m e0, .slice C1 (t + 1) g1, .slice B2 t e2, .slice none 0 0]) ⟨(Dk.settle d).ino, (d.dir.take (t + 1)).map (ren d.dir), (d.dir.take t).map (ren d.dir), []⟩))
          case first =>
            go_region_law (refine Kd.R_append_rows_step k69 (Rr := k69.K _) (w0 := w) w.heap.size (by rfl) (.tmp 64) (.tmp 73) 44 69 (.agg #[.string ⟨#[]⟩, .int .i64 0]) 24 rfl Try.underlying44 info69 rfl (by decide) (by decide) (.slice B1 t e1) ((d.dir.take t).map (ren d.dir)) [⟨y.f0, (nj : Nat)⟩] (some ⟨W1.heap.size, 0, none⟩) 1 1 (fun k => some k ≠ (Value.slice B2 t e2).ownBlock) (fun _ => False) rfl rfl PD.out.rows.2.1 QC.out (by intro y cs h; obtain rfl := k69_open h; exact k69_mkM _ _ _ _) (fun k h => h.elim) (fun k hk e => by have := own_lt (R69_own PD.out.rows.2.2.1) k e.symm; omega) QB.out QB.out.size (by have := L1.out; omega) ?_; intro v1 w3 h1 h2 h3 h4; obtain ⟨C1, g1, hv⟩ := Kd.R_slice h1; rw [show ((d.dir.take t).map (ren d.dir) ++ [(⟨y.f0, (nj : Nat)⟩ : S69)]).length = t + 1 by rw [List.length_append, L1.out]; rfl] at hv; subst hv; rw [← TK.out] at h1; have HH2 := Aside0.mk h2; have G1 := Aside0.mk (blk_grown P1.out h3 (Kd.R_ne PD.out.rows.2.1 P1.out (by decide))); have G2 := Aside0.mk (blk_grown P2.out h3 (Kd.R_ne PD.out.rows.2.1 P2.out (by decide))); have G4 := Aside0.mk (blk_grown P4.out h3 (Kd.R_ne PD.out.rows.2.1 P4.out (by decide))); have GX := Aside0.mk (show w3.heap[X]? = _ from blk_grown PX.out h3 (fun e => XNE.out.1 e)); have GN : Aside0 (Nums w3 N n (toAt d.dir n)) := ⟨blk_grown PN.out h3 (Kd.R_ne PD.out.rows.2.1 PN.out (by decide))⟩; have GD := Aside0.mk (PD.out.dir' (v1' := .slice C1 (t + 1) g1) ⟨Kd.R_mono h1 (fun k hk => .inl hk), h3, by rcases h4 with h | ⟨b, h, hb⟩; exact .inl h; exact .inr (.inr ⟨b, h, hb⟩)⟩); have q0 := blk_frozen G4.out 1; have q1 := (blk_cell G4.out 1).trans rfl; clear h1 h2 h3 h4)
            all_goals
              go_wp2
              go_meet
              exact ⟨C1, g1, rfl, ⟨HH2.out.setCell (p := ⟨O, 1, none⟩) hTO _⟩, ⟨blk_far G1.out (p := ⟨O, 1, none⟩) hDO _⟩, ⟨blk_far G2.out (p := ⟨O, 1, none⟩) hSO _⟩, ⟨blk_put G4.out 1 _ rfl⟩, ⟨(blk_cell (blk_far GX.out (p := ⟨O, 1, none⟩) XNE.out.2 _) 0).trans rfl, (blk_cell (blk_far GX.out (p := ⟨O, 1, none⟩) XNE.out.2 _) 1).trans rfl⟩, ⟨blk_far GN.out (p := ⟨O, 1, none⟩) hNO _⟩, ⟨GD.out.set47 G4.out 1 _⟩⟩
          case rest =>
            obtain ⟨C1, g1, rfl, HB3, S1, S2, S4, SX, SN, SD⟩ := hcut
            clear x0 x1 xn o1 o1' QC QB P1 P2 P4 PX PN PD HB2 M1 M2 M4 MN MD MX XNE hXw
            have x0 := SX.out.1
            have x1 := SX.out.2
            have xn := Nums.cell SN.out hjn
            rw [show toAt d.dir n j = (nj : Int) from by unfold toAt; rw [if_pos hjn, if_pos MKJ.out, NJ.out]] at xn
            have o1 : wc.cell? ⟨O, 2, none⟩ = some (.slice B2 t e2) := (blk_cell S4.out 2).trans rfl
            have o1' := fun o => (World.cell?_alloc_lt wc o _ (World.block_lt_of_cell? wc _ o1)).trans o1
            have bd := ((Below.refl wc.heap.size wc).alloc (Nat.le_refl _) (.cells #[.string y.f0, .int .i64 (nj : Nat)] 69)).drew
            have QC := Aside0.mk (C69_one (x := ⟨y.f0, (nj : Nat)⟩) (blk_drew (blk_new wc (.cells #[.string y.f0, .int .i64 (nj : Nat)] 69))))
            have QB := Aside0.mk (below_step HB3.out bd)
            have P1 := Aside0.mk (blk_below S1.out bd)
            have P2 := Aside0.mk (blk_below S2.out bd)
            have P4 := Aside0.mk (blk_below S4.out bd)
            have PN : Aside0 (Nums _ N n (toAt d.dir n)) := ⟨blk_below SN.out bd⟩
            have PD := Aside0.mk (SD.out.below bd).swap
            clear bd S1 S2 S4 SX SN SD
            go_upto_region 20 with fail
            go_region_law (refine Kd.R_append_rows_step k69 (Rr := k69.K _) (w0 := w) w.heap.size (by rfl) (.tmp 77) (.tmp 86) 44 69 (.agg #[.string ⟨#[]⟩, .int .i64 0]) 24 rfl Try.underlying44 info69 rfl (by decide) (by decide) (.slice B2 t e2) ((d.dir.take t).map (ren d.dir)) [⟨y.f0, (nj : Nat)⟩] (some ⟨wc.heap.size, 0, none⟩) 1 1 (fun k => some k ≠ (Value.slice C1 (t + 1) g1).ownBlock) (fun _ => False) rfl rfl PD.out.rows.2.1 QC.out (by intro y cs h; obtain rfl := k69_open h; exact k69_mkM _ _ _ _) (fun k h => h.elim) (fun k hk e => by have := own_lt (R69_own PD.out.rows.2.2.1) k e.symm; omega) QB.out QB.out.size (by have := L1.out; omega) ?_; intro v1 w3 h1 h2 h3 h4; obtain ⟨C2, g2, hv⟩ := Kd.R_slice h1; rw [show ((d.dir.take t).map (ren d.dir) ++ [(⟨y.f0, (nj : Nat)⟩ : S69)]).length = t + 1 by rw [List.length_append, L1.out]; rfl] at hv; subst hv; rw [← TK.out] at h1; have HH2 := Aside0.mk h2; have G1 := Aside0.mk (blk_grown P1.out h3 (Kd.R_ne PD.out.rows.2.1 P1.out (by decide))); have G2 := Aside0.mk (blk_grown P2.out h3 (Kd.R_ne PD.out.rows.2.1 P2.out (by decide))); have G4 := Aside0.mk (blk_grown P4.out h3 (Kd.R_ne PD.out.rows.2.1 P4.out (by decide))); have GN : Aside0 (Nums w3 N n (toAt d.dir n)) := ⟨blk_grown PN.out h3 (Kd.R_ne PD.out.rows.2.1 PN.out (by decide))⟩; have GD := Aside0.mk (PD.out.dir' (v1' := .slice C2 (t + 1) g2) ⟨Kd.R_mono h1 (fun k hk => .inl hk), h3, by rcases h4 with h | ⟨b, h, hb⟩; exact .inl h; exact .inr (.inr ⟨b, h, hb⟩)⟩).swap; have q0 := blk_frozen G4.out 2; have q1 := (blk_cell G4.out 2).trans rfl; clear h1 h2 h3 h4)
            all_goals
              go_wp2
              go_roundg (ld - t - 1)
              case measure => omega
              case rel =>
                exact ⟨t + 1, C1, g1, C2, g2, by first | rfl | (simp; done), hti, by omega, ⟨HH2.out.setCell (p := ⟨O, 2, none⟩) hTO _⟩, ⟨blk_far G1.out (p := ⟨O, 2, none⟩) hDO _⟩, ⟨blk_far G2.out (p := ⟨O, 2, none⟩) hSO _⟩, ⟨blk_put G4.out 2 _ rfl⟩, ⟨blk_far GN.out (p := ⟨O, 2, none⟩) hNO _⟩, ⟨GD.out.set47 G4.out 2 _⟩⟩
        · have DE := Aside0.mk (show DR wr w.heap.size (.agg #[.slice B0 m e0, .slice B1 t e1, .slice B2 t e2, .slice none 0 0]) (Dk.settle d) from by
            have := DS.out
            rw [List.take_of_length_le (by have := HLD.out; omega)] at this
            exact this)
          have z0 := (blk_cell K4.out 0).trans rfl
          have z1 := (blk_cell K4.out 1).trans rfl
          have z2 := (blk_cell K4.out 2).trans rfl
          have z3 := (blk_cell K4.out 3).trans rfl
          have s0 := (blk_cell K2.out 0).trans rfl
          have s1 := (blk_cell K2.out 1).trans rfl
          have s2 := (blk_cell K2.out 2).trans rfl
          have s3 := (blk_cell K2.out 3).trans rfl
          have f0 := blk_frozen K2.out 0
          have f1 := blk_frozen K2.out 1
          have f2 := blk_frozen K2.out 2
          have f3 := blk_frozen K2.out 3
          have q4 := Aside0.mk (put47 K2.out (.slice B0 m e0) (.slice B1 t e1) (.slice B2 t e2) (.slice none 0 0))
          have D4 := Aside0.mk (DE.out.put47 K2.out (.slice B0 m e0) (.slice B1 t e1) (.slice B2 t e2) (.slice none 0 0))
          have B4 := Aside0.mk (below_put47 HB.out hTS (.slice B0 m e0) (.slice B1 t e1) (.slice B2 t e2) (.slice none 0 0))
          clear DS DE HB K1 K4 KN
          go_wp2
          refine bodyPost_ret (results_cell_row rfl _ _ S 47 _ (0, 0) _ rfl q4.out Try.underlying47 rfl (by kernel_rfl)) rfl ?_
          exact ⟨_, rfl, D4.out, B4.out⟩
end Go.Proofs.Ytnaddmkaakdhoaa.J

end
section
namespace Go.Proofs.Ytnaddmkaakdhoaa.Dk
open J
theorem app_stp (d : Dsk) (o : S49) (h2 : ¬ o.f0 = 2) (h3 : ¬ o.f0 = 3) (h6 : ¬ o.f0 = 6) : app d o = if (stp d.dir o (d.ino.length : Nat)).2 = 0 then (⟨if o.f0 = 1 then d.ino ++ [z67] else d.ino, (stp d.dir o (d.ino.length : Nat)).1, d.dur, d.ops ++ [o]⟩, 0) else (E0, (stp d.dir o (d.ino.length : Nat)).2) := by
  unfold app stp dirop
  by_cases hf : fieldsOK o = true
  · have hk : o.f0 = 1 ∨ o.f0 = 4 ∨ o.f0 = 5 := by
      unfold fieldsOK at hf
      by_cases a : o.f0 = 1
      · exact .inl a
      · by_cases b : o.f0 = 4
        · exact .inr (.inl b)
        · by_cases c : o.f0 = 5
          · exact .inr (.inr c)
          · rw [if_neg (by omega), if_neg (by omega), if_neg (by omega), if_neg (by omega)] at hf
            cases hf
    have hd : ((decide (o.f0 = 1) || decide (o.f0 = 4) || decide (o.f0 = 5)) && fieldsOK o) = true := by
      rw [hf]
      rcases hk with h | h | h <;> simp [h]
    rw [if_pos hf, if_neg h6, if_neg (by omega), if_pos hd]
  · have hd : ¬ ((decide (o.f0 = 1) || decide (o.f0 = 4) || decide (o.f0 = 5)) && fieldsOK o) = true := by
      simp [hf]
    rw [if_neg hf, if_neg hd, if_neg (by decide)]
end Go.Proofs.Ytnaddmkaakdhoaa.Dk
namespace Go.Proofs.Ytnaddmkaakdhoaa.J
open Go.RowKit Go.Proofs.YtnaddmkaakdhoaaW.PrintWords Go.Proofs.YtnaddmkaakdhoaaW.PrintLast Go.Proofs.YtnaddmkaakdhoaaW.PrintMore
open Dk (Srt pos has valid app appAll applyAll Valid ent fnd stp)
set_option linter.unusedVariables false
set_option linter.unusedSimpArgs false
theorem R67_put47 {W : World} {T S : Nat} {P : Nat → Prop} {v : Value} {l : List S67} {b0 b1 b2 b3 : Value} (hr : Kd.R k67 67 W T P v l) (h : W.heap[S]? = some (.cells #[b0, b1, b2, b3] 47 (0, 0))) (a0 a1 a2 a3 : Value) : Kd.R k67 67 ((((W.setCell ⟨S, 0, none⟩ a0).setCell ⟨S, 1, none⟩ a1).setCell ⟨S, 2, none⟩ a2).setCell ⟨S, 3, none⟩ a3) T P v l :=
  Kd.R_set (Kd.R_set (Kd.R_set (Kd.R_set hr h (by decide) 0 a0) (blk_put h 0 a0 rfl) (by decide) 1 a1) (blk_put (blk_put h 0 a0 rfl) 1 a1 rfl) (by decide) 2 a2) (blk_put (blk_put (blk_put h 0 a0 rfl) 1 a1 rfl) 2 a2 rfl) (by decide) 3 a3
theorem R69_put47 {W : World} {T S : Nat} {P : Nat → Prop} {v : Value} {l : List S69} {b0 b1 b2 b3 : Value} (hr : Kd.R k69 69 W T P v l) (h : W.heap[S]? = some (.cells #[b0, b1, b2, b3] 47 (0, 0))) (a0 a1 a2 a3 : Value) : Kd.R k69 69 ((((W.setCell ⟨S, 0, none⟩ a0).setCell ⟨S, 1, none⟩ a1).setCell ⟨S, 2, none⟩ a2).setCell ⟨S, 3, none⟩ a3) T P v l :=
  Kd.R_set (Kd.R_set (Kd.R_set (Kd.R_set hr h (by decide) 0 a0) (blk_put h 0 a0 rfl) (by decide) 1 a1) (blk_put (blk_put h 0 a0 rfl) 1 a1 rfl) (by decide) 2 a2) (blk_put (blk_put (blk_put h 0 a0 rfl) 1 a1 rfl) 2 a2 rfl) (by decide) 3 a3
theorem R49_put47 {W : World} {T S : Nat} {P : Nat → Prop} {v : Value} {l : List S49} {b0 b1 b2 b3 : Value} (hr : Kd.R k49 49 W T P v l) (h : W.heap[S]? = some (.cells #[b0, b1, b2, b3] 47 (0, 0))) (a0 a1 a2 a3 : Value) : Kd.R k49 49 ((((W.setCell ⟨S, 0, none⟩ a0).setCell ⟨S, 1, none⟩ a1).setCell ⟨S, 2, none⟩ a2).setCell ⟨S, 3, none⟩ a3) T P v l :=
  Kd.R_set (Kd.R_set (Kd.R_set (Kd.R_set hr h (by decide) 0 a0) (blk_put h 0 a0 rfl) (by decide) 1 a1) (blk_put (blk_put h 0 a0 rfl) 1 a1 rfl) (by decide) 2 a2) (blk_put (blk_put (blk_put h 0 a0 rfl) 1 a1 rfl) 2 a2 rfl) (by decide) 3 a3
theorem DC_ino {w W : World} {T n m : Nat} {P P' : Nat → Prop} {A0 A1 A2 A3 B0 B3 : Option Addr} {c0 c1 c2 c3 e0 e3 : Nat} {d : Dsk} {l' : List S67} {l3 : List S49} (h : DC w (.agg #[.slice A0 d.ino.length c0, .slice A1 d.dir.length c1, .slice A2 d.dur.length c2, .slice A3 d.ops.length c3]) d) (hb : Below w.heap.size w W) (h0 : Kd.R k67 67 W T P (.slice B0 n e0) l') (hn : l'.length = n) (h3 : Kd.R k49 49 W T P' (.slice B3 m e3) l3) (hm : l3.length = m) :
    DC W (.agg #[.slice B0 n e0, .slice A1 d.dir.length c1, .slice A2 d.dur.length c2, .slice B3 m e3]) ⟨l', d.dir, d.dur, l3⟩ := by
  subst hn hm
  obtain ⟨_, _, _, _, _, _, _, _, e, _, h1, h2, _⟩ := h
  injection e with e
  injection e with e
  simp only [List.cons.injEq, Value.slice.injEq] at e
  obtain ⟨_, ⟨rfl, _, rfl⟩, ⟨rfl, _, rfl⟩, _⟩ := e
  exact ⟨B0, e0, A1, c1, A2, c2, B3, e3, rfl, ⟨(Kd.R_reads' h0).2.2, (Kd.R_reads' h0).2.1⟩, ⟨Kd.C_below h1.1 hb, h1.2⟩, ⟨Kd.C_below h2.1 hb, h2.2⟩, ⟨(Kd.R_reads' h3).2.2, (Kd.R_reads' h3).2.1⟩⟩
theorem DC_dir {w W : World} {T n m r : Nat} {P P' Q : Nat → Prop} {A0 A1 A2 A3 B0 B1 B3 : Option Addr} {c0 c1 c2 c3 e0 e1 e3 : Nat} {d : Dsk} {l' : List S67} {l1 : List S69} {l3 : List S49} (h : DC w (.agg #[.slice A0 d.ino.length c0, .slice A1 d.dir.length c1, .slice A2 d.dur.length c2, .slice A3 d.ops.length c3]) d) (hb : Below w.heap.size w W) (h0 : Kd.R k67 67 W T P (.slice B0 n e0) l') (hn : l'.length = n) (h1 : Kd.R k69 69 W T Q (.slice B1 r e1) l1) (hr : l1.length = r) (h3 : Kd.R k49 49 W T P' (.slice B3 m e3) l3) (hm : l3.length = m) :
    DC W (.agg #[.slice B0 n e0, .slice B1 r e1, .slice A2 d.dur.length c2, .slice B3 m e3]) ⟨l', l1, d.dur, l3⟩ := by
  subst hn hm hr
  obtain ⟨_, _, _, _, _, _, _, _, e, _, _, h2, _⟩ := h
  injection e with e
  injection e with e
  simp only [List.cons.injEq, Value.slice.injEq] at e
  obtain ⟨_, _, ⟨rfl, _, rfl⟩, _⟩ := e
  exact ⟨B0, e0, B1, e1, A2, c2, B3, e3, rfl, ⟨(Kd.R_reads' h0).2.2, (Kd.R_reads' h0).2.1⟩, ⟨(Kd.R_reads' h1).2.2, (Kd.R_reads' h1).2.1⟩, ⟨Kd.C_below h2.1 hb, h2.2⟩, ⟨(Kd.R_reads' h3).2.2, (Kd.R_reads' h3).2.1⟩⟩
set_option maxHeartbeats 8000000 in
set_option maxRecDepth 100000 in
theorem apply32_calls (a : Value) (d : Dsk) (o : S49) (w : World) (hd : DC w a d) (hs : Sml 40000 d) (hz : o.f3.size ≤ 140737488355328) :
    Calls Try.prog 32 #[a, .agg #[.int .i64 o.f0, .string o.f1, .string o.f2, .string o.f3]] w fun e w' => ∃ v, e = .returned (.tuple #[v, .int .i64 (applyAll d [o]).2]) ∧ DC w' v (applyAll d [o]).1 ∧ Below w.heap.size w w' := by
  have DD := Aside0.mk hd
  obtain ⟨A0, c0, A1, c1, A2, c2, A3, c3, rfl, ⟨r0, l0⟩, ⟨r1, l1⟩, ⟨r2, l2⟩, ⟨r3, l3⟩⟩ := hd
  have R0 := Aside0.mk r0
  have R1 := Aside0.mk r1
  have R3 := Aside0.mk r3
  have SM := Aside0.mk hs
  obtain ⟨n0, n1, n2, n3⟩ := hs
  obtain ⟨k, nm, tt, dat⟩ := o
  simp only at hz ⊢
  have VC := Aside0.mk (fun w' hd' => validate36_calls (.agg #[.slice A0 d.ino.length c0, .slice A1 d.dir.length c1, .slice A2 d.dur.length c2, .slice A3 d.ops.length c3]) d w' hd' SM.out)
  obtain ⟨oD, hoD⟩ : ∃ o : Obj, o = .cells #[.slice A0 d.ino.length c0, .slice A1 d.dir.length c1, .slice A2 d.dur.length c2, .slice A3 d.ops.length c3] 47 := ⟨_, rfl⟩
  obtain ⟨oO, hoO⟩ : ∃ o : Obj, o = .cells #[.int .i64 k, .string nm, .string tt, .string dat] 49 := ⟨_, rfl⟩
  obtain ⟨oZ, hoZ⟩ : ∃ o : Obj, o = .cells #[.slice none 0 0, .slice none 0 0, .slice none 0 0, .slice none 0 0] 47 := ⟨_, rfl⟩
  obtain ⟨res, hres⟩ : ∃ res, res = applyAll d [⟨k, nm, tt, dat⟩] := ⟨_, rfl⟩
  rw [← hres]
  have RES := Aside0.mk hres
  clear hres r0 r1 r2 r3
  go_enter Try.func32, Try.ntmps32
  go_upto_region 1 with fail
  rw [← hoD, ← hoO, ← hoZ]
  have hB := below_alloc (below_alloc (below_alloc (Below.refl w.heap.size w) oD) oO) oZ
  have k1 := blk_alloc (blk_alloc (blk_new w oD) oO) oZ
  have k2 := blk_alloc (blk_new (w.alloc oD) oO) oZ
  have k3 := blk_new ((w.alloc oD).alloc oO) oZ
  rw [show ((w.alloc oD).alloc oO).heap.size = w.heap.size + 1 + 1 by simp] at k3
  rw [show (w.alloc oD).heap.size = w.heap.size + 1 by simp] at k2
  generalize ((w.alloc oD).alloc oO).alloc oZ = W0 at hB k1 k2 k3 ⊢
  subst hoD hoO hoZ
  obtain ⟨D, hD⟩ : ∃ D, D = w.heap.size := ⟨_, rfl⟩
  obtain ⟨O, hO⟩ : ∃ O, O = w.heap.size + 1 := ⟨_, rfl⟩
  obtain ⟨S, hS⟩ : ∃ S, S = w.heap.size + 1 + 1 := ⟨_, rfl⟩
  rw [← hS] at k3 ⊢
  rw [← hO] at k2 ⊢
  have hTD : w.heap.size ≤ D := by omega
  have hTO : w.heap.size ≤ O := by omega
  have hTS : w.heap.size ≤ S := by omega
  have hDO : D ≠ O := by omega
  have hDS : D ≠ S := by omega
  have hOS : O ≠ S := by omega
  rw [← hD] at k1 ⊢
  have z0 := (blk_cell k1 0).trans rfl
  have z1 := (blk_cell k1 1).trans rfl
  have z2 := (blk_cell k1 2).trans rfl
  have z3 := (blk_cell k1 3).trans rfl
  have HB0 := Aside0.mk hB
  have K1 := Aside0.mk k1
  have K2 := Aside0.mk k2
  have K3 := Aside0.mk k3
  clear hB k1 k2 k3 hD hO hS
  go_wp2_with fail
  refine (VC.out W0 (DD.out.below HB0.out)).mono ?_
  rintro e w1 ⟨rfl, hb1⟩
  have HB1 := Aside0.mk (below_step HB0.out hb1)
  have M1 := Aside0.mk (blk_below K1.out hb1)
  have M2 := Aside0.mk (blk_below K2.out hb1)
  have M3 := Aside0.mk (blk_below K3.out hb1)
  clear hb1 VC HB0 K1 K2 K3 z0 z1 z2 z3
  have f0 := blk_frozen M3.out 0
  have f1 := blk_frozen M3.out 1
  have f2 := blk_frozen M3.out 2
  have f3 := blk_frozen M3.out 3
  have s0 := (blk_cell M3.out 0).trans rfl
  have s1 := (blk_cell M3.out 1).trans rfl
  have s2 := (blk_cell M3.out 2).trans rfl
  have s3 := (blk_cell M3.out 3).trans rfl
  by_cases hv : valid d = true
  · rw [if_pos hv]
    have VD := Aside0.mk (Dk.valid_of.1 hv)
    have RA := Aside0.mk (show res = app d ⟨k, nm, tt, dat⟩ ∨ (app d ⟨k, nm, tt, dat⟩).2 ≠ 0 ∧ res = (Dk.E0, (app d ⟨k, nm, tt, dat⟩).2) from by
      rw [RES.out]
      unfold Dk.applyAll
      rw [if_pos hv]
      simp only [Dk.appAll]
      by_cases h : (app d ⟨k, nm, tt, dat⟩).2 = 0
      · rw [if_pos h]; left; rw [← h]
      · rw [if_neg h]; right; exact ⟨h, rfl⟩)
    have z0 := (blk_cell M1.out 0).trans rfl
    have z1 := (blk_cell M1.out 1).trans rfl
    have z2 := (blk_cell M1.out 2).trans rfl
    have z3 := (blk_cell M1.out 3).trans rfl
    have CC := Aside0.mk (copied56_calls A0 c0 A1 c1 A2 c2 A3 c3 d w1 (Kd.C_below R0.out HB1.out) l0 (Kd.C_below R3.out HB1.out) l3 ⟨by omega, by omega, by omega, by omega⟩)
    have g0 := blk_frozen M1.out 0
    clear RES f0 f1 f2 f3 s0 s1 s2 s3 g0
    go_upto_region 4 with fail
    go_wp2_with fail
    refine CC.out.mono ?_
    rintro e w2 ⟨B0, e0, B3, e3, rfl, h1, h2, h3⟩
    have HB2 := Aside0.mk (below_step HB1.out h3)
    have P1 := Aside0.mk (blk_below M1.out h3)
    have P2 := Aside0.mk (blk_below M2.out h3)
    have P3 := Aside0.mk (blk_below M3.out h3)
    have Q0 := Aside0.mk (Kd.R_lower h1 HB1.out.size)
    have Q3 := Aside0.mk (Kd.R_lower h2 HB1.out.size)
    clear h1 h2 h3 CC HB1 M1 M2 M3 z0 z1 z2 z3
    have f0 := blk_frozen P1.out 0
    have f1 := blk_frozen P1.out 1
    have f2 := blk_frozen P1.out 2
    have f3 := blk_frozen P1.out 3
    have z0 := (blk_cell P1.out 0).trans rfl
    have z1 := (blk_cell P1.out 1).trans rfl
    have z2 := (blk_cell P1.out 2).trans rfl
    have z3 := (blk_cell P1.out 3).trans rfl
    have o0 := (blk_cell P2.out 0).trans rfl
    go_upto_region 5 with fail
    have HB3 := Aside0.mk (below_put47 HB2.out hTD (.slice B0 d.ino.length e0) (.slice A1 d.dir.length c1) (.slice A2 d.dur.length c2) (.slice B3 d.ops.length e3))
    have L1 := Aside0.mk (put47 P1.out (.slice B0 d.ino.length e0) (.slice A1 d.dir.length c1) (.slice A2 d.dur.length c2) (.slice B3 d.ops.length e3))
    have far4 : ∀ {g t : Nat} {cs : Array Value}, w2.heap[g]? = some (.cells cs t (0, 0)) → g ≠ D → ((((w2.setCell ⟨D, 0, none⟩ (.slice B0 d.ino.length e0)).setCell ⟨D, 1, none⟩ (.slice A1 d.dir.length c1)).setCell ⟨D, 2, none⟩ (.slice A2 d.dur.length c2)).setCell ⟨D, 3, none⟩ (.slice B3 d.ops.length e3)).heap[g]? = some (.cells cs t (0, 0)) := fun h hne =>
      blk_far (blk_far (blk_far (blk_far h (p := ⟨D, 0, none⟩) hne _) (p := ⟨D, 1, none⟩) hne _) (p := ⟨D, 2, none⟩) hne _) (p := ⟨D, 3, none⟩) hne _
    have L2 := Aside0.mk (far4 P2.out (Ne.symm hDO))
    have L3 := Aside0.mk (far4 P3.out (Ne.symm hDS))
    have q1 := blk_put P1.out 0 (.slice B0 d.ino.length e0) rfl
    have q2 := blk_put q1 1 (.slice A1 d.dir.length c1) rfl
    have q3 := blk_put q2 2 (.slice A2 d.dur.length c2) rfl
    have T0 := Aside0.mk (Kd.R_set (Kd.R_set (Kd.R_set (Kd.R_set Q0.out P1.out (by decide) 0 (.slice B0 d.ino.length e0)) q1 (by decide) 1 (.slice A1 d.dir.length c1)) q2 (by decide) 2 (.slice A2 d.dur.length c2)) q3 (by decide) 3 (.slice B3 d.ops.length e3))
    have T3 := Aside0.mk (Kd.R_set (Kd.R_set (Kd.R_set (Kd.R_set Q3.out P1.out (by decide) 0 (.slice B0 d.ino.length e0)) q1 (by decide) 1 (.slice A1 d.dir.length c1)) q2 (by decide) 2 (.slice A2 d.dur.length c2)) q3 (by decide) 3 (.slice B3 d.ops.length e3))
    generalize (((w2.setCell ⟨D, 0, none⟩ (.slice B0 d.ino.length e0)).setCell ⟨D, 1, none⟩ (.slice A1 d.dir.length c1)).setCell ⟨D, 2, none⟩ (.slice A2 d.dur.length c2)).setCell ⟨D, 3, none⟩ (.slice B3 d.ops.length e3) = W3 at HB3 L1 far4 L2 L3 T0 T3 ⊢
    clear far4 q1 q2 q3 HB2 P1 P2 P3 Q0 Q3 f0 f1 f2 f3 z0 z1 z2 z3 o0
    have o0 : W3.cell? ⟨O, 0, none⟩ = some (.int .i64 k) := (blk_cell L2.out 0).trans rfl
    have o1 : W3.cell? ⟨O, 1, none⟩ = some (.string nm) := (blk_cell L2.out 1).trans rfl
    have o2 : W3.cell? ⟨O, 2, none⟩ = some (.string tt) := (blk_cell L2.out 2).trans rfl
    have o3 : W3.cell? ⟨O, 3, none⟩ = some (.string dat) := (blk_cell L2.out 3).trans rfl
    have s0 := (blk_cell L3.out 0).trans rfl
    have s1 := (blk_cell L3.out 1).trans rfl
    have s2 := (blk_cell L3.out 2).trans rfl
    have s3 := (blk_cell L3.out 3).trans rfl
    have f0 := blk_frozen L3.out 0
    have f1 := blk_frozen L3.out 1
    have f2 := blk_frozen L3.out 2
    have f3 := blk_frozen L3.out 3
    by_cases hk23 : k = 2 ∨ k = 3
    · have FC := Aside0.mk (fun w' hC => find57_calls A1 c1 d.dir nm VD.out.dir.2.1 w' hC l1)
      obtain ⟨fr, hfr⟩ : ∃ fr, fr = fnd d.dir nm := ⟨_, rfl⟩
      rw [← hfr] at FC
      have HN : k = 2 → tt.toList = [] → Dk.fieldsOK ⟨k, nm, tt, dat⟩ = true := fun h1 h2 => by simp [Dk.fieldsOK, Dk.em, h1, h2]
      have HN3 : k = 3 → tt.toList = [] → dat.toList = [] → Dk.fieldsOK ⟨k, nm, tt, dat⟩ = true := fun h1 h2 h3 => by simp [Dk.fieldsOK, Dk.em, h1, h2, h3]
      have BAD := Aside0.mk (show (¬ tt.toList = [] ∨ k = 3 ∧ ¬ dat.toList = []) → res = (Dk.E0, 1) from fun h => by
        have hf : Dk.fieldsOK ⟨k, nm, tt, dat⟩ = false := by
          refine Bool.eq_false_iff.2 fun h2 => ?_
          rcases hk23 with rfl | rfl
          · simp [Dk.fieldsOK, Dk.em] at h2
            rcases h with h | ⟨h, _⟩
            · exact h h2
            · omega
          · simp [Dk.fieldsOK, Dk.em] at h2
            rcases h with h | ⟨_, h⟩
            · exact h h2.1
            · exact h h2.2
        have ha : app d ⟨k, nm, tt, dat⟩ = (Dk.E0, 1) := by unfold Dk.app; rw [hf]; rfl
        rcases RA.out with h | ⟨_, h⟩
        · rw [h, ha]
        · rw [h, ha])
      have FK := Aside0.mk (show tt.toList = [] → (k = 2 ∨ dat.toList = []) → Dk.fieldsOK ⟨k, nm, tt, dat⟩ = true from fun h1 h2 => by
        rcases hk23 with rfl | rfl
        · exact HN rfl h1
        · rcases h2 with h2 | h2
          · omega
          · exact HN3 rfl h1 h2)
      clear HN HN3
      have z1 := (blk_cell L1.out 1).trans rfl
      by_cases hh : has d.dir nm = true
      · obtain ⟨j, hj, hjn, hje⟩ : ∃ j : Nat, fr = (j : Int) ∧ j < d.ino.length ∧ ent d nm = j := by
          obtain ⟨y, hy, e1, e2⟩ := Dk.pos_mem VD.out.dir.2.1 hh
          have hb := (VD.out.dir.1 y hy).2
          refine ⟨y.f1.toNat, ?_, by omega, ?_⟩
          · rw [hfr]; unfold fnd; rw [if_pos hh, e2]; omega
          · unfold Dk.ent; rw [e2]
        subst hj
        have EJ := Aside0.mk hje
        have q0 := T0.out
        obtain ⟨g0, cur, ea, hg⟩ := R67_block q0 (by omega)
        subst ea
        obtain ⟨x, hx⟩ : ∃ x, x = d.ino[j] := ⟨_, rfl⟩
        have hxs : x.f0.size ≤ 1048576 := (VD.out.ino x (hx ▸ List.getElem_mem hjn)).2.2
        have X := Aside0.mk (show d.ino.getD j z67 = x from by rw [getD67 hjn, hx])
        have XI := Aside0.mk hx
        have HH := Aside0.mk hg
        have hj0 : (0 : Int) ≤ (j : Int) := by omega
        have hj1 : (j : Int) < (d.ino.length : Int) := by omega
        have hjm : (((j : Nat) : Int) == -1) = false := beq_eq_false_iff_ne.2 (by omega)
        have hgD : g0 ≠ D := blk_ne hg L1.out (by decide)
        have hgO : g0 ≠ O := blk_ne hg L2.out (by decide)
        have hgS : g0 ≠ S := blk_ne hg L3.out (by decide)
        have hTg : w.heap.size ≤ g0 := own_base (R67_own q0) g0 rfl
        have HAS := Aside0.mk hh
        have tail : ∀ w2, Below W3.heap.size W3 w2 → _ ∧ _ ∧ _ ∧ _ ∧ _ ∧ _ ∧ w2.cell? ⟨g0, j * 2, none⟩ = some (.string x.f0) ∧ w2.cell? ⟨g0, j * 2 + 1, none⟩ = some (.int .i64 x.f1) := fun w2 hb2 => ⟨blk_below L1.out hb2, blk_below L2.out hb2, blk_below L3.out hb2, Kd.R_below T0.out hb2, blk_below HH.out hb2, Kd.R_below T3.out hb2, by rw [hx]; exact (R67_cells (Kd.R_below T0.out hb2) j hjn).1, by rw [hx]; exact (R67_cells (Kd.R_below T0.out hb2) j hjn).2⟩
        have TL := Aside0.mk tail
        clear tail hh hfr q0 hg hx hje
        have E21 := Aside0.mk (show tt.toList = [] → k = 2 → 1048576 < x.f0.size + dat.size → res = (Dk.E0, 21) from fun h1 h2 h3 => by
          have ha : app d ⟨k, nm, tt, dat⟩ = (Dk.E0, 21) := by
            have := FK.out h1 (.inl h2)
            subst h2
            simp only [Dk.app, EJ.out, X.out]
            rw [this]
            simp [HAS.out, h3]
          rcases RA.out with h | ⟨_, h⟩
          · rw [h, ha]
          · rw [h, ha])
        have E2 := Aside0.mk (show tt.toList = [] → k = 2 → ¬ 1048576 < x.f0.size + dat.size → res = (⟨d.ino.set j ⟨x.f0 ++ dat, x.f1⟩, d.dir, d.dur, d.ops⟩, 0) from fun h1 h2 h3 => by
          have ha : app d ⟨k, nm, tt, dat⟩ = (⟨d.ino.set j ⟨x.f0 ++ dat, x.f1⟩, d.dir, d.dur, d.ops⟩, 0) := by
            have := FK.out h1 (.inl h2)
            subst h2
            simp only [Dk.app, EJ.out, X.out]
            rw [this]
            simp [HAS.out, h3]
          rcases RA.out with h | ⟨h, _⟩
          · rw [h, ha]
          · rw [ha] at h; exact absurd rfl h)
        have E3 := Aside0.mk (show tt.toList = [] → k = 3 → dat.toList = [] → res = (⟨d.ino.set j ⟨x.f0, (x.f0.size : Nat)⟩, d.dir, d.dur, d.ops⟩, 0) from fun h1 h2 h3 => by
          have ha : app d ⟨k, nm, tt, dat⟩ = (⟨d.ino.set j ⟨x.f0, (x.f0.size : Nat)⟩, d.dir, d.dur, d.ops⟩, 0) := by
            have := FK.out h1 (.inr h3)
            subst h2
            simp only [Dk.app, EJ.out, X.out]
            rw [this]
            simp [HAS.out]
          rcases RA.out with h | ⟨h, _⟩
          · rw [h, ha]
          · rw [ha] at h; exact absurd rfl h)
        clear RA FK
        rcases hk23 with rfl | rfl
        · clear E3
          go_wp2_with fail
          all_goals first
            | (have hb := BAD.out (by simp_all)
               subst hb
               refine bodyPost_ret (results_ct rfl _ _ S 47 _ (0, 0) _ rfl (put47 L3.out _ _ _ _) Try.underlying47 rfl (by kernel_rfl)) rfl ?_
               exact ⟨_, rfl, (DR.zero _ 0).reads, below_put47 HB3.out hTS _ _ _ _⟩)
            | skip
          have ht : tt.toList = [] := by simp_all
          replace E21 := Aside0.mk (E21.out ht (by trivial))
          replace E2 := Aside0.mk (E2.out ht (by trivial))
          refine (FC.out _ (Kd.C_below R1.out HB3.out)).mono ?_
          rintro e w5 ⟨rfl, hbw⟩
          clear L1 L2 L3 T0 T3 o0 o1 o2 o3 s0 s1 s2 s3 f0 f1 f2 f3 z1 BAD FC HH ht
          obtain ⟨hK, hO, hS, q0, hh', t3, x0, x1⟩ := TL.out w5 hbw
          have d0 : (w5).cell? ⟨D, 0, none⟩ = some (.slice (some ⟨g0, 0, none⟩) d.ino.length e0) := (blk_cell hK 0).trans rfl
          have o0 := (blk_cell hO 0).trans rfl
          have o3 := (blk_cell hO 3).trans rfl
          have g0f := blk_frozen hh' (j * 2)
          have g1f := blk_frozen hh' (j * 2 + 1)
          have K2 := Aside0.mk hK
          have O2 := Aside0.mk hO
          have S2 := Aside0.mk hS
          have Q2 := Aside0.mk q0
          have G2 := Aside0.mk hh'
          have T2 := Aside0.mk t3
          have HBW := Aside0.mk hbw
          clear hK hO hS q0 hh' t3 hbw
          by_cases hbig : 1048576 < x.f0.size + dat.size
          · have hbi : (1048576 : Int) < (x.f0.size : Int) + (dat.size : Int) := by omega
            go_wp2_with fail
            go_quiet (fail)
            have hbw := below_step HBW.out (pw_below_drewN (Below.refl w5.heap.size w5) nq)
            generalize w5.drewN nq = W4 at hbw ⊢
            clear HBW d0 o0 o3 g0f g1f K2 O2 S2 Q2 G2 T2 x0 x1
            obtain ⟨hK, hO, hS, q0, hh', t3, x0, x1⟩ := TL.out W4 hbw
            have d0 : (W4).cell? ⟨D, 0, none⟩ = some (.slice (some ⟨g0, 0, none⟩) d.ino.length e0) := (blk_cell hK 0).trans rfl
            have o0 := (blk_cell hO 0).trans rfl
            have o3 := (blk_cell hO 3).trans rfl
            have g0f := blk_frozen hh' (j * 2)
            have g1f := blk_frozen hh' (j * 2 + 1)
            have K2 := Aside0.mk hK
            have O2 := Aside0.mk hO
            have S2 := Aside0.mk hS
            have Q2 := Aside0.mk q0
            have G2 := Aside0.mk hh'
            have T2 := Aside0.mk t3
            have HBW := Aside0.mk hbw
            clear hK hO hS q0 hh' t3 hbw
            clear d0 o0 o3 g0f g1f x0 x1
            have E := E21.out hbig
            subst E
            have f0 := blk_frozen S2.out 0
            have f1 := blk_frozen S2.out 1
            have f2 := blk_frozen S2.out 2
            have f3 := blk_frozen S2.out 3
            have s0 := (blk_cell S2.out 0).trans rfl
            have s1 := (blk_cell S2.out 1).trans rfl
            have s2 := (blk_cell S2.out 2).trans rfl
            have s3 := (blk_cell S2.out 3).trans rfl
            go_wp2
            refine bodyPost_ret (results_ct rfl _ _ S 47 _ (0, 0) _ rfl (put47 S2.out _ _ _ _) Try.underlying47 rfl (by kernel_rfl)) rfl ?_
            exact ⟨_, rfl, (DR.zero _ 0).reads, below_put47 (below_step HB3.out HBW.out) hTS _ _ _ _⟩
          · have hbi : ¬ (1048576 : Int) < (x.f0.size : Int) + (dat.size : Int) := by omega
            go_wp2_with fail
            go_quiet (fail)
            have hbw := below_step HBW.out (pw_below_drewN (Below.refl w5.heap.size w5) nq)
            generalize w5.drewN nq = W4 at hbw ⊢
            clear HBW d0 o0 o3 g0f g1f K2 O2 S2 Q2 G2 T2 x0 x1
            obtain ⟨hK, hO, hS, q0, hh', t3, x0, x1⟩ := TL.out W4 hbw
            have d0 : (W4).cell? ⟨D, 0, none⟩ = some (.slice (some ⟨g0, 0, none⟩) d.ino.length e0) := (blk_cell hK 0).trans rfl
            have o0 := (blk_cell hO 0).trans rfl
            have o3 := (blk_cell hO 3).trans rfl
            have g0f := blk_frozen hh' (j * 2)
            have g1f := blk_frozen hh' (j * 2 + 1)
            have K2 := Aside0.mk hK
            have O2 := Aside0.mk hO
            have S2 := Aside0.mk hS
            have Q2 := Aside0.mk q0
            have G2 := Aside0.mk hh'
            have T2 := Aside0.mk t3
            have HBW := Aside0.mk hbw
            clear hK hO hS q0 hh' t3 hbw
            have E := E2.out hbig
            subst E
            go_upto_region 16 with fail
            have hz1 : x.f0.size + dat.size ≤ 9223372036854775807 := by omega
            have hadd := fun (w : World) => run_string_add_sum (P := Try.prog) w x.f0 dat hz1
            go_still_tail 9, (by kernel_rfl)
            change wpList _ _ _ _ _ W4.drew
            have hbw := below_step HBW.out (below_drew (Below.refl W4.heap.size W4))
            generalize W4.drew = W5 at hbw ⊢
            clear HBW d0 o0 o3 g0f g1f K2 O2 S2 Q2 G2 T2 x0 x1
            obtain ⟨hK, hO, hS, q0, hh', t3, x0, x1⟩ := TL.out W5 hbw
            have d0 : (W5).cell? ⟨D, 0, none⟩ = some (.slice (some ⟨g0, 0, none⟩) d.ino.length e0) := (blk_cell hK 0).trans rfl
            have o0 := (blk_cell hO 0).trans rfl
            have o3 := (blk_cell hO 3).trans rfl
            have g0f := blk_frozen hh' (j * 2)
            have g1f := blk_frozen hh' (j * 2 + 1)
            have K2 := Aside0.mk hK
            have O2 := Aside0.mk hO
            have S2 := Aside0.mk hS
            have Q2 := Aside0.mk q0
            have G2 := Aside0.mk hh'
            have T2 := Aside0.mk t3
            have HBW := Aside0.mk hbw
            clear hK hO hS q0 hh' t3 hbw
            go_upto_region 17 with fail
            have K3 := Aside0.mk (blk_far K2.out (p := ⟨g0, j * 2, none⟩) (Ne.symm hgD) (.string (x.f0 ++ dat)))
            have O3 := Aside0.mk (blk_far O2.out (p := ⟨g0, j * 2, none⟩) (Ne.symm hgO) (.string (x.f0 ++ dat)))
            have HS3 := Aside0.mk (blk_far S2.out (p := ⟨g0, j * 2, none⟩) (Ne.symm hgS) (.string (x.f0 ++ dat)))
            have B3w := Aside0.mk ((below_step HB3.out HBW.out).setCell (p := ⟨g0, j * 2, none⟩) hTg (.string (x.f0 ++ dat)))
            have Q3 := Aside0.mk (R67_put Q2.out rfl (show (d.ino.set j ⟨x.f0 ++ dat, x.f1⟩).length = d.ino.length by simp) (j * 2) (.string (x.f0 ++ dat)) (by rw [cs67_set0 d.ino j _ hjn, ← XI.out]))
            have T3' := Aside0.mk (Kd.R_set T2.out G2.out (by decide) (j * 2) (.string (x.f0 ++ dat)))
            generalize W5.setCell ⟨g0, j * 2, none⟩ (.string (x.f0 ++ dat)) = W6 at K3 O3 HS3 B3w Q3 T3' ⊢
            clear d0 o0 o3 x0 x1 g0f g1f TL HBW
            have d0 := (blk_cell K3.out 0).trans rfl
            have o0 := (blk_cell O3.out 0).trans rfl
            have d1 := (blk_cell K3.out 1).trans rfl
            have d2 := (blk_cell K3.out 2).trans rfl
            have d3 := (blk_cell K3.out 3).trans rfl
            have s0 := (blk_cell HS3.out 0).trans rfl
            have s1 := (blk_cell HS3.out 1).trans rfl
            have s2 := (blk_cell HS3.out 2).trans rfl
            have s3 := (blk_cell HS3.out 3).trans rfl
            have f0 := blk_frozen HS3.out 0
            have f1 := blk_frozen HS3.out 1
            have f2 := blk_frozen HS3.out 2
            have f3 := blk_frozen HS3.out 3
            go_wp2
            refine bodyPost_ret (results_ct rfl _ _ S 47 _ (0, 0) _ rfl (put47 HS3.out _ _ _ _) Try.underlying47 rfl (by kernel_rfl)) rfl ?_
            exact ⟨_, rfl, DC_ino DD.out (below_put47 B3w.out hTS _ _ _ _) (R67_put47 Q3.out HS3.out _ _ _ _) (by simp) (R49_put47 T3'.out HS3.out _ _ _ _) rfl, below_put47 B3w.out hTS _ _ _ _⟩
        · clear E2 E21
          go_wp2_with fail
          all_goals first
            | (have hb := BAD.out (by simp_all)
               subst hb
               refine bodyPost_ret (results_ct rfl _ _ S 47 _ (0, 0) _ rfl (put47 L3.out _ _ _ _) Try.underlying47 rfl (by kernel_rfl)) rfl ?_
               exact ⟨_, rfl, (DR.zero _ 0).reads, below_put47 HB3.out hTS _ _ _ _⟩)
            | skip
          have ht : tt.toList = [] := by simp_all
          have hdt : dat.toList = [] := by simp_all
          replace E3 := Aside0.mk (E3.out ht (by trivial) hdt)
          have hdz : dat = ⟨#[]⟩ := Dk.nk_inj (by show dat.data.toList = []; rw [← ByteArray.toList_eq]; exact hdt)
          subst hdz
          have hdy : x.f0 ++ (⟨#[]⟩ : ByteArray) = x.f0 := ByteArray.append_empty
          have hdz : (⟨#[]⟩ : ByteArray).size = 0 := rfl
          clear hdt
          have hbi : ¬ (1048576 : Int) < (x.f0.size : Int) + ((⟨#[]⟩ : ByteArray).size : Int) := by omega
          refine (FC.out _ (Kd.C_below R1.out HB3.out)).mono ?_
          rintro e w5 ⟨rfl, hbw⟩
          clear L1 L2 L3 T0 T3 o0 o1 o2 o3 s0 s1 s2 s3 f0 f1 f2 f3 z1 BAD FC HH ht
          obtain ⟨hK, hO, hS, q0, hh', t3, x0, x1⟩ := TL.out w5 hbw
          have d0 : (w5).cell? ⟨D, 0, none⟩ = some (.slice (some ⟨g0, 0, none⟩) d.ino.length e0) := (blk_cell hK 0).trans rfl
          have o0 := (blk_cell hO 0).trans rfl
          have o3 := (blk_cell hO 3).trans rfl
          have g0f := blk_frozen hh' (j * 2)
          have g1f := blk_frozen hh' (j * 2 + 1)
          have K2 := Aside0.mk hK
          have O2 := Aside0.mk hO
          have S2 := Aside0.mk hS
          have Q2 := Aside0.mk q0
          have G2 := Aside0.mk hh'
          have T2 := Aside0.mk t3
          have HBW := Aside0.mk hbw
          clear hK hO hS q0 hh' t3 hbw
          go_wp2_with fail
          go_quiet (fail)
          have hbw := below_step HBW.out (pw_below_drewN (Below.refl w5.heap.size w5) nq)
          generalize w5.drewN nq = W4 at hbw ⊢
          clear HBW d0 o0 o3 g0f g1f K2 O2 S2 Q2 G2 T2 x0 x1
          obtain ⟨hK, hO, hS, q0, hh', t3, x0, x1⟩ := TL.out W4 hbw
          have d0 : (W4).cell? ⟨D, 0, none⟩ = some (.slice (some ⟨g0, 0, none⟩) d.ino.length e0) := (blk_cell hK 0).trans rfl
          have o0 := (blk_cell hO 0).trans rfl
          have o3 := (blk_cell hO 3).trans rfl
          have g0f := blk_frozen hh' (j * 2)
          have g1f := blk_frozen hh' (j * 2 + 1)
          have K2 := Aside0.mk hK
          have O2 := Aside0.mk hO
          have S2 := Aside0.mk hS
          have Q2 := Aside0.mk q0
          have G2 := Aside0.mk hh'
          have T2 := Aside0.mk t3
          have HBW := Aside0.mk hbw
          clear hK hO hS q0 hh' t3 hbw
          have E := E3.out
          subst E
          go_upto_region 16 with fail
          have hz1 : x.f0.size + (⟨#[]⟩ : ByteArray).size ≤ 9223372036854775807 := by omega
          have hadd := fun (w : World) => run_string_add_sum (P := Try.prog) w x.f0 (⟨#[]⟩ : ByteArray) hz1
          go_still_tail 9, (by kernel_rfl)
          change wpList _ _ _ _ _ W4.drew
          have hbw := below_step HBW.out (below_drew (Below.refl W4.heap.size W4))
          generalize W4.drew = W5 at hbw ⊢
          clear HBW d0 o0 o3 g0f g1f K2 O2 S2 Q2 G2 T2 x0 x1
          obtain ⟨hK, hO, hS, q0, hh', t3, x0, x1⟩ := TL.out W5 hbw
          have d0 : (W5).cell? ⟨D, 0, none⟩ = some (.slice (some ⟨g0, 0, none⟩) d.ino.length e0) := (blk_cell hK 0).trans rfl
          have o0 := (blk_cell hO 0).trans rfl
          have o3 := (blk_cell hO 3).trans rfl
          have g0f := blk_frozen hh' (j * 2)
          have g1f := blk_frozen hh' (j * 2 + 1)
          have K2 := Aside0.mk hK
          have O2 := Aside0.mk hO
          have S2 := Aside0.mk hS
          have Q2 := Aside0.mk q0
          have G2 := Aside0.mk hh'
          have T2 := Aside0.mk t3
          have HBW := Aside0.mk hbw
          clear hK hO hS q0 hh' t3 hbw
          go_upto_region 17 with fail
          have hset : d.ino.set j ⟨x.f0, x.f1⟩ = d.ino := by
            have := XI.out
            exact List.ext_getElem (by simp) (fun i h1 h2 => by
              by_cases h : j = i
              · subst h; rw [List.getElem_set_self, ← this]
              · rw [List.getElem_set_ne h])
          have K3 := Aside0.mk (blk_far K2.out (p := ⟨g0, j * 2, none⟩) (Ne.symm hgD) (.string x.f0))
          have O3 := Aside0.mk (blk_far O2.out (p := ⟨g0, j * 2, none⟩) (Ne.symm hgO) (.string x.f0))
          have HS3 := Aside0.mk (blk_far S2.out (p := ⟨g0, j * 2, none⟩) (Ne.symm hgS) (.string x.f0))
          have B3w := Aside0.mk ((below_step HB3.out HBW.out).setCell (p := ⟨g0, j * 2, none⟩) hTg (.string x.f0))
          have Q3 := Aside0.mk (R67_put (l' := d.ino) Q2.out rfl rfl (j * 2) (.string x.f0) (by rw [cs67_set0 d.ino j _ hjn, ← XI.out, hset]))
          have T3' := Aside0.mk (Kd.R_set T2.out G2.out (by decide) (j * 2) (.string x.f0))
          have G3 := Aside0.mk (blk_put G2.out (j * 2) (.string x.f0) rfl)
          generalize W5.setCell ⟨g0, j * 2, none⟩ (.string x.f0) = W6 at K3 O3 HS3 B3w Q3 T3' G3 ⊢
          clear d0 o0 o3 x0 x1 g0f g1f TL HBW hset
          have o0 := (blk_cell O3.out 0).trans rfl
          obtain ⟨x0, x1⟩ := R67_cells Q3.out j hjn
          rw [← XI.out] at x0 x1
          have g1f := blk_frozen G3.out (j * 2 + 1)
          go_upto_region 19 with fail
          clear o0 x0 x1 g1f
          have K7 := Aside0.mk (blk_far K3.out (p := ⟨g0, j * 2 + 1, none⟩) (Ne.symm hgD) (.int .i64 (x.f0.size : Nat)))
          have HS7 := Aside0.mk (blk_far HS3.out (p := ⟨g0, j * 2 + 1, none⟩) (Ne.symm hgS) (.int .i64 (x.f0.size : Nat)))
          have B7w := Aside0.mk (B3w.out.setCell (p := ⟨g0, j * 2 + 1, none⟩) hTg (.int .i64 (x.f0.size : Nat)))
          have Q7 := Aside0.mk (R67_put Q3.out rfl (show (d.ino.set j ⟨x.f0, (x.f0.size : Nat)⟩).length = d.ino.length by simp) (j * 2 + 1) (.int .i64 (x.f0.size : Nat)) (by rw [cs67_set1 d.ino j _ hjn, ← XI.out]))
          have T7' := Aside0.mk (Kd.R_set T3'.out G3.out (by decide) (j * 2 + 1) (.int .i64 (x.f0.size : Nat)))
          generalize W6.setCell ⟨g0, j * 2 + 1, none⟩ (.int .i64 (x.f0.size : Nat)) = W7 at K7 HS7 B7w Q7 T7' ⊢
          have d0 := (blk_cell K7.out 0).trans rfl
          have d1 := (blk_cell K7.out 1).trans rfl
          have d2 := (blk_cell K7.out 2).trans rfl
          have d3 := (blk_cell K7.out 3).trans rfl
          have s0 := (blk_cell HS7.out 0).trans rfl
          have s1 := (blk_cell HS7.out 1).trans rfl
          have s2 := (blk_cell HS7.out 2).trans rfl
          have s3 := (blk_cell HS7.out 3).trans rfl
          have f0 := blk_frozen HS7.out 0
          have f1 := blk_frozen HS7.out 1
          have f2 := blk_frozen HS7.out 2
          have f3 := blk_frozen HS7.out 3
          go_wp2
          refine bodyPost_ret (results_ct rfl _ _ S 47 _ (0, 0) _ rfl (put47 HS7.out _ _ _ _) Try.underlying47 rfl (by kernel_rfl)) rfl ?_
          exact ⟨_, rfl, DC_ino DD.out (below_put47 B7w.out hTS _ _ _ _) (R67_put47 Q7.out HS7.out _ _ _ _) (by simp) (R49_put47 T7'.out HS7.out _ _ _ _) rfl, below_put47 B7w.out hTS _ _ _ _⟩
      · have h1 : fr = -1 := by rw [hfr]; unfold fnd; rw [if_neg hh]
        subst h1
        have E := Aside0.mk (show tt.toList = [] → (k = 2 ∨ dat.toList = []) → res = (Dk.E0, 11) from fun h1 h2 => by
          have ha : app d ⟨k, nm, tt, dat⟩ = (Dk.E0, 11) := by
            unfold Dk.app
            rw [if_pos (FK.out h1 h2)]
            simp only
            rw [if_neg (by omega), if_pos hk23, if_neg hh]
          rcases RA.out with h | ⟨_, h⟩
          · rw [h, ha]
          · rw [h, ha])
        clear hfr FK RA
        rcases hk23 with rfl | rfl
        all_goals go_wp2_with fail
        all_goals first
          | (have hb := BAD.out (by simp_all)
             subst hb
             refine bodyPost_ret (results_ct rfl _ _ S 47 _ (0, 0) _ rfl (put47 L3.out _ _ _ _) Try.underlying47 rfl (by kernel_rfl)) rfl ?_
             exact ⟨_, rfl, (DR.zero _ 0).reads, below_put47 HB3.out hTS _ _ _ _⟩)
          | (have hg := E.out (by simp_all) (by simp_all)
             subst hg
             refine (FC.out _ (Kd.C_below R1.out HB3.out)).mono ?_
             rintro e w5 ⟨rfl, h2⟩
             have HB5 := Aside0.mk (below_step HB3.out h2)
             have N3 := Aside0.mk (blk_below L3.out h2)
             clear h2 E BAD FC HB3 L1 L2 L3 T0 T3 o0 o1 o2 o3 s0 s1 s2 s3 f0 f1 f2 f3 z1
             have f0 := blk_frozen N3.out 0
             have f1 := blk_frozen N3.out 1
             have f2 := blk_frozen N3.out 2
             have f3 := blk_frozen N3.out 3
             have s0 := (blk_cell N3.out 0).trans rfl
             have s1 := (blk_cell N3.out 1).trans rfl
             have s2 := (blk_cell N3.out 2).trans rfl
             have s3 := (blk_cell N3.out 3).trans rfl
             go_wp2
             refine bodyPost_ret (results_ct rfl _ _ S 47 _ (0, 0) _ rfl (put47 N3.out _ _ _ _) Try.underlying47 rfl (by kernel_rfl)) rfl ?_
             exact ⟨_, rfl, (DR.zero _ 0).reads, below_put47 HB5.out hTS _ _ _ _⟩)
    · by_cases hk6 : k = 6
      · subst hk6
        clear hk23
        have z0 := (blk_cell L1.out 0).trans rfl
        have z1 := (blk_cell L1.out 1).trans rfl
        have z2 := (blk_cell L1.out 2).trans rfl
        have z3 := (blk_cell L1.out 3).trans rfl
        have SC := Aside0.mk (settle58_calls B0 e0 A1 c1 A2 c2 B3 e3 d W3 (Kd.R_reads' T0.out).2.2 (Kd.R_reads' T0.out).2.1 (Kd.C_below R1.out HB3.out) l1 ⟨by omega, by omega, by omega, by omega⟩ (fun x hx => (VD.out.dir.1 x hx).2))
        have BAD := Aside0.mk (show ¬ (nm.toList = [] ∧ tt.toList = [] ∧ dat.toList = []) → res = (Dk.E0, 1) from fun h => by
          have hf : Dk.fieldsOK ⟨6, nm, tt, dat⟩ = false := by
            refine Bool.eq_false_iff.2 fun h2 => h ?_
            simp [Dk.fieldsOK, Dk.em] at h2
            exact ⟨h2.1.1, h2.1.2, h2.2⟩
          have ha : app d ⟨6, nm, tt, dat⟩ = (Dk.E0, 1) := by unfold Dk.app; rw [hf]; rfl
          rcases RA.out with h | ⟨_, h⟩
          · rw [h, ha]
          · rw [h, ha])
        have GOOD := Aside0.mk (show nm.toList = [] ∧ tt.toList = [] ∧ dat.toList = [] → res = (Dk.settle d, 0) from fun h => by
          have hf : Dk.fieldsOK ⟨6, nm, tt, dat⟩ = true := by simp [Dk.fieldsOK, Dk.em, h.1, h.2.1, h.2.2]
          have ha : app d ⟨6, nm, tt, dat⟩ = (Dk.settle d, 0) := by simp [Dk.app, hf]
          rcases RA.out with h | ⟨h2, h⟩
          · rw [h, ha]
          · rw [ha] at h2; exact absurd rfl h2)
        clear RA
        go_wp2_with fail
        all_goals first
          | (have hb := BAD.out (fun h => by simp_all)
             subst hb
             refine bodyPost_ret (results_ct rfl _ _ S 47 _ (0, 0) _ rfl (put47 L3.out _ _ _ _) Try.underlying47 rfl (by kernel_rfl)) rfl ?_
             exact ⟨_, rfl, (DR.zero _ 0).reads, below_put47 HB3.out hTS _ _ _ _⟩)
          | (have hg := GOOD.out (by simp_all)
             subst hg
             refine SC.out.mono ?_
             rintro e w5 ⟨v, rfl, h1, h2⟩
             obtain ⟨F0, g0, F1, g1, F2, g2, F3, g3, rfl⟩ := h1.slices
             have HB5 := Aside0.mk (below_step HB3.out h2)
             have HD5 := Aside0.mk h1
             have HS5 := Aside0.mk (blk_below L3.out h2)
             clear h1 h2 SC BAD GOOD
             have t0 := (blk_cell HS5.out 0).trans rfl
             have t1 := (blk_cell HS5.out 1).trans rfl
             have t2 := (blk_cell HS5.out 2).trans rfl
             have t3 := (blk_cell HS5.out 3).trans rfl
             have u0 := blk_frozen HS5.out 0
             have u1 := blk_frozen HS5.out 1
             have u2 := blk_frozen HS5.out 2
             have u3 := blk_frozen HS5.out 3
             go_wp2
             refine bodyPost_ret (results_ct rfl _ _ S 47 _ (0, 0) _ rfl (put47 HS5.out _ _ _ _) Try.underlying47 rfl (by kernel_rfl)) rfl ?_
             exact ⟨_, rfl, (HD5.out.put47 HS5.out _ _ _ _).reads, below_put47 HB5.out hTS _ _ _ _⟩)
      · have STC := Aside0.mk (step59_calls A1 c1 d.dir ⟨k, nm, tt, dat⟩ (d.ino.length : Nat) W3 VD.out.dir.2.1 (fun x hx => (VD.out.dir.1 x hx).2.1) (Kd.C_below R1.out HB3.out) l1 (by omega))
        have APP := Aside0.mk (show app d ⟨k, nm, tt, dat⟩ = if (stp d.dir ⟨k, nm, tt, dat⟩ (d.ino.length : Nat)).2 = 0 then (⟨if k = 1 then d.ino ++ [z67] else d.ino, (stp d.dir ⟨k, nm, tt, dat⟩ (d.ino.length : Nat)).1, d.dur, d.ops ++ [⟨k, nm, tt, dat⟩]⟩, 0) else (Dk.E0, (stp d.dir ⟨k, nm, tt, dat⟩ (d.ino.length : Nat)).2) from Dk.app_stp d ⟨k, nm, tt, dat⟩ (fun h => hk23 (.inl h)) (fun h => hk23 (.inr h)) hk6)
        have z0 := (blk_cell L1.out 0).trans rfl
        have z1 := (blk_cell L1.out 1).trans rfl
        have z2 := (blk_cell L1.out 2).trans rfl
        have z3 := (blk_cell L1.out 3).trans rfl
        have hk2 : ¬ k = 2 := fun h => hk23 (.inl h)
        have hk3 : ¬ k = 3 := fun h => hk23 (.inr h)
        obtain ⟨st, hst⟩ : ∃ st, st = stp d.dir ⟨k, nm, tt, dat⟩ (d.ino.length : Nat) := ⟨_, rfl⟩
        rw [← hst] at STC APP
        obtain ⟨sl, se⟩ := st
        simp only at STC APP
        clear hst hk23
        go_wp2_with fail
        refine STC.out.mono ?_
        rintro e w5 ⟨v, rfl, h1, h2⟩
        obtain ⟨V1, f1', rfl, lv, rv⟩ := Kd.R_reads h1
        have HB5 := Aside0.mk (below_step HB3.out h2)
        have N1 := Aside0.mk (blk_below L1.out h2)
        have N2 := Aside0.mk (blk_below L2.out h2)
        have N3 := Aside0.mk (blk_below L3.out h2)
        have U0 := Aside0.mk (Kd.R_below T0.out h2)
        have U3 := Aside0.mk (Kd.R_below T3.out h2)
        have V5 := Aside0.mk (Kd.R_lower h1 HB3.out.size)
        clear h1 h2 rv STC HB3 L1 L2 L3 T0 T3 o0 o1 o2 o3 s0 s1 s2 s3 f0 f1 f2 f3 z0 z1 z2 z3
        have f0 := blk_frozen N3.out 0
        have f1 := blk_frozen N3.out 1
        have f2 := blk_frozen N3.out 2
        have f3 := blk_frozen N3.out 3
        have s0 := (blk_cell N3.out 0).trans rfl
        have s1 := (blk_cell N3.out 1).trans rfl
        have s2 := (blk_cell N3.out 2).trans rfl
        have s3 := (blk_cell N3.out 3).trans rfl
        by_cases hse : se = 0
        · subst hse
          have E := Aside0.mk (show res = (⟨if k = 1 then d.ino ++ [z67] else d.ino, sl, d.dur, d.ops ++ [⟨k, nm, tt, dat⟩]⟩, 0) from by
            have ha := APP.out
            rw [if_pos rfl] at ha
            rcases RA.out with h | ⟨h, _⟩
            · rw [h, ha]
            · rw [ha] at h; exact absurd rfl h)
          have o0 := (blk_cell N2.out 0).trans rfl
          have z0 := (blk_cell N1.out 0).trans rfl
          clear RA APP s0 s1 s2 s3 f0 f1 f2 f3
          have e00 : (0 == (0 : Int)) = true := rfl
          by_cases hk1 : k = 1
          · subst hk1
            have e := E.out
            rw [if_pos rfl] at e
            subst e
            clear E
            have hTw : w.heap.size ≤ w5.heap.size := HB5.out.size
            have bn := (Below.refl w5.heap.size w5).alloc (Nat.le_refl _) (.cells #[.string ⟨#[]⟩, .int .i64 0] 67)
            have QC := Aside0.mk (C67_one (x := z67) (blk_new w5 (.cells #[.string ⟨#[]⟩, .int .i64 0] 67)))
            have QR := Aside0.mk (Kd.R_below U0.out bn)
            have QT := Aside0.mk (Nat.le_trans hTw bn.size)
            have QBB : Aside0 (Below w.heap.size w (w5.alloc (.cells #[.string ⟨#[]⟩, .int .i64 0] 67))) := ⟨HB5.out.alloc hTw _⟩
            have BN := Aside0.mk bn
            clear bn
            go_upto_region 29 with (at_builtin; go_loud (refine Kd.R_append_rows k67 (Rr := k67.K _) (w0 := w) w.heap.size rfl _ _ 43 67 (.agg #[.string ⟨#[]⟩, .int .i64 0]) 24 rfl Try.underlying43 info67 rfl (by decide) (by decide) (.slice B0 d.ino.length e0) d.ino [z67] (some ⟨w5.heap.size, 0, none⟩) 1 1 (fun _ => True) (fun _ => False) rfl rfl QR.out QC.out ?q2 ?q3 ?q4 QBB.out QT.out ?q7 ?_); (case q2 => intro y cs h; obtain rfl := k67_open h; exact k67_mkM _ _ _ _); (case q3 => intro k h; exact h.elim); (case q4 => intro k hk; trivial); (case q7 => omega); intro v1 w7 h1 h2 h3 h4; obtain ⟨X0, x0c, hv0⟩ := Kd.R_slice h1; subst hv0; have H7 := Aside0.mk h2; have R7 := Aside0.mk h1; have K7 := Aside0.mk (blk_grown (blk_below N1.out BN.out) h3 (Kd.R_ne QR.out (blk_below N1.out BN.out) (by decide))); have O7 := Aside0.mk (blk_grown (blk_below N2.out BN.out) h3 (Kd.R_ne QR.out (blk_below N2.out BN.out) (by decide))); have S7 := Aside0.mk (blk_grown (blk_below N3.out BN.out) h3 (Kd.R_ne QR.out (blk_below N3.out BN.out) (by decide))); have V7 := Aside0.mk (R_other (Kd.R_below V5.out BN.out) QR.out (by decide) h3); have U7 := Aside0.mk (R_other (Kd.R_below U3.out BN.out) QR.out (by decide) h3); have t0 := (blk_cell K7.out 0).trans rfl; have t0f := blk_frozen K7.out 0; clear h1 h2 h3 h4 z0 o0)
            have hl7 : (d.ino ++ [z67]).length = d.ino.length + 1 := by simp
            rw [hl7] at R7
            have K8 := Aside0.mk (blk_put K7.out 0 (.slice X0 (d.ino.length + 1) x0c) rfl)
            have O8 := Aside0.mk (blk_far O7.out (p := ⟨D, 0, none⟩) (Ne.symm hDO) (.slice X0 (d.ino.length + 1) x0c))
            have S8 := Aside0.mk (blk_far S7.out (p := ⟨D, 0, none⟩) (Ne.symm hDS) (.slice X0 (d.ino.length + 1) x0c))
            have H8 := Aside0.mk (H7.out.setCell (p := ⟨D, 0, none⟩) hTD (.slice X0 (d.ino.length + 1) x0c))
            have R8 := Aside0.mk (Kd.R_set R7.out K7.out (by decide) 0 (.slice X0 (d.ino.length + 1) x0c))
            have V8 := Aside0.mk (Kd.R_set V7.out K7.out (by decide) 0 (.slice X0 (d.ino.length + 1) x0c))
            have U8 := Aside0.mk (Kd.R_set U7.out K7.out (by decide) 0 (.slice X0 (d.ino.length + 1) x0c))
            generalize w7.setCell ⟨D, 0, none⟩ (.slice X0 (d.ino.length + 1) x0c) = W8 at K8 O8 S8 H8 R8 V8 U8 ⊢
            clear t0 t0f hl7 H7 R7 K7 O7 S7 V7 U7 QC QR QT QBB BN N1 N2 N3 U0 U3 V5 HB5 hTw
            have hTw2 : w.heap.size ≤ W8.heap.size := H8.out.size
            have k3 := (blk_cell K8.out 3).trans rfl
            have o0 := (blk_cell O8.out 0).trans rfl
            have o1 := (blk_cell O8.out 1).trans rfl
            have o2 := (blk_cell O8.out 2).trans rfl
            have o3 := (blk_cell O8.out 3).trans rfl
            have bn := (Below.refl W8.heap.size W8).alloc (Nat.le_refl _) (.cells #[.int .i64 1, .string nm, .string tt, .string dat] 49)
            have QC := Aside0.mk (C49_one (x := ⟨1, nm, tt, dat⟩) (blk_new W8 (.cells #[.int .i64 1, .string nm, .string tt, .string dat] 49)))
            have QR := Aside0.mk (Kd.R_below U8.out bn)
            have QT := Aside0.mk (Nat.le_trans hTw2 bn.size)
            have QBB : Aside0 (Below w.heap.size w (W8.alloc (.cells #[.int .i64 1, .string nm, .string tt, .string dat] 49))) := ⟨H8.out.alloc hTw2 _⟩
            have BN := Aside0.mk bn
            clear bn
            go_upto_region 30 with (at_builtin; go_loud (refine Kd.R_append_rows k49 (Rr := k49.K _) (w0 := w) w.heap.size rfl _ _ 45 49 (.agg #[.int .i64 0, .string ⟨#[]⟩, .string ⟨#[]⟩, .string ⟨#[]⟩]) 56 rfl Try.underlying45 info49 rfl (by decide) (by decide) (.slice B3 d.ops.length e3) d.ops [⟨1, nm, tt, dat⟩] (some ⟨W8.heap.size, 0, none⟩) 1 1 (fun _ => True) (fun _ => False) rfl rfl QR.out QC.out ?q2 ?q3 ?q4 QBB.out QT.out ?q7 ?_); (case q2 => intro y cs h; obtain rfl := k49_open h; exact k49_mkM _ _ _ _); (case q3 => intro k h; exact h.elim); (case q4 => intro k hk; trivial); (case q7 => omega); intro v1 wA h1 h2 h3 h4; obtain ⟨X3, x3c, hv3⟩ := Kd.R_slice h1; subst hv3; have HA := Aside0.mk h2; have RA3 := Aside0.mk h1; have KA := Aside0.mk (blk_grown (blk_below K8.out BN.out) h3 (Kd.R_ne QR.out (blk_below K8.out BN.out) (by decide))); have SA := Aside0.mk (blk_grown (blk_below S8.out BN.out) h3 (Kd.R_ne QR.out (blk_below S8.out BN.out) (by decide))); have QA := Aside0.mk (R_other (Kd.R_below R8.out BN.out) QR.out (by decide) h3); have VA := Aside0.mk (R_other (Kd.R_below V8.out BN.out) QR.out (by decide) h3); have t1 := (blk_cell KA.out 1).trans rfl; have t3 := (blk_cell KA.out 3).trans rfl; have t1f := blk_frozen KA.out 1; have t3f := blk_frozen KA.out 3; clear h1 h2 h3 h4 k3 o0 o1 o2 o3)
            have hl4 : (d.ops ++ [(⟨1, nm, tt, dat⟩ : S49)]).length = d.ops.length + 1 := by simp
            rw [hl4] at RA3
            have KB := Aside0.mk (blk_put (blk_put KA.out 1 (.slice V1 sl.length f1') rfl) 3 (.slice X3 (d.ops.length + 1) x3c) rfl)
            have SB := Aside0.mk (blk_far (blk_far SA.out (p := ⟨D, 1, none⟩) (Ne.symm hDS) (.slice V1 sl.length f1')) (p := ⟨D, 3, none⟩) (Ne.symm hDS) (.slice X3 (d.ops.length + 1) x3c))
            have HBB := Aside0.mk ((HA.out.setCell (p := ⟨D, 1, none⟩) hTD (.slice V1 sl.length f1')).setCell (p := ⟨D, 3, none⟩) hTD (.slice X3 (d.ops.length + 1) x3c))
            have QB := Aside0.mk (Kd.R_set (Kd.R_set QA.out KA.out (by decide) 1 (.slice V1 sl.length f1')) (blk_put KA.out 1 (.slice V1 sl.length f1') rfl) (by decide) 3 (.slice X3 (d.ops.length + 1) x3c))
            have VB := Aside0.mk (Kd.R_set (Kd.R_set VA.out KA.out (by decide) 1 (.slice V1 sl.length f1')) (blk_put KA.out 1 (.slice V1 sl.length f1') rfl) (by decide) 3 (.slice X3 (d.ops.length + 1) x3c))
            have UB := Aside0.mk (Kd.R_set (Kd.R_set RA3.out KA.out (by decide) 1 (.slice V1 sl.length f1')) (blk_put KA.out 1 (.slice V1 sl.length f1') rfl) (by decide) 3 (.slice X3 (d.ops.length + 1) x3c))
            generalize (wA.setCell ⟨D, 1, none⟩ (.slice V1 sl.length f1')).setCell ⟨D, 3, none⟩ (.slice X3 (d.ops.length + 1) x3c) = WB at KB SB HBB QB VB UB ⊢
            clear t1 t3 t1f t3f KA SA HA RA3 QA VA QC QR QT QBB BN
            have k0 := (blk_cell KB.out 0).trans rfl
            have k1 := (blk_cell KB.out 1).trans rfl
            have k2 := (blk_cell KB.out 2).trans rfl
            have k3 := (blk_cell KB.out 3).trans rfl
            have s0 := (blk_cell SB.out 0).trans rfl
            have s1 := (blk_cell SB.out 1).trans rfl
            have s2 := (blk_cell SB.out 2).trans rfl
            have s3 := (blk_cell SB.out 3).trans rfl
            have f0 := blk_frozen SB.out 0
            have f1 := blk_frozen SB.out 1
            have f2 := blk_frozen SB.out 2
            have f3 := blk_frozen SB.out 3
            go_wp2
            refine bodyPost_ret (results_ct rfl _ _ S 47 _ (0, 0) _ rfl (put47 SB.out _ _ _ _) Try.underlying47 rfl (by kernel_rfl)) rfl ?_
            exact ⟨_, rfl, DC_dir DD.out (below_put47 HBB.out hTS _ _ _ _) (R67_put47 QB.out SB.out _ _ _ _) (by simp) (R69_put47 VB.out SB.out _ _ _ _) rfl (R49_put47 UB.out SB.out _ _ _ _) (by simp), below_put47 HBB.out hTS _ _ _ _⟩
          · have e := E.out
            rw [if_neg hk1] at e
            subst e
            clear E
            go_upto_region 29 with fail
            clear o0 z0
            have hTw2 : w.heap.size ≤ w5.heap.size := HB5.out.size
            have k3 := (blk_cell N1.out 3).trans rfl
            have o0 := (blk_cell N2.out 0).trans rfl
            have o1 := (blk_cell N2.out 1).trans rfl
            have o2 := (blk_cell N2.out 2).trans rfl
            have o3 := (blk_cell N2.out 3).trans rfl
            have bn := (Below.refl w5.heap.size w5).alloc (Nat.le_refl _) (.cells #[.int .i64 k, .string nm, .string tt, .string dat] 49)
            have QC := Aside0.mk (C49_one (x := ⟨k, nm, tt, dat⟩) (blk_new w5 (.cells #[.int .i64 k, .string nm, .string tt, .string dat] 49)))
            have QR := Aside0.mk (Kd.R_below U3.out bn)
            have QT := Aside0.mk (Nat.le_trans hTw2 bn.size)
            have QBB : Aside0 (Below w.heap.size w (w5.alloc (.cells #[.int .i64 k, .string nm, .string tt, .string dat] 49))) := ⟨HB5.out.alloc hTw2 _⟩
            have BN := Aside0.mk bn
            clear bn
            go_upto_region 30 with (at_builtin; go_loud (refine Kd.R_append_rows k49 (Rr := k49.K _) (w0 := w) w.heap.size rfl _ _ 45 49 (.agg #[.int .i64 0, .string ⟨#[]⟩, .string ⟨#[]⟩, .string ⟨#[]⟩]) 56 rfl Try.underlying45 info49 rfl (by decide) (by decide) (.slice B3 d.ops.length e3) d.ops [⟨k, nm, tt, dat⟩] (some ⟨w5.heap.size, 0, none⟩) 1 1 (fun _ => True) (fun _ => False) rfl rfl QR.out QC.out ?q2 ?q3 ?q4 QBB.out QT.out ?q7 ?_); (case q2 => intro y cs h; obtain rfl := k49_open h; exact k49_mkM _ _ _ _); (case q3 => intro k h; exact h.elim); (case q4 => intro k hk; trivial); (case q7 => omega); intro v1 wA h1 h2 h3 h4; obtain ⟨X3, x3c, hv3⟩ := Kd.R_slice h1; subst hv3; have HA := Aside0.mk h2; have RA3 := Aside0.mk h1; have KA := Aside0.mk (blk_grown (blk_below N1.out BN.out) h3 (Kd.R_ne QR.out (blk_below N1.out BN.out) (by decide))); have SA := Aside0.mk (blk_grown (blk_below N3.out BN.out) h3 (Kd.R_ne QR.out (blk_below N3.out BN.out) (by decide))); have QA := Aside0.mk (R_other (Kd.R_below U0.out BN.out) QR.out (by decide) h3); have VA := Aside0.mk (R_other (Kd.R_below V5.out BN.out) QR.out (by decide) h3); have t1 := (blk_cell KA.out 1).trans rfl; have t3 := (blk_cell KA.out 3).trans rfl; have t1f := blk_frozen KA.out 1; have t3f := blk_frozen KA.out 3; clear h1 h2 h3 h4 k3 o0 o1 o2 o3)
            have hl4 : (d.ops ++ [(⟨k, nm, tt, dat⟩ : S49)]).length = d.ops.length + 1 := by simp
            rw [hl4] at RA3
            have KB := Aside0.mk (blk_put (blk_put KA.out 1 (.slice V1 sl.length f1') rfl) 3 (.slice X3 (d.ops.length + 1) x3c) rfl)
            have SB := Aside0.mk (blk_far (blk_far SA.out (p := ⟨D, 1, none⟩) (Ne.symm hDS) (.slice V1 sl.length f1')) (p := ⟨D, 3, none⟩) (Ne.symm hDS) (.slice X3 (d.ops.length + 1) x3c))
            have HBB := Aside0.mk ((HA.out.setCell (p := ⟨D, 1, none⟩) hTD (.slice V1 sl.length f1')).setCell (p := ⟨D, 3, none⟩) hTD (.slice X3 (d.ops.length + 1) x3c))
            have QB := Aside0.mk (Kd.R_set (Kd.R_set QA.out KA.out (by decide) 1 (.slice V1 sl.length f1')) (blk_put KA.out 1 (.slice V1 sl.length f1') rfl) (by decide) 3 (.slice X3 (d.ops.length + 1) x3c))
            have VB := Aside0.mk (Kd.R_set (Kd.R_set VA.out KA.out (by decide) 1 (.slice V1 sl.length f1')) (blk_put KA.out 1 (.slice V1 sl.length f1') rfl) (by decide) 3 (.slice X3 (d.ops.length + 1) x3c))
            have UB := Aside0.mk (Kd.R_set (Kd.R_set RA3.out KA.out (by decide) 1 (.slice V1 sl.length f1')) (blk_put KA.out 1 (.slice V1 sl.length f1') rfl) (by decide) 3 (.slice X3 (d.ops.length + 1) x3c))
            generalize (wA.setCell ⟨D, 1, none⟩ (.slice V1 sl.length f1')).setCell ⟨D, 3, none⟩ (.slice X3 (d.ops.length + 1) x3c) = WB at KB SB HBB QB VB UB ⊢
            clear t1 t3 t1f t3f KA SA HA RA3 QA VA QC QR QT QBB BN
            have k0 := (blk_cell KB.out 0).trans rfl
            have k1 := (blk_cell KB.out 1).trans rfl
            have k2 := (blk_cell KB.out 2).trans rfl
            have k3 := (blk_cell KB.out 3).trans rfl
            have s0 := (blk_cell SB.out 0).trans rfl
            have s1 := (blk_cell SB.out 1).trans rfl
            have s2 := (blk_cell SB.out 2).trans rfl
            have s3 := (blk_cell SB.out 3).trans rfl
            have f0 := blk_frozen SB.out 0
            have f1 := blk_frozen SB.out 1
            have f2 := blk_frozen SB.out 2
            have f3 := blk_frozen SB.out 3
            go_wp2
            refine bodyPost_ret (results_ct rfl _ _ S 47 _ (0, 0) _ rfl (put47 SB.out _ _ _ _) Try.underlying47 rfl (by kernel_rfl)) rfl ?_
            exact ⟨_, rfl, DC_dir DD.out (below_put47 HBB.out hTS _ _ _ _) (R67_put47 QB.out SB.out _ _ _ _) (by simp) (R69_put47 VB.out SB.out _ _ _ _) rfl (R49_put47 UB.out SB.out _ _ _ _) (by simp), below_put47 HBB.out hTS _ _ _ _⟩
        · have hr : res = (Dk.E0, se) := by
            have ha := APP.out
            rw [if_neg hse] at ha
            rcases RA.out with h | ⟨_, h⟩
            · rw [h, ha]
            · rw [h, ha]
          subst hr
          clear RA APP
          have hse2 : (se == 0) = false := beq_eq_false_iff_ne.2 hse
          go_wp2
          refine bodyPost_ret (results_ct rfl _ _ S 47 _ (0, 0) _ rfl (put47 N3.out _ _ _ _) Try.underlying47 rfl (by kernel_rfl)) rfl ?_
          exact ⟨_, rfl, (DR.zero _ 0).reads, below_put47 HB5.out hTS _ _ _ _⟩
  · rw [if_neg hv]
    have e0 : res = (Dk.E0, 9) := by rw [RES.out]; unfold Dk.applyAll; rw [if_neg hv]
    subst e0
    clear RES
    go_wp2
    refine bodyPost_ret (results_ct rfl _ _ S 47 _ (0, 0) _ rfl (put47 M3.out _ _ _ _) Try.underlying47 rfl (by kernel_rfl)) rfl ?_
    exact ⟨_, rfl, (DR.zero _ 0).reads, below_put47 HB1.out hTS _ _ _ _⟩
end Go.Proofs.Ytnaddmkaakdhoaa.J

end
section
namespace Go.Proofs.Ytnaddmkaakdhoaa.J
open Go.RowKit Go.Proofs.YtnaddmkaakdhoaaW.PrintWords Go.Proofs.YtnaddmkaakdhoaaW.PrintLast Go.Proofs.YtnaddmkaakdhoaaW.PrintMore
open Dk (Srt pos has valid app appAll applyAll Valid ent)
set_option linter.unusedVariables false
set_option linter.unusedSimpArgs false
theorem reads_far {α : Type} {P P' : α → List Value → Prop} {sz : Nat} {w w1 : World} {A : Option Addr} {n : Nat} {xs : List α} {D : Nat} {cs : Array Value} {t : Nat} (h : ReadsRow P sz w A n xs)
    (hD : w.heap[D]? = some (.cells cs t (0, 0))) (hs : ∀ (i : Nat) (u : Value), cs[i]? = some u → ∃ B m c, u = .slice B m c) (hm : ∀ k, k ≠ D → w1.heap[k]? = w.heap[k]?)
    (hP : ∀ x c, P x c → P' x c ∧ ∀ u ∈ c, ∀ B m e, u ≠ .slice B m e) : ReadsRow P' sz w1 A n xs := by
  refine ⟨h.1, h.2.1, fun h0 => ?_⟩
  obtain ⟨ad, e, hc⟩ := h.2.2 h0
  refine ⟨ad, e, fun j p hj => ?_⟩
  obtain ⟨c, hl, hp, hcell⟩ := hc j p hj
  obtain ⟨hp', hns⟩ := hP _ _ hp
  refine ⟨c, hl, hp', fun i u hu => ?_⟩
  have h1 := hcell i u hu
  by_cases hb : (ad.add (j * sz + i)).block = D
  · exfalso
    unfold World.cell? at h1
    rw [hb, hD] at h1
    simp only at h1
    split at h1
    · cases h1
    · obtain ⟨B, m, e2, rfl⟩ := hs _ _ h1
      exact hns _ (List.mem_of_getElem? hu) B m e2 rfl
  · rw [World.cell?_of_block (hm _ hb)]; exact h1
theorem four_slices {v0 v1 v2 v3 : Value} (h0 : ∃ B m c, v0 = .slice B m c) (h1 : ∃ B m c, v1 = .slice B m c) (h2 : ∃ B m c, v2 = .slice B m c) (h3 : ∃ B m c, v3 = .slice B m c) (i : Nat) (u : Value) (h : (#[v0, v1, v2, v3] : Array Value)[i]? = some u) : ∃ B m c, u = .slice B m c := by
  match i, h with
  | 0, h => cases h; exact h0
  | 1, h => cases h; exact h1
  | 2, h => cases h; exact h2
  | 3, h => cases h; exact h3
  | k + 4, h => simp at h
theorem DC.far {w w1 : World} {a : Value} {d : Dsk} {D : Nat} {cs : Array Value} {t : Nat} (h : DC w a d) (hD : w.heap[D]? = some (.cells cs t (0, 0))) (hs : ∀ (i : Nat) (u : Value), cs[i]? = some u → ∃ B m c, u = .slice B m c) (hm : ∀ k, k ≠ D → w1.heap[k]? = w.heap[k]?) : DC w1 a d := by
  obtain ⟨A0, c0, A1, c1, A2, c2, A3, c3, e, h0, h1, h2, h3⟩ := h
  have e67 : ∀ (x : S67) (c : List Value), k67.K w x c → k67.K w1 x c ∧ ∀ u ∈ c, ∀ B m e, u ≠ .slice B m e := fun x c hk => by
    obtain rfl := k67_open hk
    exact ⟨k67_mk _ _, by simp⟩
  have e69 : ∀ (x : S69) (c : List Value), k69.K w x c → k69.K w1 x c ∧ ∀ u ∈ c, ∀ B m e, u ≠ .slice B m e := fun x c hk => by
    obtain rfl := k69_open hk
    exact ⟨k69_mk _ _, by simp⟩
  have e49 : ∀ (x : S49) (c : List Value), k49.K w x c → k49.K w1 x c ∧ ∀ u ∈ c, ∀ B m e, u ≠ .slice B m e := fun x c hk => by
    obtain rfl := k49_open hk
    exact ⟨k49_mk _ _, by simp⟩
  exact ⟨A0, c0, A1, c1, A2, c2, A3, c3, e, ⟨reads_far h0.1 hD hs hm e67, h0.2⟩, ⟨reads_far h1.1 hD hs hm e69, h1.2⟩, ⟨reads_far h2.1 hD hs hm e69, h2.2⟩, ⟨reads_far h3.1 hD hs hm e49, h3.2⟩⟩
theorem DC.put47 {W : World} {a : Value} {d : Dsk} {S : Nat} {b0 b1 b2 b3 : Value} (hd : DC W a d) (h : W.heap[S]? = some (.cells #[b0, b1, b2, b3] 47 (0, 0))) (h0 : ∃ B m c, b0 = .slice B m c) (h1 : ∃ B m c, b1 = .slice B m c) (h2 : ∃ B m c, b2 = .slice B m c) (h3 : ∃ B m c, b3 = .slice B m c) (a0 a1 a2 a3 : Value) : DC ((((W.setCell ⟨S, 0, none⟩ a0).setCell ⟨S, 1, none⟩ a1).setCell ⟨S, 2, none⟩ a2).setCell ⟨S, 3, none⟩ a3) a d :=
  hd.far h (four_slices h0 h1 h2 h3) (fun k hk => (Below.heap_setCell _ ⟨S, 3, none⟩ a3 k hk).trans ((Below.heap_setCell _ ⟨S, 2, none⟩ a2 k hk).trans ((Below.heap_setCell _ ⟨S, 1, none⟩ a1 k hk).trans (Below.heap_setCell _ ⟨S, 0, none⟩ a0 k hk))))
set_option maxHeartbeats 8000000 in
set_option maxRecDepth 100000 in
theorem applyAll101_calls (a : Value) (d : Dsk) (A : Option Addr) (c : Nat) (os : List S49) (w : World) (hd : DC w a d) (hr : Kd.C k49 w A os.length os) (hc : os.length ≤ c) (hs : Sml 20000 d) (ho : os.length ≤ 20000) (hz : ∀ o ∈ os, o.f3.size ≤ 140737488355328) :
    Calls Try.prog 101 #[a, .slice A os.length c] w fun e w' => ∃ v, e = .returned (.tuple #[v, .int .i64 (applyAll d os).2]) ∧ DC w' v (applyAll d os).1 ∧ Below w.heap.size w w' := by
  have DD := Aside0.mk hd
  obtain ⟨A0, c0, A1, c1, A2, c2, A3, c3, rfl, ⟨r0, l0⟩, ⟨r1, l1⟩, ⟨r2, l2⟩, ⟨r3, l3⟩⟩ := hd
  have hs' := Aside0.mk hs
  obtain ⟨n0, n1, n2, n3⟩ := hs
  have HR := Aside0.mk hr
  have HZ := Aside0.mk hz
  obtain ⟨res, hres⟩ : ∃ res, res = applyAll d os := ⟨_, rfl⟩
  rw [← hres]
  have RES := Aside0.mk hres
  obtain ⟨b, hb⟩ : ∃ b, b = valid d := ⟨_, rfl⟩
  have VC := Aside0.mk (fun w' hd' => validate36_calls (.agg #[.slice A0 d.ino.length c0, .slice A1 d.dir.length c1, .slice A2 d.dur.length c2, .slice A3 d.ops.length c3]) d w' hd' ⟨by omega, by omega, by omega, by omega⟩)
  rw [← hb] at VC
  have VB := Aside0.mk hb
  obtain ⟨n, hn⟩ : ∃ n, n = os.length := ⟨_, rfl⟩
  have HN := Aside0.mk hn
  rw [← hn] at hc ho ⊢
  clear hr hz hres hb hn r0 r1 r2 r3
  go_enter Try.func101, Try.ntmps101
  go_wp2_with fail
  obtain ⟨oD, hoD⟩ : ∃ o : Obj, o = .cells #[.slice A0 d.ino.length c0, .slice A1 d.dir.length c1, .slice A2 d.dur.length c2, .slice A3 d.ops.length c3] 47 := ⟨_, rfl⟩
  obtain ⟨oZ, hoZ⟩ : ∃ o : Obj, o = .cells #[.slice none 0 0, .slice none 0 0, .slice none 0 0, .slice none 0 0] 47 := ⟨_, rfl⟩
  rw [← hoD, ← hoZ]
  have hB := below_alloc (below_alloc (Below.refl w.heap.size w) oD) oZ
  have hK := blk_alloc (blk_new w oD) oZ
  have hS := blk_new (w.alloc oD) oZ
  rw [show (w.alloc oD).heap.size = w.heap.size + 1 by simp] at hS
  generalize (w.alloc oD).alloc oZ = W0 at hB hK hS ⊢
  subst hoD hoZ
  refine (VC.out W0 (DD.out.below hB)).mono ?_
  rintro e w1 ⟨rfl, hb1⟩
  have HB := Aside0.mk (below_step hB hb1)
  have HK := Aside0.mk (blk_below hK hb1)
  have HS := Aside0.mk (blk_below hS hb1)
  clear hB hK hS hb1 VC
  obtain ⟨D, hD⟩ : ∃ D, D = w.heap.size := ⟨_, rfl⟩
  obtain ⟨S, hS⟩ : ∃ S, S = w.heap.size + 1 := ⟨_, rfl⟩
  rw [← hS] at HS ⊢
  rw [← hD] at HK ⊢
  have hTD : w.heap.size ≤ D := by omega
  have hTS : w.heap.size ≤ S := by omega
  have hDS : D ≠ S := by omega
  have hSD : S ≠ D := by omega
  clear hD hS
  cases b with
  | false =>
    have E := Aside0.mk (show res = (Dk.E0, 9) from by rw [RES.out]; unfold Dk.applyAll; rw [← VB.out]; rfl)
    have s0 := (blk_cell HS.out 0).trans rfl
    have s1 := (blk_cell HS.out 1).trans rfl
    have s2 := (blk_cell HS.out 2).trans rfl
    have s3 := (blk_cell HS.out 3).trans rfl
    have f0 := blk_frozen HS.out 0
    have f1 := blk_frozen HS.out 1
    have f2 := blk_frozen HS.out 2
    have f3 := blk_frozen HS.out 3
    go_wp2
    refine bodyPost_ret (results_ct rfl _ _ S 47 _ (0, 0) _ rfl (put47 HS.out _ _ _ _) Try.underlying47 rfl (by kernel_rfl)) rfl ?_
    rw [E.out]
    exact ⟨_, rfl, (DR.zero _ 0).reads, below_put47 HB.out hTS _ _ _ _⟩
  | true =>
    have V := Aside0.mk (Dk.valid_of.1 VB.out.symm)
    have E := Aside0.mk (show res = appAll d os from by rw [RES.out]; unfold Dk.applyAll; rw [← VB.out]; rfl)
    have D3 := Aside0.mk (DD.out.below HB.out)
    go_wp2_with fail
    go_loopg [18] n (fun kx s21 wr => ∃ (i : Nat) (d' : Dsk) (C0 C1 C2 C3 : Option Addr) (e0 e1 e2 e3 : Nat), s21 = .int .i64 i ∧ i ≤ n ∧ n - i ≤ kx ∧ Aside0 (appAll d os = appAll d' (os.drop i)) ∧ Aside0 (Valid d') ∧ Aside0 (Sml (20000 + i) d') ∧ Aside0 (Below w.heap.size w wr) ∧ Aside0 (wr.heap[D]? = some (.cells #[.slice C0 d'.ino.length e0, .slice C1 d'.dir.length e1, .slice C2 d'.dur.length e2, .slice C3 d'.ops.length e3] 47 (0, 0))) ∧ Aside0 (wr.heap[S]? = some (.cells #[.slice none 0 0, .slice none 0 0, .slice none 0 0, .slice none 0 0] 47 (0, 0))) ∧ Aside0 (DC wr (.agg #[.slice C0 d'.ino.length e0, .slice C1 d'.dir.length e1, .slice C2 d'.dur.length e2, .slice C3 d'.ops.length e3]) d'))
    case atStart => exact ⟨0, d, _, _, _, _, _, _, _, _, rfl, Nat.zero_le _, by omega, ⟨rfl⟩, V, hs', HB, HK, HS, D3⟩
    case round =>
      clear HB HK HS D3
      obtain ⟨i, d', C0, C1, C2, C3, e0, e1, e2, e3, rfl, hi, hk, hA, hV, hS', HB, HK, HS, HD⟩ := hrel
      by_cases hlt : i < n
      · obtain ⟨ad, ea, hx0, hx1, hx2, hx3⟩ := at_T49 HR.out (i : Int) (by omega) (by have := HN.out; omega)
        cases ea
        obtain ⟨y, hy⟩ : ∃ y, y = rd_T49 os (i : Int) := ⟨_, rfl⟩
        rw [← hy] at hx0 hx1 hx2 hx3
        have hil : i < os.length := by have := HN.out; omega
        have hyi : os[i] = y := by
          rw [hy]
          show _ = os.getD i z49
          rw [List.getD_eq_getElem?_getD, List.getElem?_eq_getElem hil]
          rfl
        have hdr := Aside0.mk (show appAll d os = _ from by rw [hA.out, List.drop_eq_getElem_cons hil, hyi])
        have hyz := HZ.out y (hyi ▸ List.getElem_mem hil)
        clear hy hyi
        replace hx0 : wr.cell? (ad.add (i * 4)) = some (.int .i64 y.f0) := (HB.out.cell (World.block_lt_of_cell? w _ hx0)).trans hx0
        replace hx1 : wr.cell? ⟨(ad.add (i * 4)).block, (ad.add (i * 4)).off + 1, none⟩ = some (.string y.f1) := (HB.out.cell (World.block_lt_of_cell? w _ hx1)).trans hx1
        replace hx2 : wr.cell? ⟨(ad.add (i * 4)).block, (ad.add (i * 4)).off + 2, none⟩ = some (.string y.f2) := (HB.out.cell (World.block_lt_of_cell? w _ hx2)).trans hx2
        replace hx3 : wr.cell? ⟨(ad.add (i * 4)).block, (ad.add (i * 4)).off + 3, none⟩ = some (.string y.f3) := (HB.out.cell (World.block_lt_of_cell? w _ hx3)).trans hx3
        have bn := (Below.refl wr.heap.size wr).alloc (Nat.le_refl _) (.cells #[.int .i64 y.f0, .string y.f1, .string y.f2, .string y.f3] 49)
        have kX := blk_new wr (.cells #[.int .i64 y.f0, .string y.f1, .string y.f2, .string y.f3] 49)
        have HB4 := Aside0.mk (below_step HB.out bn)
        have HK4 := Aside0.mk (blk_below HK.out bn)
        have HS4 := Aside0.mk (blk_below HS.out bn)
        have HD4 := Aside0.mk (HD.out.below bn)
        have y0 := (blk_cell kX 0).trans rfl
        have y1 := (blk_cell kX 1).trans rfl
        have y2 := (blk_cell kX 2).trans rfl
        have y3 := (blk_cell kX 3).trans rfl
        have hsm := hS'.out
        have AC := Aside0.mk (fun W h => apply32_calls (.agg #[.slice C0 d'.ino.length e0, .slice C1 d'.dir.length e1, .slice C2 d'.dur.length e2, .slice C3 d'.ops.length e3]) d' y W h ⟨by have := hsm.1; omega, by have := hsm.2.1; omega, by have := hsm.2.2.1; omega, by have := hsm.2.2.2; omega⟩ (by omega))
        have AA := Aside0.mk (show applyAll d' [y] = app d' y ∨ (app d' y).2 ≠ 0 ∧ applyAll d' [y] = (Dk.E0, (app d' y).2) from by
          unfold Dk.applyAll
          rw [if_pos (Dk.valid_of.2 hV.out)]
          simp only [Dk.appAll]
          by_cases h : (app d' y).2 = 0
          · rw [if_pos h]; left; rw [← h]
          · rw [if_neg h]; right; exact ⟨h, rfl⟩)
        obtain ⟨ap, hap⟩ : ∃ ap, ap = applyAll d' [y] := ⟨_, rfl⟩
        rw [← hap] at AC AA
        clear bn kX hsm hap HK HS HD
        obtain ⟨ad1, ae⟩ := ap
        have k0 := (blk_cell HK4.out 0).trans rfl
        have k1 := (blk_cell HK4.out 1).trans rfl
        have k2 := (blk_cell HK4.out 2).trans rfl
        have k3 := (blk_cell HK4.out 3).trans rfl
        go_wp2_with fail
        refine (AC.out _ HD4.out).mono ?_
        rintro e w5 ⟨v, rfl, h1, h2⟩
        have D5 := Aside0.mk h1
        have B5 := Aside0.mk (below_step HB4.out h2)
        have K5 := Aside0.mk (blk_below HK4.out h2)
        have S5 := Aside0.mk (blk_below HS4.out h2)
        obtain ⟨F0, g0, F1, g1, F2, g2, F3, g3, rfl, -⟩ := h1
        clear h2 k0 k1 k2 k3 y0 y1 y2 y3 hx0 hx1 hx2 hx3 HB4 HK4 HS4 HD4 AC
        have k0 := (blk_cell K5.out 0).trans rfl
        have k1 := (blk_cell K5.out 1).trans rfl
        have k2 := (blk_cell K5.out 2).trans rfl
        have k3 := (blk_cell K5.out 3).trans rfl
        have kf0 := blk_frozen K5.out 0
        have kf1 := blk_frozen K5.out 1
        have kf2 := blk_frozen K5.out 2
        have kf3 := blk_frozen K5.out 3
        go_upto_region 9 with fail
        have K7 := Aside0.mk (put47 K5.out (.slice F0 ad1.ino.length g0) (.slice F1 ad1.dir.length g1) (.slice F2 ad1.dur.length g2) (.slice F3 ad1.ops.length g3))
        have S7 := Aside0.mk (far47 S5.out hSD (.slice F0 ad1.ino.length g0) (.slice F1 ad1.dir.length g1) (.slice F2 ad1.dur.length g2) (.slice F3 ad1.ops.length g3))
        have D7 := Aside0.mk (D5.out.put47 K5.out ⟨_, _, _, rfl⟩ ⟨_, _, _, rfl⟩ ⟨_, _, _, rfl⟩ ⟨_, _, _, rfl⟩ (.slice F0 ad1.ino.length g0) (.slice F1 ad1.dir.length g1) (.slice F2 ad1.dur.length g2) (.slice F3 ad1.ops.length g3))
        have B7 := Aside0.mk (below_put47 B5.out hTD (.slice F0 ad1.ino.length g0) (.slice F1 ad1.dir.length g1) (.slice F2 ad1.dur.length g2) (.slice F3 ad1.ops.length g3))
        generalize (((w5.setCell ⟨D, 0, none⟩ (.slice F0 ad1.ino.length g0)).setCell ⟨D, 1, none⟩ (.slice F1 ad1.dir.length g1)).setCell ⟨D, 2, none⟩ (.slice F2 ad1.dur.length g2)).setCell ⟨D, 3, none⟩ (.slice F3 ad1.ops.length g3) = W7 at K7 S7 D7 B7 ⊢
        clear k0 k1 k2 k3 kf0 kf1 kf2 kf3 K5 S5 D5 B5
        by_cases hae : ae = 0
        · subst hae
          have AP : app d' y = (ad1, 0) := by
            rcases AA.out with h | ⟨h, h2⟩
            · exact h.symm
            · injection h2 with _ h2; exact absurd h2.symm h
          have V7 := Aside0.mk (show Valid ad1 from by have := Dk.valid_app hV.out y (by rw [AP]); rwa [AP] at this)
          have SM7 := Aside0.mk (show Sml (20000 + (i + 1)) ad1 from by have := Dk.Sml_app hS'.out y; rwa [AP] at this)
          have A7 := Aside0.mk (show appAll d os = appAll ad1 (os.drop (i + 1)) from by
            rw [hdr.out]
            conv => lhs; unfold Dk.appAll
            rw [AP, if_pos rfl])
          clear AP AA
          go_wp2
          go_roundg (n - i - 1)
          case measure => omega
          case rel => exact ⟨i + 1, ad1, _, _, _, _, _, _, _, _, by first | rfl | (simp; done), hlt, by omega, A7, V7, SM7, B7, K7, S7, D7⟩
        · have E2 := Aside0.mk (show res = (Dk.E0, ae) from by
            rw [E.out, hdr.out]
            conv => lhs; unfold Dk.appAll
            rcases AA.out with h | ⟨h, h2⟩
            · rw [← h, if_neg hae]
            · injection h2 with _ h2; rw [if_neg h, h2])
          clear AA
          have hae2 : (ae == 0) = false := beq_eq_false_iff_ne.2 hae
          have s0 := (blk_cell S7.out 0).trans rfl
          have s1 := (blk_cell S7.out 1).trans rfl
          have s2 := (blk_cell S7.out 2).trans rfl
          have s3 := (blk_cell S7.out 3).trans rfl
          have f0 := blk_frozen S7.out 0
          have f1 := blk_frozen S7.out 1
          have f2 := blk_frozen S7.out 2
          have f3 := blk_frozen S7.out 3
          go_wp2
          refine bodyPost_ret (results_ct rfl _ _ S 47 _ (0, 0) _ rfl (put47 S7.out _ _ _ _) Try.underlying47 rfl (by kernel_rfl)) rfl ?_
          rw [E2.out]
          exact ⟨_, rfl, (DR.zero _ 0).reads, below_put47 B7.out hTS _ _ _ _⟩
      · have E2 := Aside0.mk (show res = (d', 0) from by
          rw [E.out, hA.out, List.drop_of_length_le (by have := HN.out; omega)]
          rfl)
        have k0 := (blk_cell HK.out 0).trans rfl
        have k1 := (blk_cell HK.out 1).trans rfl
        have k2 := (blk_cell HK.out 2).trans rfl
        have k3 := (blk_cell HK.out 3).trans rfl
        have s0 := (blk_cell HS.out 0).trans rfl
        have s1 := (blk_cell HS.out 1).trans rfl
        have s2 := (blk_cell HS.out 2).trans rfl
        have s3 := (blk_cell HS.out 3).trans rfl
        have f0 := blk_frozen HS.out 0
        have f1 := blk_frozen HS.out 1
        have f2 := blk_frozen HS.out 2
        have f3 := blk_frozen HS.out 3
        go_wp2
        refine bodyPost_ret (results_ct rfl _ _ S 47 _ (0, 0) _ rfl (put47 HS.out _ _ _ _) Try.underlying47 rfl (by kernel_rfl)) rfl ?_
        rw [E2.out]
        exact ⟨_, rfl, HD.out.put47 HS.out ⟨_, _, _, rfl⟩ ⟨_, _, _, rfl⟩ ⟨_, _, _, rfl⟩ ⟨_, _, _, rfl⟩ _ _ _ _, below_put47 HB.out hTS _ _ _ _⟩
end Go.Proofs.Ytnaddmkaakdhoaa.J

end
