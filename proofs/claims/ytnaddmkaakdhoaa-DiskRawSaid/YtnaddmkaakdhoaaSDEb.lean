/-
  Texts of this claim, joined, without what the claim does not use: XO
-/
import Derived.Test.YtnaddmkaakdhoaaSCAn
import Derived.Test.YtnaddmkaakdhoaaSDEa
section
namespace Go.Proofs.Ytnaddmkaakdhoaa.J
open Go.RowKit Go.Proofs.YtnaddmkaakdhoaaW.PrintWords Go.Proofs.YtnaddmkaakdhoaaW.PrintLast Go.Proofs.YtnaddmkaakdhoaaW.PrintMore
set_option linter.unusedVariables false
set_option linter.unusedSimpArgs false
attribute [local go_sem ↓] Go.wp_at_zero Go.wp_at_succ
def Tp (w0 W : World) (g : Nat) : Prop := ∃ (s : List Int) (at_ : Int), IsS74 w0 W g s at_ ∧ s.length ≤ 120 ∧ 0 ≤ at_
theorem Tp.ge {w0 W : World} {g : Nat} (h : Tp w0 W g) : w0.heap.size ≤ g := by obtain ⟨s, a, h, _⟩ := h; exact h.ge
theorem Tp.lt {w0 W : World} {g : Nat} (h : Tp w0 W g) : g < W.heap.size := by obtain ⟨s, a, h, _⟩ := h; exact h.lt
theorem Tp.far {w0 W : World} {g : Nat} {p : Addr} (h : Tp w0 W g) (hne : g ≠ p.block) (u : Value) : Tp w0 (W.setCell p u) g := by
  obtain ⟨s, a, h, h1, h2⟩ := h
  exact ⟨s, a, h.far hne u, h1, h2⟩
theorem Tp.below {w0 W W' : World} {g : Nat} (h : Tp w0 W g) (hb : Below W.heap.size W W') : Tp w0 W' g := by
  obtain ⟨s, a, ⟨A0, c0, hb0, hg, hr0⟩, h1, h2⟩ := h
  exact ⟨s, a, ⟨A0, c0, blk_below hb0 hb, hg, hr0⟩, h1, h2⟩
theorem next47_calls (g : Nat) (n : Int) (w0 w : World) (hT : Tp w0 w g) (hB : Below w0.heap.size w0 w) (h1 : 1 ≤ n) (h2 : n ≤ 1000000) :
    Calls Try.prog 47 #[.pointer (some ⟨g, 0, none⟩), .int .i64 n] w fun e w' => ∃ r : Int, e = .returned (.int .i64 r) ∧ 0 ≤ r ∧ r < n ∧ Tp w0 w' g ∧ Below w0.heap.size w0 w' ∧ KeepBut w w' g none := by
  obtain ⟨s, a, hI, hs, ha⟩ := hT
  obtain ⟨v, a', hf, v0, v1, a0⟩ := tnext_f s a n (by omega) ha h1 h2
  refine (corporamade_Tape_Next.calls g s a n v a' w0 w hI hB hf).mono ?_
  rintro e w' ⟨rfl, h3, h4, h5⟩
  exact ⟨v, rfl, v0, v1, ⟨s, a', h3, hs, a0⟩, h4, h5⟩
theorem name46_calls (n : Int) (w : World) : Calls Try.prog 46 #[.int .i64 n] w fun e w' => ∃ s : ByteArray, e = .returned (.string s) ∧ s.size ≤ 3 ∧ Below w.heap.size w w' := by
  obtain ⟨v, hv, v0, v1⟩ := mod_f n 4 (by omega) (by omega)
  obtain ⟨s, hs, hz⟩ : ∃ s, corporalaw39_name.f n = some s ∧ s.size ≤ 3 := by
    unfold corporalaw39_name.f
    simp only [Option.bind_some, hv]
    rw [if_pos v0, if_pos (by simpa using v1)]
    have : v = 0 ∨ v = 1 ∨ v = 2 ∨ v = 3 := by omega
    rcases this with rfl | rfl | rfl | rfl
    · exact ⟨_, rfl, by decide⟩
    · exact ⟨_, rfl, by decide⟩
    · exact ⟨_, rfl, by decide⟩
    · exact ⟨_, rfl, by decide⟩
  refine (corporalaw39_name.calls n s w hs).mono ?_
  rintro e w' ⟨rfl, hb⟩
  exact ⟨s, rfl, hz, hb⟩
theorem put49 {W : World} {S : Nat} {b0 b1 b2 b3 : Value} (h : W.heap[S]? = some (.cells #[b0, b1, b2, b3] 49 (0, 0))) (a0 a1 a2 a3 : Value) : ((((W.setCell ⟨S, 0, none⟩ a0).setCell ⟨S, 1, none⟩ a1).setCell ⟨S, 2, none⟩ a2).setCell ⟨S, 3, none⟩ a3).heap[S]? = some (.cells #[a0, a1, a2, a3] 49 (0, 0)) :=
  blk_put (blk_put (blk_put (blk_put h 0 a0 rfl) 1 a1 rfl) 2 a2 rfl) 3 a3 rfl
theorem below_put4 {T : Nat} {w W : World} {S : Nat} (hb : Below T w W) (hT : T ≤ S) (a0 a1 a2 a3 : Value) : Below T w ((((W.setCell ⟨S, 0, none⟩ a0).setCell ⟨S, 1, none⟩ a1).setCell ⟨S, 2, none⟩ a2).setCell ⟨S, 3, none⟩ a3) :=
  below_put47 hb hT a0 a1 a2 a3
theorem Tp.put4 {w0 W : World} {g S : Nat} (h : Tp w0 W g) (hne : g ≠ S) (a0 a1 a2 a3 : Value) : Tp w0 ((((W.setCell ⟨S, 0, none⟩ a0).setCell ⟨S, 1, none⟩ a1).setCell ⟨S, 2, none⟩ a2).setCell ⟨S, 3, none⟩ a3) g :=
  (((h.far (p := ⟨S, 0, none⟩) hne a0).far (p := ⟨S, 1, none⟩) hne a1).far (p := ⟨S, 2, none⟩) hne a2).far (p := ⟨S, 3, none⟩) hne a3
theorem keep_put4 {w W : World} {g S : Nat} (h : KeepBut w W g none) (hS : w.heap.size ≤ S) (a0 a1 a2 a3 : Value) : KeepBut w ((((W.setCell ⟨S, 0, none⟩ a0).setCell ⟨S, 1, none⟩ a1).setCell ⟨S, 2, none⟩ a2).setCell ⟨S, 3, none⟩ a3) g none :=
  keep_far (p := ⟨S, 3, none⟩) (keep_far (p := ⟨S, 2, none⟩) (keep_far (p := ⟨S, 1, none⟩) (keep_far (p := ⟨S, 0, none⟩) h hS a0) hS a1) hS a2) hS a3
theorem keep_below {w W W' : World} {g : Nat} (h : KeepBut w W g none) (hb : Below W.heap.size W W') : KeepBut w W' g none := h.trans (KeepBut.of_below hb g none) (.inl rfl)
set_option maxHeartbeats 8000000 in
set_option maxRecDepth 100000 in
theorem op48_calls (g : Nat) (w0 w : World) (hT : Tp w0 w g) (hB : Below w0.heap.size w0 w) :
    Calls Try.prog 48 #[.pointer (some ⟨g, 0, none⟩)] w fun e w' => ∃ o : S49, e = .returned (.agg #[.int .i64 o.f0, .string o.f1, .string o.f2, .string o.f3]) ∧ o.f3.size ≤ 5 ∧ Tp w0 w' g ∧ Below w0.heap.size w0 w' ∧ KeepBut w w' g none := by
  have hgw := hT.lt
  have hw0 := hB.size
  obtain ⟨R, hR⟩ : ∃ R, R = w.heap.size := ⟨_, rfl⟩
  have hTR : w.heap.size ≤ R := by omega
  have hT0R : w0.heap.size ≤ R := by omega
  have hgR : g ≠ R := by omega
  go_enter Try.func48, Try.ntmps48
  go_wp2_with fail
  obtain ⟨oZ, hoZ⟩ : ∃ o : Obj, o = .cells #[.int .i64 0, .string ⟨#[]⟩, .string ⟨#[]⟩, .string ⟨#[]⟩] 49 := ⟨_, rfl⟩
  rw [← hoZ, ← hR]
  have b1 := below_alloc (Below.refl w.heap.size w) oZ
  have k1 := blk_new w oZ
  have HT := Aside0.mk (hT.below b1)
  have HB := Aside0.mk (hB.trans (b1.mono hw0))
  have HK := Aside0.mk (KeepBut.of_below b1 g none)
  rw [← hR] at k1
  have hzz : (w.alloc oZ).heap.size = R + 1 := by rw [hR]; simp
  generalize w.alloc oZ = w1 at HT HB HK k1 hzz ⊢
  subst hoZ
  have HR := Aside0.mk k1
  clear b1 k1 hT hB hR
  refine (next47_calls g 14 w0 w1 HT.out HB.out (by omega) (by omega)).mono ?_
  rintro e w2 ⟨r, rfl, r0, r14, h3, h4, h5⟩
  have HR2 := Aside0.mk (h5.blk HR.out (Ne.symm hgR) (by simp))
  have HK2 := Aside0.mk (HK.out.trans h5 (.inl rfl))
  have hz2 : R < w2.heap.size := blk_lt HR2.out
  clear HR HT HB HK hzz
  have HR := HR2
  have HK := HK2
  have HT := Aside0.mk h3
  have HB := Aside0.mk h4
  clear HR2 HK2 h3 h4 h5
  go_wp2_with fail
  refine (next47_calls g 4 w0 w2 HT.out HB.out (by omega) (by omega)).mono ?_
  rintro e w3 ⟨q, rfl, q0, q4, h3, h4, h5⟩
  have HR2 := Aside0.mk (h5.blk HR.out (Ne.symm hgR) (by simp))
  have HK2 := Aside0.mk (HK.out.trans h5 (.inl rfl))
  clear HR HT HB HK hz2
  have HR := HR2
  have HK := HK2
  have HT := Aside0.mk h3
  have HB := Aside0.mk h4
  clear HR2 HK2 h3 h4 h5
  go_wp2_with fail
  refine (name46_calls q w3).mono ?_
  rintro e w4 ⟨s, rfl, hs3, h4⟩
  have HR2 := Aside0.mk (blk_below HR.out h4)
  have HK2 := Aside0.mk (keep_below HK.out h4)
  have HT2 := Aside0.mk (HT.out.below h4)
  have HB2 := Aside0.mk (HB.out.trans (h4.mono HB.out.size))
  clear HR HT HB HK h4
  have HR := HR2
  have HK := HK2
  have HT := HT2
  have HB := HB2
  clear HR2 HK2 HT2 HB2
  go_upto_region 4 with fail
  obtain ⟨oX, hoX⟩ : ∃ o : Obj, o = .cells #[.int .i64 0, .string s, .string ⟨#[]⟩, .string ⟨#[]⟩] 49 := ⟨_, rfl⟩
  rw [← hoX]
  obtain ⟨O, hO⟩ : ∃ O, O = w4.heap.size := ⟨_, rfl⟩
  have b1 := below_alloc (Below.refl w4.heap.size w4) oX
  have k1 := blk_new w4 oX
  rw [← hO] at k1 ⊢
  have HR2 := Aside0.mk (blk_below HR.out b1)
  have HK2 := Aside0.mk (keep_below HK.out b1)
  have HT2 := Aside0.mk (HT.out.below b1)
  have HB2 := Aside0.mk (HB.out.trans (b1.mono HB.out.size))
  have hTO : w.heap.size ≤ O := by have := HK.out.1; omega
  have hT0O : w0.heap.size ≤ O := by omega
  have hgO : g ≠ O := by omega
  have hRO : R ≠ O := by have := blk_lt HR.out; omega
  generalize w4.alloc oX = w5 at HR2 HK2 HT2 HB2 k1 ⊢
  subst hoX
  have HO := Aside0.mk k1
  clear HR HT HB HK b1 k1 hO
  have HR := HR2
  have HK := HK2
  have HT := HT2
  have HB := HB2
  clear HR2 HK2 HT2 HB2
  have o0 := (blk_cell HO.out 0).trans rfl
  have o1 := (blk_cell HO.out 1).trans rfl
  have o2 := (blk_cell HO.out 2).trans rfl
  have o3 := (blk_cell HO.out 3).trans rfl
  have of0 := blk_frozen HO.out 0
  have of1 := blk_frozen HO.out 1
  have of2 := blk_frozen HO.out 2
  have of3 := blk_frozen HO.out 3
  by_cases c3 : r < 3
  · go_upto_region 16 with fail
    have HO2 := Aside0.mk (blk_put HO.out 0 (.int .i64 1) rfl)
    have HR2 := Aside0.mk (blk_far HR.out (p := ⟨O, 0, none⟩) hRO (.int .i64 1))
    have HT2 := Aside0.mk (Tp.far HT.out (p := ⟨O, 0, none⟩) hgO (.int .i64 1))
    have HB2 := Aside0.mk (Below.setCell HB.out (p := ⟨O, 0, none⟩) hT0O (.int .i64 1))
    have HK2 := Aside0.mk (keep_far HK.out (p := ⟨O, 0, none⟩) hTO (.int .i64 1))
    generalize (w5.setCell ⟨O, 0, none⟩ (.int .i64 1)) = w6 at HO2 HR2 HT2 HB2 HK2 ⊢
    clear HO HR HT HB HK o0 o1 o2 o3 of0 of1 of2 of3
    have HO := HO2
    have HR := HR2
    have HT := HT2
    have HB := HB2
    have HK := HK2
    clear HO2 HR2 HT2 HB2 HK2
    have s0 := (blk_cell HO.out 0).trans rfl
    have s1 := (blk_cell HO.out 1).trans rfl
    have s2 := (blk_cell HO.out 2).trans rfl
    have s3 := (blk_cell HO.out 3).trans rfl
    have r0 := (blk_cell HR.out 0).trans rfl
    have r1 := (blk_cell HR.out 1).trans rfl
    have r2 := (blk_cell HR.out 2).trans rfl
    have r3 := (blk_cell HR.out 3).trans rfl
    have f0 := blk_frozen HR.out 0
    have f1 := blk_frozen HR.out 1
    have f2 := blk_frozen HR.out 2
    have f3 := blk_frozen HR.out 3
    go_wp2
    refine bodyPost_ret (results_cell_row rfl _ _ R 49 _ (0, 0) _ rfl (put49 HR.out _ _ _ _) Try.underlying49 rfl (by kernel_rfl)) rfl ?_
    exact ⟨⟨_, _, _, _⟩, rfl, by first | exact hxs | (show 0 ≤ 5; omega), HT.out.put4 hgR _ _ _ _, below_put4 HB.out hT0R _ _ _ _, keep_put4 HK.out hTR _ _ _ _⟩
  by_cases c6 : r < 6
  · obtain ⟨s5, a5, hI, hs5, ha5⟩ := HT.out
    obtain ⟨v, a', hf, v0, v1, a0⟩ := tnext_f s5 a5 5 (by omega) ha5 (by omega) (by omega)
    have HI := Aside0.mk hI
    have HF := Aside0.mk hf
    clear hI hf HT
    go_upto_region 7 with fail
    obtain ⟨j, hj⟩ : ∃ j : Nat, v = (j : Int) := ⟨v.toNat, (Int.toNat_of_nonneg v0).symm⟩
    subst hj
    have hj5 : j < 5 := by omega
    obtain ⟨x, hx, hxs⟩ : ∃ x : ByteArray, (#[.string ⟨#[120]⟩, .string ⟨#[121, 122]⟩, .string ⟨#[]⟩, .string ⟨#[0, 113]⟩, .string ⟨#[49, 50, 51, 52, 53]⟩] : Array Value)[j]? = some (.string x) ∧ x.size ≤ 5 := by
      have hv : j = 0 ∨ j = 1 ∨ j = 2 ∨ j = 3 ∨ j = 4 := by omega
      rcases hv with rfl | rfl | rfl | rfl | rfl
      · exact ⟨_, rfl, by decide⟩
      · exact ⟨_, rfl, by decide⟩
      · exact ⟨_, rfl, by decide⟩
      · exact ⟨_, rfl, by decide⟩
      · exact ⟨_, rfl, by decide⟩
    have HX := Aside0.mk hx
    have hLB : ∀ W : World, (W.alloc (.cells #[.string ⟨#[120]⟩, .string ⟨#[121, 122]⟩, .string ⟨#[]⟩, .string ⟨#[0, 113]⟩, .string ⟨#[49, 50, 51, 52, 53]⟩] 9)).cell? ⟨W.heap.size, j, none⟩ = some (.string x) := fun W => (blk_cell (blk_new W (.cells #[.string ⟨#[120]⟩, .string ⟨#[121, 122]⟩, .string ⟨#[]⟩, .string ⟨#[0, 113]⟩, .string ⟨#[49, 50, 51, 52, 53]⟩] 9)) j).trans HX.out
    have hLj : ([.string ⟨#[120]⟩, .string ⟨#[121, 122]⟩, .string ⟨#[]⟩, .string ⟨#[0, 113]⟩, .string ⟨#[49, 50, 51, 52, 53]⟩] : List Value)[j]'(show j < 5 from hj5) = .string x := by
      have := HX.out
      simp only [List.getElem?_toArray] at this
      exact (List.getElem?_eq_some_iff.1 this).2
    have hv0 : (0 : Int) ≤ (j : Int) := v0
    have hv1 : (j : Int) < 5 := v1
    have hO5 := blk_lt HO.out
    have hO5a : O ≠ w5.heap.size := by omega
    have hO5b : w5.heap.size ≠ O := by omega
    have CL := Aside0.mk (fun W h1 h2 => corporamade_Tape_Next.calls g s5 a5 5 (j : Int) a' w0 W h1 h2 HF.out)
    clear hx v0 v1
    go_region_with
      (first
        | (go_at_call 47; refine (CL.out _ ?_ ?_).mono ?_; (first | exact IsS74.drew HI.out | exact IsS74.drew (IsS74.alloc HI.out _)); (first | exact below_drew1 HB.out | exact below_drew1 (below_alloc HB.out _)); rintro e w6 ⟨rfl, h3, h4, h5⟩; have H3 := Aside0.mk h3; have H4 := Aside0.mk h4; have H5 := Aside0.mk h5; clear h3 h4 h5; (try (have L0 := (show w6.heap[w5.heap.size]? = some (.cells #[.string ⟨#[120]⟩, .string ⟨#[121, 122]⟩, .string ⟨#[]⟩, .string ⟨#[0, 113]⟩, .string ⟨#[49, 50, 51, 52, 53]⟩] 9) from H5.out.blk (blk_drew (blk_new w5 (.cells #[.string ⟨#[120]⟩, .string ⟨#[121, 122]⟩, .string ⟨#[]⟩, .string ⟨#[0, 113]⟩, .string ⟨#[49, 50, 51, 52, 53]⟩] 9))) (by have := HI.out.lt; show w5.heap.size ≠ g; omega) (by simp)); have l0 := (blk_cell L0 j).trans HX.out; clear L0)); (try (have HO6 := Aside0.mk (show w6.heap[O]? = some (.cells #[.int .i64 0, .string s, .string ⟨#[]⟩, .string ⟨#[]⟩] 49 (0, 0)) from by first | exact H5.out.blk (blk_drew HO.out) (Ne.symm hgO) (by simp) | exact H5.out.blk (blk_drew (blk_alloc HO.out _)) (Ne.symm hgO) (by simp)))); (try (have HR6 := Aside0.mk (show w6.heap[R]? = some (.cells #[.int .i64 0, .string ⟨#[]⟩, .string ⟨#[]⟩, .string ⟨#[]⟩] 49 (0, 0)) from by first | exact H5.out.blk (blk_drew HR.out) (Ne.symm hgR) (by simp) | exact H5.out.blk (blk_drew (blk_alloc HR.out _)) (Ne.symm hgR) (by simp)))); (try (have HK6 := Aside0.mk (show KeepBut w w6 g none from by first | exact (keep_drew HK.out).trans H5.out (.inl rfl) | exact (keep_drew (keep_alloc HK.out _)).trans H5.out (.inl rfl)))); (try (have p0 := (blk_cell HO6.out 0).trans rfl)); (try (have p1 := (blk_cell HO6.out 1).trans rfl)); (try (have p2 := (blk_cell HO6.out 2).trans rfl)); (try (have p3 := (blk_cell HO6.out 3).trans rfl)); (try (have pf0 := blk_frozen HO6.out 0)); (try (have pf1 := blk_frozen HO6.out 1)); (try (have pf2 := blk_frozen HO6.out 2)); (try (have pf3 := blk_frozen HO6.out 3)); (try (have hO6 := blk_lt HO6.out)); (try (have hO6a : O ≠ w6.heap.size := by omega)); (try (have hO6b : w6.heap.size ≠ O := by omega))))
    all_goals
      clear HO HR HK HB o0 o1 o2 o3 of0 of1 of2 of3
      go_upto_region 16 with fail
      clear CL hO5 hO5a hO5b hLB hLj hv0 hv1 p0 p1 p2 p3 pf0 pf1 pf2 pf3
      have HT := Aside0.mk (show Tp w0 w6 g from ⟨s5, a', H3.out, hs5, a0⟩)
      have HO2 := Aside0.mk (blk_put (blk_put HO6.out 0 (.int .i64 2) rfl) 3 (.string x) rfl)
      have HR2 := Aside0.mk (blk_far (blk_far HR6.out (p := ⟨O, 0, none⟩) hRO (.int .i64 2)) (p := ⟨O, 3, none⟩) hRO (.string x))
      have HT2 := Aside0.mk (Tp.far (p := ⟨O, 3, none⟩) (Tp.far (p := ⟨O, 0, none⟩) HT.out hgO (.int .i64 2)) hgO (.string x))
      have HB2 := Aside0.mk (Below.setCell (p := ⟨O, 3, none⟩) (Below.setCell (p := ⟨O, 0, none⟩) H4.out hT0O (.int .i64 2)) hT0O (.string x))
      have HK2 := Aside0.mk (keep_far (p := ⟨O, 3, none⟩) (keep_far (p := ⟨O, 0, none⟩) HK6.out hTO (.int .i64 2)) hTO (.string x))
      generalize (w6.setCell ⟨O, 0, none⟩ (.int .i64 2)).setCell ⟨O, 3, none⟩ (.string x) = w7 at HO2 HR2 HT2 HB2 HK2 ⊢
      clear HO6 HR6 HK6 HT H3 H4 H5 hO6 hO6a hO6b
      first
      | (rw [show w7.alloc (.cells #[.string ⟨#[120]⟩, .string ⟨#[121, 122]⟩, .string ⟨#[]⟩, .string ⟨#[0, 113]⟩, .string ⟨#[49, 50, 51, 52, 53]⟩] 9) = w7.alloc (.cells #[.string ⟨#[120]⟩, .string ⟨#[121, 122]⟩, .string ⟨#[]⟩, .string ⟨#[0, 113]⟩, .string ⟨#[49, 50, 51, 52, 53]⟩] 9) from rfl]
         have b1 := below_alloc (Below.refl w7.heap.size w7) (.cells #[.string ⟨#[120]⟩, .string ⟨#[121, 122]⟩, .string ⟨#[]⟩, .string ⟨#[0, 113]⟩, .string ⟨#[49, 50, 51, 52, 53]⟩] 9)
         have HO := Aside0.mk (blk_alloc HO2.out (.cells #[.string ⟨#[120]⟩, .string ⟨#[121, 122]⟩, .string ⟨#[]⟩, .string ⟨#[0, 113]⟩, .string ⟨#[49, 50, 51, 52, 53]⟩] 9))
         have HR := Aside0.mk (blk_alloc HR2.out (.cells #[.string ⟨#[120]⟩, .string ⟨#[121, 122]⟩, .string ⟨#[]⟩, .string ⟨#[0, 113]⟩, .string ⟨#[49, 50, 51, 52, 53]⟩] 9))
         have HT := Aside0.mk (HT2.out.below b1)
         have HB := Aside0.mk (HB2.out.trans (b1.mono HB2.out.size))
         have HK := Aside0.mk (keep_below HK2.out b1)
         clear HO2 HR2 HT2 HB2 HK2 b1
         generalize w7.alloc (.cells #[.string ⟨#[120]⟩, .string ⟨#[121, 122]⟩, .string ⟨#[]⟩, .string ⟨#[0, 113]⟩, .string ⟨#[49, 50, 51, 52, 53]⟩] 9) = w8 at HO HR HT HB HK ⊢
         have s0 := (blk_cell HO.out 0).trans rfl
         have s1 := (blk_cell HO.out 1).trans rfl
         have s2 := (blk_cell HO.out 2).trans rfl
         have s3 := (blk_cell HO.out 3).trans rfl
         have r0 := (blk_cell HR.out 0).trans rfl
         have r1 := (blk_cell HR.out 1).trans rfl
         have r2 := (blk_cell HR.out 2).trans rfl
         have r3 := (blk_cell HR.out 3).trans rfl
         have f0 := blk_frozen HR.out 0
         have f1 := blk_frozen HR.out 1
         have f2 := blk_frozen HR.out 2
         have f3 := blk_frozen HR.out 3
         go_wp2
         refine bodyPost_ret (results_cell_row rfl _ _ R 49 _ (0, 0) _ rfl (put49 HR.out _ _ _ _) Try.underlying49 rfl (by kernel_rfl)) rfl ?_
         exact ⟨⟨_, _, _, _⟩, rfl, by first | exact hxs | (show 0 ≤ 5; omega), HT.out.put4 hgR _ _ _ _, below_put4 HB.out hT0R _ _ _ _, keep_put4 HK.out hTR _ _ _ _⟩)
      | (have HO := HO2
         have HR := HR2
         have HT := HT2
         have HB := HB2
         have HK := HK2
         clear HO2 HR2 HT2 HB2 HK2
         have s0 := (blk_cell HO.out 0).trans rfl
         have s1 := (blk_cell HO.out 1).trans rfl
         have s2 := (blk_cell HO.out 2).trans rfl
         have s3 := (blk_cell HO.out 3).trans rfl
         have r0 := (blk_cell HR.out 0).trans rfl
         have r1 := (blk_cell HR.out 1).trans rfl
         have r2 := (blk_cell HR.out 2).trans rfl
         have r3 := (blk_cell HR.out 3).trans rfl
         have f0 := blk_frozen HR.out 0
         have f1 := blk_frozen HR.out 1
         have f2 := blk_frozen HR.out 2
         have f3 := blk_frozen HR.out 3
         go_wp2
         refine bodyPost_ret (results_cell_row rfl _ _ R 49 _ (0, 0) _ rfl (put49 HR.out _ _ _ _) Try.underlying49 rfl (by kernel_rfl)) rfl ?_
         exact ⟨⟨_, _, _, _⟩, rfl, by first | exact hxs | (show 0 ≤ 5; omega), HT.out.put4 hgR _ _ _ _, below_put4 HB.out hT0R _ _ _ _, keep_put4 HK.out hTR _ _ _ _⟩)
  by_cases c8 : r < 8
  · go_upto_region 16 with fail
    have HO2 := Aside0.mk (blk_put HO.out 0 (.int .i64 3) rfl)
    have HR2 := Aside0.mk (blk_far HR.out (p := ⟨O, 0, none⟩) hRO (.int .i64 3))
    have HT2 := Aside0.mk (Tp.far HT.out (p := ⟨O, 0, none⟩) hgO (.int .i64 3))
    have HB2 := Aside0.mk (Below.setCell HB.out (p := ⟨O, 0, none⟩) hT0O (.int .i64 3))
    have HK2 := Aside0.mk (keep_far HK.out (p := ⟨O, 0, none⟩) hTO (.int .i64 3))
    generalize (w5.setCell ⟨O, 0, none⟩ (.int .i64 3)) = w6 at HO2 HR2 HT2 HB2 HK2 ⊢
    clear HO HR HT HB HK o0 o1 o2 o3 of0 of1 of2 of3
    have HO := HO2
    have HR := HR2
    have HT := HT2
    have HB := HB2
    have HK := HK2
    clear HO2 HR2 HT2 HB2 HK2
    have s0 := (blk_cell HO.out 0).trans rfl
    have s1 := (blk_cell HO.out 1).trans rfl
    have s2 := (blk_cell HO.out 2).trans rfl
    have s3 := (blk_cell HO.out 3).trans rfl
    have r0 := (blk_cell HR.out 0).trans rfl
    have r1 := (blk_cell HR.out 1).trans rfl
    have r2 := (blk_cell HR.out 2).trans rfl
    have r3 := (blk_cell HR.out 3).trans rfl
    have f0 := blk_frozen HR.out 0
    have f1 := blk_frozen HR.out 1
    have f2 := blk_frozen HR.out 2
    have f3 := blk_frozen HR.out 3
    go_wp2
    refine bodyPost_ret (results_cell_row rfl _ _ R 49 _ (0, 0) _ rfl (put49 HR.out _ _ _ _) Try.underlying49 rfl (by kernel_rfl)) rfl ?_
    exact ⟨⟨_, _, _, _⟩, rfl, by first | exact hxs | (show 0 ≤ 5; omega), HT.out.put4 hgR _ _ _ _, below_put4 HB.out hT0R _ _ _ _, keep_put4 HK.out hTR _ _ _ _⟩
  by_cases c10 : r < 10
  · go_wp2_with fail
    refine (next47_calls g 4 w0 w5 HT.out HB.out (by omega) (by omega)).mono ?_
    rintro e w6 ⟨q2, rfl, q20, q24, h3, h4, h5⟩
    have HO2 := Aside0.mk (h5.blk HO.out (Ne.symm hgO) (by simp))
    have HR2 := Aside0.mk (h5.blk HR.out (Ne.symm hgR) (by simp))
    have HK2 := Aside0.mk (HK.out.trans h5 (.inl rfl))
    clear HO HR HT HB HK o0 o1 o2 o3 of0 of1 of2 of3
    have HO := HO2
    have HR := HR2
    have HK := HK2
    have HT := Aside0.mk h3
    have HB := Aside0.mk h4
    clear HO2 HR2 HK2 h3 h4 h5
    go_wp2_with fail
    refine (name46_calls q2 w6).mono ?_
    rintro e w7 ⟨s2, rfl, hs32, h4⟩
    have HO2 := Aside0.mk (blk_below HO.out h4)
    have HR2 := Aside0.mk (blk_below HR.out h4)
    have HK2 := Aside0.mk (keep_below HK.out h4)
    have HT2 := Aside0.mk (HT.out.below h4)
    have HB2 := Aside0.mk (HB.out.trans (h4.mono HB.out.size))
    clear HO HR HT HB HK
    have HO := HO2
    have HR := HR2
    have HK := HK2
    have HT := HT2
    have HB := HB2
    clear HO2 HR2 HK2 HT2 HB2 h4
    have o0 := (blk_cell HO.out 0).trans rfl
    have o1 := (blk_cell HO.out 1).trans rfl
    have o2 := (blk_cell HO.out 2).trans rfl
    have o3 := (blk_cell HO.out 3).trans rfl
    have of0 := blk_frozen HO.out 0
    have of1 := blk_frozen HO.out 1
    have of2 := blk_frozen HO.out 2
    have of3 := blk_frozen HO.out 3
    go_upto_region 16 with fail
    have HO2 := Aside0.mk (blk_put (blk_put HO.out 0 (.int .i64 4) rfl) 2 (.string s2) rfl)
    have HR2 := Aside0.mk (blk_far (blk_far HR.out (p := ⟨O, 0, none⟩) hRO (.int .i64 4)) (p := ⟨O, 2, none⟩) hRO (.string s2))
    have HT2 := Aside0.mk (Tp.far (Tp.far HT.out (p := ⟨O, 0, none⟩) hgO (.int .i64 4)) (p := ⟨O, 2, none⟩) hgO (.string s2))
    have HB2 := Aside0.mk (Below.setCell (Below.setCell HB.out (p := ⟨O, 0, none⟩) hT0O (.int .i64 4)) (p := ⟨O, 2, none⟩) hT0O (.string s2))
    have HK2 := Aside0.mk (keep_far (keep_far HK.out (p := ⟨O, 0, none⟩) hTO (.int .i64 4)) (p := ⟨O, 2, none⟩) hTO (.string s2))
    generalize ((w7.setCell ⟨O, 0, none⟩ (.int .i64 4)).setCell ⟨O, 2, none⟩ (.string s2)) = w8 at HO2 HR2 HT2 HB2 HK2 ⊢
    clear HO HR HT HB HK o0 o1 o2 o3 of0 of1 of2 of3
    have HO := HO2
    have HR := HR2
    have HT := HT2
    have HB := HB2
    have HK := HK2
    clear HO2 HR2 HT2 HB2 HK2
    have s0 := (blk_cell HO.out 0).trans rfl
    have s1 := (blk_cell HO.out 1).trans rfl
    have s2 := (blk_cell HO.out 2).trans rfl
    have s3 := (blk_cell HO.out 3).trans rfl
    have r0 := (blk_cell HR.out 0).trans rfl
    have r1 := (blk_cell HR.out 1).trans rfl
    have r2 := (blk_cell HR.out 2).trans rfl
    have r3 := (blk_cell HR.out 3).trans rfl
    have f0 := blk_frozen HR.out 0
    have f1 := blk_frozen HR.out 1
    have f2 := blk_frozen HR.out 2
    have f3 := blk_frozen HR.out 3
    go_wp2
    refine bodyPost_ret (results_cell_row rfl _ _ R 49 _ (0, 0) _ rfl (put49 HR.out _ _ _ _) Try.underlying49 rfl (by kernel_rfl)) rfl ?_
    exact ⟨⟨_, _, _, _⟩, rfl, by first | exact hxs | (show 0 ≤ 5; omega), HT.out.put4 hgR _ _ _ _, below_put4 HB.out hT0R _ _ _ _, keep_put4 HK.out hTR _ _ _ _⟩
  by_cases c11 : r = 10
  · subst c11
    go_upto_region 16 with fail
    have HO2 := Aside0.mk (blk_put HO.out 0 (.int .i64 5) rfl)
    have HR2 := Aside0.mk (blk_far HR.out (p := ⟨O, 0, none⟩) hRO (.int .i64 5))
    have HT2 := Aside0.mk (Tp.far HT.out (p := ⟨O, 0, none⟩) hgO (.int .i64 5))
    have HB2 := Aside0.mk (Below.setCell HB.out (p := ⟨O, 0, none⟩) hT0O (.int .i64 5))
    have HK2 := Aside0.mk (keep_far HK.out (p := ⟨O, 0, none⟩) hTO (.int .i64 5))
    generalize (w5.setCell ⟨O, 0, none⟩ (.int .i64 5)) = w6 at HO2 HR2 HT2 HB2 HK2 ⊢
    clear HO HR HT HB HK o0 o1 o2 o3 of0 of1 of2 of3
    have HO := HO2
    have HR := HR2
    have HT := HT2
    have HB := HB2
    have HK := HK2
    clear HO2 HR2 HT2 HB2 HK2
    have s0 := (blk_cell HO.out 0).trans rfl
    have s1 := (blk_cell HO.out 1).trans rfl
    have s2 := (blk_cell HO.out 2).trans rfl
    have s3 := (blk_cell HO.out 3).trans rfl
    have r0 := (blk_cell HR.out 0).trans rfl
    have r1 := (blk_cell HR.out 1).trans rfl
    have r2 := (blk_cell HR.out 2).trans rfl
    have r3 := (blk_cell HR.out 3).trans rfl
    have f0 := blk_frozen HR.out 0
    have f1 := blk_frozen HR.out 1
    have f2 := blk_frozen HR.out 2
    have f3 := blk_frozen HR.out 3
    go_wp2
    refine bodyPost_ret (results_cell_row rfl _ _ R 49 _ (0, 0) _ rfl (put49 HR.out _ _ _ _) Try.underlying49 rfl (by kernel_rfl)) rfl ?_
    exact ⟨⟨_, _, _, _⟩, rfl, by first | exact hxs | (show 0 ≤ 5; omega), HT.out.put4 hgR _ _ _ _, below_put4 HB.out hT0R _ _ _ _, keep_put4 HK.out hTR _ _ _ _⟩
  have c11b : (r == 10) = false := beq_eq_false_iff_ne.2 c11
  by_cases c13 : r < 13
  · go_upto_region 16 with fail
    have HO2 := Aside0.mk (blk_put (blk_put (blk_put (blk_put HO.out 0 (.int .i64 6) rfl) 1 (.string ⟨#[]⟩) rfl) 2 (.string ⟨#[]⟩) rfl) 3 (.string ⟨#[]⟩) rfl)
    have HR2 := Aside0.mk (blk_far (blk_far (blk_far (blk_far HR.out (p := ⟨O, 0, none⟩) hRO (.int .i64 6)) (p := ⟨O, 1, none⟩) hRO (.string ⟨#[]⟩)) (p := ⟨O, 2, none⟩) hRO (.string ⟨#[]⟩)) (p := ⟨O, 3, none⟩) hRO (.string ⟨#[]⟩))
    have HT2 := Aside0.mk (Tp.far (Tp.far (Tp.far (Tp.far HT.out (p := ⟨O, 0, none⟩) hgO (.int .i64 6)) (p := ⟨O, 1, none⟩) hgO (.string ⟨#[]⟩)) (p := ⟨O, 2, none⟩) hgO (.string ⟨#[]⟩)) (p := ⟨O, 3, none⟩) hgO (.string ⟨#[]⟩))
    have HB2 := Aside0.mk (Below.setCell (Below.setCell (Below.setCell (Below.setCell HB.out (p := ⟨O, 0, none⟩) hT0O (.int .i64 6)) (p := ⟨O, 1, none⟩) hT0O (.string ⟨#[]⟩)) (p := ⟨O, 2, none⟩) hT0O (.string ⟨#[]⟩)) (p := ⟨O, 3, none⟩) hT0O (.string ⟨#[]⟩))
    have HK2 := Aside0.mk (keep_far (keep_far (keep_far (keep_far HK.out (p := ⟨O, 0, none⟩) hTO (.int .i64 6)) (p := ⟨O, 1, none⟩) hTO (.string ⟨#[]⟩)) (p := ⟨O, 2, none⟩) hTO (.string ⟨#[]⟩)) (p := ⟨O, 3, none⟩) hTO (.string ⟨#[]⟩))
    generalize ((((w5.setCell ⟨O, 0, none⟩ (.int .i64 6)).setCell ⟨O, 1, none⟩ (.string ⟨#[]⟩)).setCell ⟨O, 2, none⟩ (.string ⟨#[]⟩)).setCell ⟨O, 3, none⟩ (.string ⟨#[]⟩)) = w6 at HO2 HR2 HT2 HB2 HK2 ⊢
    clear HO HR HT HB HK o0 o1 o2 o3 of0 of1 of2 of3
    have HO := HO2
    have HR := HR2
    have HT := HT2
    have HB := HB2
    have HK := HK2
    clear HO2 HR2 HT2 HB2 HK2
    have s0 := (blk_cell HO.out 0).trans rfl
    have s1 := (blk_cell HO.out 1).trans rfl
    have s2 := (blk_cell HO.out 2).trans rfl
    have s3 := (blk_cell HO.out 3).trans rfl
    have r0 := (blk_cell HR.out 0).trans rfl
    have r1 := (blk_cell HR.out 1).trans rfl
    have r2 := (blk_cell HR.out 2).trans rfl
    have r3 := (blk_cell HR.out 3).trans rfl
    have f0 := blk_frozen HR.out 0
    have f1 := blk_frozen HR.out 1
    have f2 := blk_frozen HR.out 2
    have f3 := blk_frozen HR.out 3
    go_wp2
    refine bodyPost_ret (results_cell_row rfl _ _ R 49 _ (0, 0) _ rfl (put49 HR.out _ _ _ _) Try.underlying49 rfl (by kernel_rfl)) rfl ?_
    exact ⟨⟨_, _, _, _⟩, rfl, by first | exact hxs | (show 0 ≤ 5; omega), HT.out.put4 hgR _ _ _ _, below_put4 HB.out hT0R _ _ _ _, keep_put4 HK.out hTR _ _ _ _⟩
  obtain ⟨s5, a5, hI, hs5, ha5⟩ := HT.out
  obtain ⟨q1, a6, hf, u0, u1, ha6⟩ := tnext_f s5 a5 8 (by omega) ha5 (by omega) (by omega)
  obtain ⟨v, a7, hf2, v0, v1, ha7⟩ := tnext_f s5 a6 3 (by omega) ha6 (by omega) (by omega)
  have HI := Aside0.mk hI
  have HF := Aside0.mk hf
  have HF2 := Aside0.mk hf2
  clear hI hf hf2 HT
  go_upto_region 3 with fail
  obtain ⟨j, hj⟩ : ∃ j : Nat, v = (j : Int) := ⟨v.toNat, (Int.toNat_of_nonneg v0).symm⟩
  subst hj
  have hj5 : j < 3 := by omega
  obtain ⟨x, hx, hxs⟩ : ∃ x : ByteArray, (#[.string ⟨#[]⟩, .string ⟨#[97]⟩, .string ⟨#[47]⟩] : Array Value)[j]? = some (.string x) ∧ x.size ≤ 5 := by
    have hv : j = 0 ∨ j = 1 ∨ j = 2 := by omega
    rcases hv with rfl | rfl | rfl
    · exact ⟨_, rfl, by decide⟩
    · exact ⟨_, rfl, by decide⟩
    · exact ⟨_, rfl, by decide⟩
  have HX := Aside0.mk hx
  have hLB : ∀ W : World, (W.alloc (.cells #[.string ⟨#[]⟩, .string ⟨#[97]⟩, .string ⟨#[47]⟩] 9)).cell? ⟨W.heap.size, j, none⟩ = some (.string x) := fun W => (blk_cell (blk_new W (.cells #[.string ⟨#[]⟩, .string ⟨#[97]⟩, .string ⟨#[47]⟩] 9)) j).trans HX.out
  have hLj : ([.string ⟨#[]⟩, .string ⟨#[97]⟩, .string ⟨#[47]⟩] : List Value)[j]'(show j < 3 from hj5) = .string x := by
    have := HX.out
    simp only [List.getElem?_toArray] at this
    exact (List.getElem?_eq_some_iff.1 this).2
  have hv0 : (0 : Int) ≤ (j : Int) := v0
  have hv1 : (j : Int) < 3 := v1
  have hO5 := blk_lt HO.out
  have hO5a : O ≠ w5.heap.size := Nat.ne_of_lt hO5
  have hO5b : w5.heap.size ≠ O := Nat.ne_of_gt hO5
  have CL1 := Aside0.mk (fun W h1 h2 => corporamade_Tape_Next.calls g s5 a5 8 q1 a6 w0 W h1 h2 HF.out)
  have CL2 := Aside0.mk (fun W h1 h2 => corporamade_Tape_Next.calls g s5 a6 3 (j : Int) a7 w0 W h1 h2 HF2.out)
  clear hx v0 v1
  have TK1 := Aside0.mk trivial
  go_region_with
    (first
      | (clear TK1; go_at_call 47; refine (CL1.out _ ?_ ?_).mono ?_; (first | exact IsS74.drew HI.out | exact IsS74.drew (IsS74.alloc HI.out _)); (first | exact below_drew1 HB.out | exact below_drew1 (below_alloc HB.out _)); rintro e w6 ⟨rfl, h3, h4, h5⟩; have H3 := Aside0.mk h3; have H4 := Aside0.mk h4; have H5 := Aside0.mk h5; clear h3 h4 h5; (try (have L0 := Aside0.mk (show w6.heap[w5.heap.size]? = some (.cells #[.string ⟨#[]⟩, .string ⟨#[97]⟩, .string ⟨#[47]⟩] 9) from H5.out.blk (blk_drew (blk_new w5 (.cells #[.string ⟨#[]⟩, .string ⟨#[97]⟩, .string ⟨#[47]⟩] 9))) (by have := HI.out.lt; show w5.heap.size ≠ g; omega) (by simp)))); have HO6 := Aside0.mk (show w6.heap[O]? = some (.cells #[.int .i64 0, .string s, .string ⟨#[]⟩, .string ⟨#[]⟩] 49 (0, 0)) from by first | exact H5.out.blk (blk_drew HO.out) (Ne.symm hgO) (by simp) | exact H5.out.blk (blk_drew (blk_alloc HO.out _)) (Ne.symm hgO) (by simp)); have HR6 := Aside0.mk (show w6.heap[R]? = some (.cells #[.int .i64 0, .string ⟨#[]⟩, .string ⟨#[]⟩, .string ⟨#[]⟩] 49 (0, 0)) from by first | exact H5.out.blk (blk_drew HR.out) (Ne.symm hgR) (by simp) | exact H5.out.blk (blk_drew (blk_alloc HR.out _)) (Ne.symm hgR) (by simp)); have HK6 := Aside0.mk (show KeepBut w w6 g none from by first | exact (keep_drew HK.out).trans H5.out (.inl rfl) | exact (keep_drew (keep_alloc HK.out _)).trans H5.out (.inl rfl)))
      | (go_at_call 47; refine (CL2.out _ ?_ ?_).mono ?_; (first | exact H3.out | exact IsS74.alloc H3.out _); (first | exact H4.out | exact below_alloc H4.out _); rintro e w7 ⟨rfl, h3, h4, h5⟩; have H33 := Aside0.mk h3; have H44 := Aside0.mk h4; have H55 := Aside0.mk h5; clear h3 h4 h5; (try (have l0 := (blk_cell (show w7.heap[w5.heap.size]? = some (.cells #[.string ⟨#[]⟩, .string ⟨#[97]⟩, .string ⟨#[47]⟩] 9) from H55.out.blk L0.out (by have := HI.out.lt; show w5.heap.size ≠ g; omega) (by simp)) j).trans HX.out)); (try (have l0 := (blk_cell (show w7.heap[w6.heap.size]? = some (.cells #[.string ⟨#[]⟩, .string ⟨#[97]⟩, .string ⟨#[47]⟩] 9) from H55.out.blk (blk_new w6 (.cells #[.string ⟨#[]⟩, .string ⟨#[97]⟩, .string ⟨#[47]⟩] 9)) (by have := H3.out.lt; show w6.heap.size ≠ g; omega) (by simp)) j).trans HX.out)); have HO7 := Aside0.mk (show w7.heap[O]? = some (.cells #[.int .i64 0, .string s, .string ⟨#[]⟩, .string ⟨#[]⟩] 49 (0, 0)) from by first | exact H55.out.blk HO6.out (Ne.symm hgO) (by simp) | exact H55.out.blk (blk_alloc HO6.out _) (Ne.symm hgO) (by simp)); have HR7 := Aside0.mk (show w7.heap[R]? = some (.cells #[.int .i64 0, .string ⟨#[]⟩, .string ⟨#[]⟩, .string ⟨#[]⟩] 49 (0, 0)) from by first | exact H55.out.blk HR6.out (Ne.symm hgR) (by simp) | exact H55.out.blk (blk_alloc HR6.out _) (Ne.symm hgR) (by simp)); have HK7 := Aside0.mk (show KeepBut w w7 g none from by first | exact HK6.out.trans H55.out (.inl rfl) | exact (keep_alloc HK6.out _).trans H55.out (.inl rfl)); have p0 := (blk_cell HO7.out 0).trans rfl; have p1 := (blk_cell HO7.out 1).trans rfl; have p2 := (blk_cell HO7.out 2).trans rfl; have p3 := (blk_cell HO7.out 3).trans rfl; have pf0 := blk_frozen HO7.out 0; have pf1 := blk_frozen HO7.out 1; have pf2 := blk_frozen HO7.out 2; have pf3 := blk_frozen HO7.out 3; have hO7 := blk_lt HO7.out; have hO6 := blk_lt HO6.out; have hO6a : O ≠ w6.heap.size := Nat.ne_of_lt hO6; have hO6b : w6.heap.size ≠ O := Nat.ne_of_gt hO6; have hO7a : O ≠ w7.heap.size := Nat.ne_of_lt hO7; have hO7b : w7.heap.size ≠ O := Nat.ne_of_gt hO7))
  all_goals
    clear HO HR HK HB o0 o1 o2 o3 of0 of1 of2 of3
    go_upto_region 16 with fail
    clear CL1 CL2 hO5 hO5a hO5b hLB hLj hv0 hv1 p0 p1 p2 p3 pf0 pf1 pf2 pf3
    have HT := Aside0.mk (show Tp w0 w7 g from ⟨s5, a7, H33.out, hs5, ha7⟩)
    have HO2 := Aside0.mk (blk_put (blk_put HO7.out 0 (.int .i64 q1) rfl) 2 (.string x) rfl)
    have HR2 := Aside0.mk (blk_far (blk_far HR7.out (p := ⟨O, 0, none⟩) hRO (.int .i64 q1)) (p := ⟨O, 2, none⟩) hRO (.string x))
    have HT2 := Aside0.mk (Tp.far (p := ⟨O, 2, none⟩) (Tp.far (p := ⟨O, 0, none⟩) HT.out hgO (.int .i64 q1)) hgO (.string x))
    have HB2 := Aside0.mk (Below.setCell (p := ⟨O, 2, none⟩) (Below.setCell (p := ⟨O, 0, none⟩) H44.out hT0O (.int .i64 q1)) hT0O (.string x))
    have HK2 := Aside0.mk (keep_far (p := ⟨O, 2, none⟩) (keep_far (p := ⟨O, 0, none⟩) HK7.out hTO (.int .i64 q1)) hTO (.string x))
    generalize (w7.setCell ⟨O, 0, none⟩ (.int .i64 q1)).setCell ⟨O, 2, none⟩ (.string x) = w8 at HO2 HR2 HT2 HB2 HK2 ⊢
    clear HO7 HR7 HK7 HT H33 H44 H55 H3 H4 H5 hO7 hO7a hO7b hO6 hO6a hO6b
    first
    | (rw [show w8.alloc (.cells #[.string ⟨#[]⟩, .string ⟨#[97]⟩, .string ⟨#[47]⟩] 9) = w8.alloc (.cells #[.string ⟨#[]⟩, .string ⟨#[97]⟩, .string ⟨#[47]⟩] 9) from rfl]
       have b1 := below_alloc (Below.refl w8.heap.size w8) (.cells #[.string ⟨#[]⟩, .string ⟨#[97]⟩, .string ⟨#[47]⟩] 9)
       have HO := Aside0.mk (blk_alloc HO2.out (.cells #[.string ⟨#[]⟩, .string ⟨#[97]⟩, .string ⟨#[47]⟩] 9))
       have HR := Aside0.mk (blk_alloc HR2.out (.cells #[.string ⟨#[]⟩, .string ⟨#[97]⟩, .string ⟨#[47]⟩] 9))
       have HT := Aside0.mk (HT2.out.below b1)
       have HB := Aside0.mk (HB2.out.trans (b1.mono HB2.out.size))
       have HK := Aside0.mk (keep_below HK2.out b1)
       clear HO2 HR2 HT2 HB2 HK2 b1
       generalize w8.alloc (.cells #[.string ⟨#[]⟩, .string ⟨#[97]⟩, .string ⟨#[47]⟩] 9) = w9 at HO HR HT HB HK ⊢
       have s0 := (blk_cell HO.out 0).trans rfl
       have s1 := (blk_cell HO.out 1).trans rfl
       have s2 := (blk_cell HO.out 2).trans rfl
       have s3 := (blk_cell HO.out 3).trans rfl
       have r0 := (blk_cell HR.out 0).trans rfl
       have r1 := (blk_cell HR.out 1).trans rfl
       have r2 := (blk_cell HR.out 2).trans rfl
       have r3 := (blk_cell HR.out 3).trans rfl
       have f0 := blk_frozen HR.out 0
       have f1 := blk_frozen HR.out 1
       have f2 := blk_frozen HR.out 2
       have f3 := blk_frozen HR.out 3
       go_wp2
       refine bodyPost_ret (results_cell_row rfl _ _ R 49 _ (0, 0) _ rfl (put49 HR.out _ _ _ _) Try.underlying49 rfl (by kernel_rfl)) rfl ?_
       exact ⟨⟨_, _, _, _⟩, rfl, by first | exact hxs | (show 0 ≤ 5; omega), HT.out.put4 hgR _ _ _ _, below_put4 HB.out hT0R _ _ _ _, keep_put4 HK.out hTR _ _ _ _⟩)
    | (have HO := HO2
       have HR := HR2
       have HT := HT2
       have HB := HB2
       have HK := HK2
       clear HO2 HR2 HT2 HB2 HK2
       have s0 := (blk_cell HO.out 0).trans rfl
       have s1 := (blk_cell HO.out 1).trans rfl
       have s2 := (blk_cell HO.out 2).trans rfl
       have s3 := (blk_cell HO.out 3).trans rfl
       have r0 := (blk_cell HR.out 0).trans rfl
       have r1 := (blk_cell HR.out 1).trans rfl
       have r2 := (blk_cell HR.out 2).trans rfl
       have r3 := (blk_cell HR.out 3).trans rfl
       have f0 := blk_frozen HR.out 0
       have f1 := blk_frozen HR.out 1
       have f2 := blk_frozen HR.out 2
       have f3 := blk_frozen HR.out 3
       go_wp2
       refine bodyPost_ret (results_cell_row rfl _ _ R 49 _ (0, 0) _ rfl (put49 HR.out _ _ _ _) Try.underlying49 rfl (by kernel_rfl)) rfl ?_
       exact ⟨⟨_, _, _, _⟩, rfl, by first | exact hxs | (show 0 ≤ 5; omega), HT.out.put4 hgR _ _ _ _, below_put4 HB.out hT0R _ _ _ _, keep_put4 HK.out hTR _ _ _ _⟩)
end Go.Proofs.Ytnaddmkaakdhoaa.J

end
