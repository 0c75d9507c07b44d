/-
  Texts of this claim, joined, without what the claim does not use: XL17 XPf XL15
-/
import Derived.Test.YtnaddmkaakdhoaaSDEj
section
namespace Go.Proofs.Ytnaddmkaakdhoaa.Dk
open J
theorem list_ok {d : Dsk} (h : Valid d) : list d = d.dir.map (·.f0) := by unfold list; rw [if_pos (valid_of.2 h)]
theorem read_ok {d : Dsk} (h : Valid d) (s : ByteArray) : (has d.dir s = true → (read d s).2 = 0) ∧ (has d.dir s ≠ true → (read d s).2 = 11) := by
  unfold read
  rw [if_pos (valid_of.2 h)]
  constructor
  · intro h2; rw [if_pos h2]
  · intro h2; rw [if_neg h2]
theorem list_has {d : Dsk} (h : Valid d) {i : Nat} (hi : i < (list d).length) : has d.dir (list d)[i] = true := by
  rw [has_iff]
  have h2 : ∀ y ∈ list d, ∃ x ∈ d.dir, x.f0 = y := fun y hy => by
    rw [list_ok h, List.mem_map] at hy
    obtain ⟨x, hx, e⟩ := hy
    exact ⟨x, hx, e⟩
  exact h2 _ (List.getElem_mem hi)
end Go.Proofs.Ytnaddmkaakdhoaa.Dk
namespace Go.Proofs.Ytnaddmkaakdhoaa.J
open Go.RowKit Go.Proofs.YtnaddmkaakdhoaaW.PrintWords Go.Proofs.YtnaddmkaakdhoaaW.PrintLast Go.Proofs.YtnaddmkaakdhoaaW.PrintMore
open Dk (Srt pos has valid app appAll applyAll Valid ent nk)
set_option linter.unusedVariables false
set_option linter.unusedSimpArgs false
theorem at_str {w : World} {A : Option Addr} {n : Nat} {xs : List ByteArray} (h : Kd.C Kd.string w A n xs) (i : Nat) (hi : i < xs.length) : ∃ ad, A = some ad ∧ w.cell? (ad.add i) = some (.string xs[i]) := by
  obtain ⟨ad, e, hc⟩ := h.2.2 (by have := h.1; omega)
  obtain ⟨c, hl, hp, hcell⟩ := hc i _ (List.getElem?_eq_getElem hi)
  refine ⟨ad, e, ?_⟩
  have hp2 : c = [.string xs[i]] := hp
  subst hp2
  have := hcell 0 _ rfl
  rwa [show Kd.string.sz = 1 from rfl, Nat.mul_one, Nat.add_zero] at this
end Go.Proofs.Ytnaddmkaakdhoaa.J

end
section
namespace Go.Proofs.Ytnaddmkaakdhoaa.Dk
open J
theorem crash_id {c : Dsk} (hv : Valid c) (hfull : ∀ x ∈ c.ino, x.f1 = (x.f0.size : Nat)) (hops : c.ops = []) (hdur : c.dur = c.dir) (ms : List Int) : crash c ms = c := by
  obtain ⟨l2, e2, _, hr⟩ := crash_eq hv ms
  rw [hops] at hr
  simp only [List.take_nil] at hr
  have hl2 : l2 = c.dur := by
    have : rep c.dur ((c.ino.length - crt [] : Nat) : Int) [] = some c.dur := rfl
    rw [this] at hr
    exact (Option.some.inj hr).symm
  have hm : c.ino.mapIdx (torn ms) = c.ino := by
    refine List.ext_getElem (by rw [List.length_mapIdx]) (fun i h1 h2 => ?_)
    rw [List.getElem_mapIdx]
    exact torn_id ms i _ (hfull _ (List.getElem_mem _))
  rw [e2, hm, hl2, hdur, hops]
  have hs : settle ⟨c.ino, c.dir, c.dir, []⟩ = ⟨c.ino, c.dir, c.dir, []⟩ := settle_id hv.dir (fun i hi => by
    have hcr : crt c.ops = 0 := by rw [hops]; rfl
    have := hv.old i (by rw [hcr]; exact hi)
    rw [hdur] at this
    rcases this with h | h <;> exact h) rfl rfl
  rw [hs]
  obtain ⟨a, b, c', o⟩ := c
  simp only at hdur hops
  rw [hdur, hops]
def FullTo (l : List S69) (d : Dsk) (i : Nat) : Prop := ∀ k, k < i → ∀ x, l[k]? = some x → ∃ y, d.ino[x.f1.toNat]? = some y ∧ y.f1 = (y.f0.size : Nat)
theorem sync_step {d : Dsk} {l : List S69} {i : Nat} (hv : Valid d) (hl : d.dir = l) (hf : FullTo l d i) {x : S69} (hx : l[i]? = some x) {m : Nat} (hs : Sml m d) :
    (app d ⟨3, x.f0, e0, e0⟩).2 = 0 ∧ Valid (app d ⟨3, x.f0, e0, e0⟩).1 ∧ (app d ⟨3, x.f0, e0, e0⟩).1.dir = l ∧ FullTo l (app d ⟨3, x.f0, e0, e0⟩).1 (i + 1) ∧ Sml m (app d ⟨3, x.f0, e0, e0⟩).1 := by
  have hxm : x ∈ d.dir := by rw [hl]; exact List.mem_of_getElem? hx
  have hh : has d.dir x.f0 = true := has_iff.2 ⟨x, hxm, rfl⟩
  have hent : ent d x.f0 = x.f1.toNat := by
    obtain ⟨y, hy, e1, e2⟩ := pos_mem hv.dir.2.1 hh
    unfold ent
    rw [e2, Srt.inj hv.dir.2.1 hy hxm e1]
  have hlt := ent_lt hv.dir hh
  have ha : app d ⟨3, x.f0, e0, e0⟩ = (⟨d.ino.set (ent d x.f0) ⟨(d.ino.getD (ent d x.f0) z67).f0, ((d.ino.getD (ent d x.f0) z67).f0.size : Nat)⟩, d.dir, d.dur, d.ops⟩, 0) := by
    have hf2 : fieldsOK ⟨3, x.f0, e0, e0⟩ = true := by simp [fieldsOK, em_e0]
    unfold app
    rw [if_pos hf2]
    simp [hh]
  have h0 : (app d ⟨3, x.f0, e0, e0⟩).2 = 0 := by rw [ha]
  have hv2 := valid_app hv ⟨3, x.f0, e0, e0⟩ h0
  refine ⟨h0, hv2, by rw [ha]; exact hl, fun k hk y hy => ?_, by rw [ha]; exact ⟨by show (d.ino.set _ _).length ≤ m; rw [List.length_set]; exact hs.1, hs.2.1, hs.2.2.1, hs.2.2.2⟩⟩
  rw [ha]
  show ∃ z, (d.ino.set (ent d x.f0) _)[y.f1.toNat]? = some z ∧ _
  by_cases he : y.f1.toNat = ent d x.f0
  · rw [he, List.getElem?_set_self hlt]
    exact ⟨_, rfl, rfl⟩
  · rw [List.getElem?_set_ne (Ne.symm he)]
    have hk2 : k < i := by
      rcases Nat.lt_or_ge k i with h | h
      · exact h
      · exfalso
        have : k = i := by omega
        subst this
        rw [hx] at hy
        injection hy with hy
        subst hy
        exact he hent.symm
    exact hf k hk2 y hy
theorem settle_full {d : Dsk} (hv : Valid d) (hf : FullTo d.dir d d.dir.length) : Valid (settle d) ∧ (∀ x ∈ (settle d).ino, x.f1 = (x.f0.size : Nat)) ∧ (settle d).ops = [] ∧ (settle d).dur = (settle d).dir := by
  refine ⟨valid_settle hv.dir hv.ino, fun x hx => ?_, rfl, rfl⟩
  have hx2 : x ∈ keptTo d.dir d.ino d.ino.length := hx
  unfold keptTo at hx2
  obtain ⟨k, hk, e⟩ := List.mem_filterMap.1 hx2
  split at e
  · rename_i hm
    obtain ⟨y, hy, e2⟩ := marked_iff.1 hm
    obtain ⟨q, hq, e3⟩ := List.mem_iff_getElem.1 hy
    obtain ⟨z, hz, e4⟩ := hf q hq y (by rw [List.getElem?_eq_getElem hq, e3])
    have hyk : y.f1.toNat = k := by omega
    rw [hyk] at hz
    injection e with e
    have : d.ino.getD k z67 = z := by rw [List.getD_eq_getElem?_getD, hz]; rfl
    rw [← e, this]
    exact e4
  · cases e
theorem settle_sml {d : Dsk} {m : Nat} (hs : Sml m d) : Sml m (settle d) := by
  have h1 := hs.1; have h2 := hs.2.1
  refine ⟨?_, ?_, ?_, Nat.zero_le _⟩
  · show (keptTo d.dir d.ino d.ino.length).length ≤ m
    rw [keptTo_length]
    have := num_le d.dir d.ino.length
    omega
  · show (d.dir.map (ren d.dir)).length ≤ m
    rw [List.length_map]; omega
  · show (d.dir.map (ren d.dir)).length ≤ m
    rw [List.length_map]; omega
end Go.Proofs.Ytnaddmkaakdhoaa.Dk

end
section
namespace Go.Proofs.Ytnaddmkaakdhoaa.J
open Go.RowKit Go.Proofs.YtnaddmkaakdhoaaW.PrintWords Go.Proofs.YtnaddmkaakdhoaaW.PrintLast Go.Proofs.YtnaddmkaakdhoaaW.PrintMore
open Dk (Srt pos has valid app appAll applyAll Valid ent FullTo e0)
set_option linter.unusedVariables false
set_option linter.unusedSimpArgs false
set_option maxHeartbeats 8000000 in
set_option maxRecDepth 100000 in
theorem texts38_calls (A : Option Addr) (c : Nat) (A' : Option Addr) (c' : Nat) (l : List ByteArray) (n : Nat) (hn : n = l.length) (w : World) (h1 : Kd.C Kd.string w A n l) (hc1 : n ≤ c) (h2 : Kd.C Kd.string w A' n l) (hc2 : n ≤ c') (hl : n ≤ 1000000) :
    Calls Try.prog 38 #[.slice A n c, .slice A' n c'] w fun e w' => e = .returned (.bool true) ∧ Below w.heap.size w w' := by
  have R1 := Aside0.mk h1
  have R2 := Aside0.mk h2
  have HN := Aside0.mk hn
  have HB := Aside0.mk (Below.refl w.heap.size w)
  clear hn h1 h2
  go_enter Try.func38, Try.ntmps38
  go_wp2_with fail
  go_loopg [13] n (fun kx s wr => ∃ i : Nat, s = .int .i64 i ∧ i ≤ n ∧ n - i ≤ kx ∧ Aside0 (Below w.heap.size w wr))
  case atStart => exact ⟨0, rfl, Nat.zero_le _, by omega, HB⟩
  case round =>
    clear HB
    obtain ⟨i, rfl, hi, hk, HB⟩ := hrel
    by_cases hlt : i < n
    · have hil : i < l.length := by have := HN.out; omega
      obtain ⟨ad, ea, hx⟩ := at_str (Kd.C_below R1.out HB.out) i hil
      subst ea
      obtain ⟨ad', ea, hz⟩ := at_str (Kd.C_below R2.out HB.out) i hil
      subst ea
      obtain ⟨y, hy⟩ : ∃ y, y = l[i] := ⟨_, rfl⟩
      rw [← hy] at hx hz
      clear hy
      have hi0 : (0 : Int) ≤ (i : Int) := by omega
      have hi1 : (i : Int) < (n : Int) := by omega
      go_wp2_with fail
      go_quiet (fail)
      have hbw := below_step HB.out (pw_below_drewN (Below.refl wr.heap.size wr) nq)
      generalize wr.drewN nq = W3 at hbw ⊢
      have HB3 := Aside0.mk hbw
      clear hbw HB hx hz
      go_wp2
      go_roundg (n - i - 1)
      case measure => omega
      case rel => exact ⟨i + 1, by first | rfl | (simp; done), hlt, by omega, HB3⟩
    · go_wp2
      go_ret
      exact ⟨rfl, HB.out⟩
theorem C69_off {W : World} {A : Option Addr} {n : Nat} {l : List S69} {D : Nat} {b0 b1 b2 b3 : Value} (hd : Kd.C k69 W A n l) (h : W.heap[D]? = some (.cells #[b0, b1, b2, b3] 47 (0, 0))) (h0 : ∃ B m c, b0 = .slice B m c) (h1 : ∃ B m c, b1 = .slice B m c) (h2 : ∃ B m c, b2 = .slice B m c) (h3 : ∃ B m c, b3 = .slice B m c) (a0 a1 a2 a3 : Value) : Kd.C k69 ((((W.setCell ⟨D, 0, none⟩ a0).setCell ⟨D, 1, none⟩ a1).setCell ⟨D, 2, none⟩ a2).setCell ⟨D, 3, none⟩ a3) A n l :=
  reads_far hd h (four_slices h0 h1 h2 h3) (fun k hk => (Below.heap_setCell _ ⟨D, 3, none⟩ a3 k hk).trans ((Below.heap_setCell _ ⟨D, 2, none⟩ a2 k hk).trans ((Below.heap_setCell _ ⟨D, 1, none⟩ a1 k hk).trans (Below.heap_setCell _ ⟨D, 0, none⟩ a0 k hk)))) (fun x c hk => by
    obtain rfl := k69_open hk
    exact ⟨k69_mk _ _, by simp⟩)
set_option maxHeartbeats 8000000 in
set_option maxRecDepth 100000 in
theorem diskDurable_calls (A0 : Option Addr) (c0 : Nat) (l0 : List Int) (A1 : Option Addr) (c1 : Nat) (l1 : List Int) (w : World) (hr0 : Kd.C (Kd.int .i64) w A0 l0.length l0) (hc0 : l0.length ≤ c0) (hr1 : Kd.C (Kd.int .i64) w A1 l1.length l1) (hc1 : l1.length ≤ c1) :
    Calls Try.prog 15 #[.slice A0 l0.length c0, .slice A1 l1.length c1] w fun e w' => e = .returned (.bool true) ∧ Below w.heap.size w w' := by
  obtain ⟨m, hm, hml⟩ := new_f l0
  have R1 := Aside0.mk hr1
  go_enter Try.func15, Try.ntmps15
  go_wp2_with fail
  refine (corporamade_New.calls A0 c0 l0 m 0 w w (Below.refl _ _) hr0 hc0 hm).mono ?_
  rintro e w1 ⟨g, rfl, h1, h2, _⟩
  have HT1 := Aside0.mk (show Tp w w1 g from ⟨m, 0, h1, hml, Int.le_refl _⟩)
  have HB1 := Aside0.mk h2
  clear h1 h2 hm hml hr0 hc0 hr1
  go_wp2_with fail
  refine (build45_calls g 10 w w1 HT1.out HB1.out (by omega) (by omega)).mono ?_
  rintro e w2 ⟨v, d, rfl, h1, h2, h3, h4, h5, h6⟩
  have CD := Aside0.mk h1
  have HV := Aside0.mk h2
  have HS := Aside0.mk h3
  have HB := Aside0.mk h5
  clear h1 h2 h3 h4 h5 h6 HT1 HB1
  obtain ⟨F0, f0, F1, f1, F2, f2, F3, f3, rfl, -⟩ := id CD.out
  go_upto_region 3 with fail
  obtain ⟨ob1, hob1⟩ : ∃ q : Obj, q = .cells #[.slice F0 d.ino.length f0, .slice F1 d.dir.length f1, .slice F2 d.dur.length f2, .slice F3 d.ops.length f3] 47 := ⟨_, rfl⟩
  rw [← hob1]
  obtain ⟨D, hD⟩ : ∃ q, q = w2.heap.size := ⟨_, rfl⟩
  have bb := below_alloc (Below.refl w2.heap.size w2) ob1
  have kk := blk_new w2 ob1
  rw [← hD] at kk ⊢
  have hTD : w.heap.size ≤ D := by have := HB.out.size; omega
  have HB_ := Aside0.mk (below_step HB.out bb)
  have CD_ := Aside0.mk (CD.out.below bb)
  clear HB
  have HB := HB_
  clear HB_
  clear CD
  have CD := CD_
  clear CD_
  have KD := Aside0.mk kk
  clear bb kk
  generalize w2.alloc ob1 = wa1 at HB CD KD ⊢
  subst hob1
  clear hD
  obtain ⟨l, hl⟩ : ∃ l, l = d.dir := ⟨_, rfl⟩
  have I1 : Aside0 (Kd.C k69 wa1 F1 l.length l) := ⟨by
    rw [hl]
    obtain ⟨_, _, _, _, _, _, _, _, e, _, h, _⟩ := CD.out
    injection e with e
    injection e with e
    simp only [List.cons.injEq, Value.slice.injEq] at e
    rw [e.2.1.1]; exact h.1⟩
  obtain ⟨n, hn⟩ : ∃ n, n = l.length := ⟨_, rfl⟩
  have HN := Aside0.mk hn
  rw [← hn] at I1
  have hdn : d.dir.length = n := by rw [hn, hl]
  have HLD := Aside0.mk hl.symm
  have hnn : n ≤ 1000 := by have := HS.out.2.1; omega
  have k1 : wa1.cell? ⟨D, 1, none⟩ = some (.slice F1 n f1) := by rw [← hdn]; exact (blk_cell KD.out 1).trans rfl
  clear hl hn hdn
  go_wp2_with fail
  go_loopg [24] n (fun kx s wr => ∃ (i : Nat) (d' : Dsk) (C0 C1 C2 C3 : Option Addr) (e0' e1 e2 e3 : Nat), s = .int .i64 i ∧ i ≤ n ∧ n - i ≤ kx ∧ Aside0 (Valid d' ∧ d'.dir = l ∧ FullTo l d' i ∧ Sml 1000 d') ∧ Aside0 (Below w.heap.size w wr) ∧ Aside0 (Kd.C k69 wr F1 n l) ∧ Aside0 (wr.heap[D]? = some (.cells #[.slice C0 d'.ino.length e0', .slice C1 d'.dir.length e1, .slice C2 d'.dur.length e2, .slice C3 d'.ops.length e3] 47 (0, 0))) ∧ Aside0 (DC wr (.agg #[.slice C0 d'.ino.length e0', .slice C1 d'.dir.length e1, .slice C2 d'.dur.length e2, .slice C3 d'.ops.length e3]) d'))
  case atStart => exact ⟨0, d, _, _, _, _, _, _, _, _, rfl, Nat.zero_le _, by omega, ⟨⟨HV.out, HLD.out, fun k hk => absurd hk (Nat.not_lt_zero _), HS.out⟩⟩, HB, I1, KD, CD⟩
  case round =>
    clear HB I1 KD CD k1
    obtain ⟨i, d', C0, C1, C2, C3, e0', e1, e2, e3, rfl, hi, hk, hS, HB, I1, KD, HC⟩ := hrel
    by_cases hlt : i < n
    · obtain ⟨ad, ea, hx0, hx1⟩ := at_T69 I1.out (i : Int) (by omega) (by omega)
      subst ea
      obtain ⟨y, hy⟩ : ∃ y, y = rd_T69 l (i : Int) := ⟨_, rfl⟩
      rw [← hy] at hx0 hx1
      have hil : i < l.length := by have := HN.out; omega
      have hyi : l[i]? = some y := by
        rw [hy, List.getElem?_eq_getElem hil]
        show _ = some (l.getD i z69)
        rw [Dk.getD_eq hil]
      replace hx0 : wr.cell? (ad.add (i * 2)) = some (.string y.f0) := hx0
      replace hx1 : wr.cell? ⟨(ad.add (i * 2)).block, (ad.add (i * 2)).off + 1, none⟩ = some (.int .i64 y.f1) := hx1
      have hi0 : (0 : Int) ≤ (i : Int) := by omega
      have hi1 : (i : Int) < (n : Int) := by omega
      obtain ⟨s1, s2, s3, s4, s5⟩ := Dk.sync_step hS.out.1 hS.out.2.1 hS.out.2.2.1 hyi hS.out.2.2.2
      have P1 := (fun W h => apply32_calls (.agg #[.slice C0 d'.ino.length e0', .slice C1 d'.dir.length e1, .slice C2 d'.dur.length e2, .slice C3 d'.ops.length e3]) d' ⟨3, y.f0, e0, e0⟩ W h (hS.out.2.2.2.mono (by omega)) (by show 0 ≤ _; omega))
      have hone : applyAll d' [⟨3, y.f0, e0, e0⟩] = app d' ⟨3, y.f0, e0, e0⟩ := by
        rcases app_one (o := ⟨3, y.f0, e0, e0⟩) hS.out.1 with h | ⟨h, _⟩
        · exact h
        · exact absurd s1 h
      rw [hone, s1] at P1
      obtain ⟨ad1, hap⟩ : ∃ ap : Dsk, ap = (app d' ⟨3, y.f0, e0, e0⟩).1 := ⟨_, rfl⟩
      rw [← hap] at P1 s2 s3 s4 s5
      have Q1 := Aside0.mk P1
      have S2 := Aside0.mk (show Valid ad1 ∧ ad1.dir = l ∧ FullTo l ad1 (i + 1) ∧ Sml 1000 ad1 from ⟨s2, s3, s4, s5⟩)
      clear P1 hap hone s1 s2 s3 s4 s5 hy hyi
      go_upto_region 6 with fail
      obtain ⟨ob11, hob11⟩ : ∃ q : Obj, q = .cells #[.string y.f0, .int .i64 y.f1] 69 := ⟨_, rfl⟩
      rw [← hob11]
      obtain ⟨Y, hY⟩ : ∃ q, q = wr.heap.size := ⟨_, rfl⟩
      have bb := below_alloc (Below.refl wr.heap.size wr) ob11
      have kk := blk_new wr ob11
      rw [← hY] at kk ⊢
      have HB_ := Aside0.mk (below_step HB.out bb)
      have I1_ := Aside0.mk (Kd.C_below I1.out bb)
      have KD_ := Aside0.mk (blk_below KD.out bb)
      have HC_ := Aside0.mk (HC.out.below bb)
      clear HB
      have HB := HB_
      clear HB_
      clear I1
      have I1 := I1_
      clear I1_
      clear KD
      have KD := KD_
      clear KD_
      clear HC
      have HC := HC_
      clear HC_
      have KY := Aside0.mk kk
      clear bb kk
      generalize wr.alloc ob11 = wa11 at HB I1 KD HC KY ⊢
      subst hob11
      clear hY
      clear hx0 hx1
      have d0 := (blk_cell KD.out 0).trans rfl
      have d1 := (blk_cell KD.out 1).trans rfl
      have d2 := (blk_cell KD.out 2).trans rfl
      have d3 := (blk_cell KD.out 3).trans rfl
      have y0 := (blk_cell KY.out 0).trans rfl
      have y1 := (blk_cell KY.out 1).trans rfl
      go_wp2_with fail
      refine (Q1.out wa11 HC.out).mono ?_
      rintro e w8 ⟨v2, rfl, h1, h2⟩
      have CN := Aside0.mk h1
      clear h1 Q1 d0 d1 d2 d3 y0 y1
      obtain ⟨H0, j0, H1, j1, H2, j2, H3, j3, rfl, -⟩ := id CN.out
      have HB_ := Aside0.mk (below_step HB.out h2)
      have I1_ := Aside0.mk (Kd.C_below I1.out h2)
      have KD_ := Aside0.mk (blk_below KD.out h2)
      have HC_ := Aside0.mk (HC.out.below h2)
      have KY_ := Aside0.mk (blk_below KY.out h2)
      clear HB
      have HB := HB_
      clear HB_
      clear I1
      have I1 := I1_
      clear I1_
      clear KD
      have KD := KD_
      clear KD_
      clear HC
      have HC := HC_
      clear HC_
      clear KY
      have KY := KY_
      clear KY_
      clear h2
      have d0 := (blk_cell KD.out 0).trans rfl
      have d1 := (blk_cell KD.out 1).trans rfl
      have d2 := (blk_cell KD.out 2).trans rfl
      have d3 := (blk_cell KD.out 3).trans rfl
      have df0 := blk_frozen KD.out 0
      have df1 := blk_frozen KD.out 1
      have df2 := blk_frozen KD.out 2
      have df3 := blk_frozen KD.out 3
      go_upto_region 7 with fail
      have KD2 := Aside0.mk (put47 KD.out (.slice H0 ad1.ino.length j0) (.slice H1 ad1.dir.length j1) (.slice H2 ad1.dur.length j2) (.slice H3 ad1.ops.length j3))
      have CN2 := Aside0.mk (CN.out.put47 KD.out ⟨_, _, _, rfl⟩ ⟨_, _, _, rfl⟩ ⟨_, _, _, rfl⟩ ⟨_, _, _, rfl⟩ (.slice H0 ad1.ino.length j0) (.slice H1 ad1.dir.length j1) (.slice H2 ad1.dur.length j2) (.slice H3 ad1.ops.length j3))
      have I2 := Aside0.mk (C69_off I1.out KD.out ⟨_, _, _, rfl⟩ ⟨_, _, _, rfl⟩ ⟨_, _, _, rfl⟩ ⟨_, _, _, rfl⟩ (.slice H0 ad1.ino.length j0) (.slice H1 ad1.dir.length j1) (.slice H2 ad1.dur.length j2) (.slice H3 ad1.ops.length j3))
      have HB2 := Aside0.mk (below_put4 HB.out hTD (.slice H0 ad1.ino.length j0) (.slice H1 ad1.dir.length j1) (.slice H2 ad1.dur.length j2) (.slice H3 ad1.ops.length j3))
      generalize ((((w8.setCell ⟨D, 0, none⟩ (.slice H0 ad1.ino.length j0)).setCell ⟨D, 1, none⟩ (.slice H1 ad1.dir.length j1)).setCell ⟨D, 2, none⟩ (.slice H2 ad1.dur.length j2)).setCell ⟨D, 3, none⟩ (.slice H3 ad1.ops.length j3)) = wB at KD2 CN2 I2 HB2 ⊢
      clear d0 d1 d2 d3 df0 df1 df2 df3 KD CN I1 HB KY HC
      go_wp2
      go_roundg (n - i - 1)
      case measure => omega
      case rel => exact ⟨i + 1, ad1, _, _, _, _, _, _, _, _, by first | rfl | (simp; done), hlt, by omega, S2, HB2, I2, KD2, CN2⟩
    · have hin : i = n := by omega
      subst hin
      obtain ⟨s2, s3, s4, s5⟩ := hS.out
      have hff := Dk.settle_full s2 (by rw [s3, ← HN.out]; exact s4)
      have hsm := Dk.settle_sml s5
      have P1 := (fun W h => apply32_calls (.agg #[.slice C0 d'.ino.length e0', .slice C1 d'.dir.length e1, .slice C2 d'.dur.length e2, .slice C3 d'.ops.length e3]) d' ⟨6, e0, e0, e0⟩ W h (s5.mono (by omega)) (by show 0 ≤ _; omega))
      have hone : applyAll d' [⟨6, e0, e0, e0⟩] = (Dk.settle d', 0) := by
        rcases app_one (o := ⟨6, e0, e0, e0⟩) s2 with h | ⟨h, _⟩
        · rw [h, Dk.app_dir]
        · rw [Dk.app_dir] at h; exact absurd rfl h
      rw [hone] at P1
      obtain ⟨dc, hap⟩ : ∃ ap : Dsk, ap = Dk.settle d' := ⟨_, rfl⟩
      rw [← hap] at P1 hff hsm
      have Q1 := Aside0.mk P1
      have V5 := Aside0.mk hff.1
      have M5 := Aside0.mk hsm
      have CI := Aside0.mk (Dk.crash_id hff.1 hff.2.1 hff.2.2.1 hff.2.2.2 l1)
      clear P1 hap hone s2 s3 s4 s5 hff hsm
      have d0 := (blk_cell KD.out 0).trans rfl
      have d1 := (blk_cell KD.out 1).trans rfl
      have d2 := (blk_cell KD.out 2).trans rfl
      have d3 := (blk_cell KD.out 3).trans rfl
      go_wp2_with fail
      refine (Q1.out wr HC.out).mono ?_
      rintro e w8 ⟨v2, rfl, h1, h2⟩
      have CN := Aside0.mk h1
      clear h1 Q1 d0 d1 d2 d3
      obtain ⟨H0, j0, H1, j1, H2, j2, H3, j3, rfl, -⟩ := id CN.out
      have HB_ := Aside0.mk (below_step HB.out h2)
      have HC_ := Aside0.mk (HC.out.below h2)
      have KD_ := Aside0.mk (blk_below KD.out h2)
      clear HB
      have HB := HB_
      clear HB_
      clear HC
      have HC := HC_
      clear HC_
      clear KD
      have KD := KD_
      clear KD_
      clear h2
      have d0 := (blk_cell KD.out 0).trans rfl
      have d1 := (blk_cell KD.out 1).trans rfl
      have d2 := (blk_cell KD.out 2).trans rfl
      have d3 := (blk_cell KD.out 3).trans rfl
      have df0 := blk_frozen KD.out 0
      have df1 := blk_frozen KD.out 1
      have df2 := blk_frozen KD.out 2
      have df3 := blk_frozen KD.out 3
      go_upto_region 9 with fail
      have KD2 := Aside0.mk (put47 KD.out (.slice H0 dc.ino.length j0) (.slice H1 dc.dir.length j1) (.slice H2 dc.dur.length j2) (.slice H3 dc.ops.length j3))
      have CN2 := Aside0.mk (CN.out.put47 KD.out ⟨_, _, _, rfl⟩ ⟨_, _, _, rfl⟩ ⟨_, _, _, rfl⟩ ⟨_, _, _, rfl⟩ (.slice H0 dc.ino.length j0) (.slice H1 dc.dir.length j1) (.slice H2 dc.dur.length j2) (.slice H3 dc.ops.length j3))
      have HB2 := Aside0.mk (below_put4 HB.out hTD (.slice H0 dc.ino.length j0) (.slice H1 dc.dir.length j1) (.slice H2 dc.dur.length j2) (.slice H3 dc.ops.length j3))
      generalize ((((w8.setCell ⟨D, 0, none⟩ (.slice H0 dc.ino.length j0)).setCell ⟨D, 1, none⟩ (.slice H1 dc.dir.length j1)).setCell ⟨D, 2, none⟩ (.slice H2 dc.dur.length j2)).setCell ⟨D, 3, none⟩ (.slice H3 dc.ops.length j3)) = wB at KD2 CN2 HB2 ⊢
      clear d0 d1 d2 d3 df0 df1 df2 df3 KD CN I1 HB HC
      have d0 := (blk_cell KD2.out 0).trans rfl
      have d1 := (blk_cell KD2.out 1).trans rfl
      have d2 := (blk_cell KD2.out 2).trans rfl
      have d3 := (blk_cell KD2.out 3).trans rfl
      go_wp2_with fail
      refine (list39_calls _ dc wB CN2.out (M5.out.mono (by omega))).mono ?_
      rintro e w10 ⟨v, rfl, h1, h2⟩
      obtain ⟨L, cL, rfl, lL, rL⟩ := Kd.R_reads h1
      have HL := Aside0.mk rL
      clear h1 rL d0 d1 d2 d3
      have HB2_ := Aside0.mk (below_step HB2.out h2)
      have CN2_ := Aside0.mk (CN2.out.below h2)
      have KD2_ := Aside0.mk (blk_below KD2.out h2)
      clear HB2
      have HB2 := HB2_
      clear HB2_
      clear CN2
      have CN2 := CN2_
      clear CN2_
      clear KD2
      have KD2 := KD2_
      clear KD2_
      clear h2
      have d0 := (blk_cell KD2.out 0).trans rfl
      have d1 := (blk_cell KD2.out 1).trans rfl
      have d2 := (blk_cell KD2.out 2).trans rfl
      have d3 := (blk_cell KD2.out 3).trans rfl
      go_wp2_with fail
      refine (crash_calls _ dc A1 c1 l1 w10 CN2.out (Kd.C_below R1.out HB2.out) hc1 (M5.out.mono (by omega))).mono ?_
      rintro e w11 ⟨v5, rfl, h1, h2⟩
      rw [CI.out] at h1
      have C5 := Aside0.mk h1.reads
      clear h1 d0 d1 d2 d3
      obtain ⟨G0, g0, G1, g1, G2, g2, G3, g3, rfl, -⟩ := id C5.out
      have HB2_ := Aside0.mk (below_step HB2.out h2)
      have CN2_ := Aside0.mk (CN2.out.below h2)
      have KD2_ := Aside0.mk (blk_below KD2.out h2)
      have HL_ := Aside0.mk (Kd.C_below HL.out h2)
      clear HB2
      have HB2 := HB2_
      clear HB2_
      clear CN2
      have CN2 := CN2_
      clear CN2_
      clear KD2
      have KD2 := KD2_
      clear KD2_
      clear HL
      have HL := HL_
      clear HL_
      clear h2
      go_upto_region 11 with fail
      obtain ⟨ob31, hob31⟩ : ∃ q : Obj, q = .cells #[.slice G0 dc.ino.length g0, .slice G1 dc.dir.length g1, .slice G2 dc.dur.length g2, .slice G3 dc.ops.length g3] 47 := ⟨_, rfl⟩
      rw [← hob31]
      obtain ⟨Y, hY⟩ : ∃ q, q = w11.heap.size := ⟨_, rfl⟩
      have bb := below_alloc (Below.refl w11.heap.size w11) ob31
      have kk := blk_new w11 ob31
      rw [← hY] at kk ⊢
      have HB2_ := Aside0.mk (below_step HB2.out bb)
      have CN2_ := Aside0.mk (CN2.out.below bb)
      have KD2_ := Aside0.mk (blk_below KD2.out bb)
      have HL_ := Aside0.mk (Kd.C_below HL.out bb)
      have C5_ := Aside0.mk (C5.out.below bb)
      clear HB2
      have HB2 := HB2_
      clear HB2_
      clear CN2
      have CN2 := CN2_
      clear CN2_
      clear KD2
      have KD2 := KD2_
      clear KD2_
      clear HL
      have HL := HL_
      clear HL_
      clear C5
      have C5 := C5_
      clear C5_
      have KY := Aside0.mk kk
      clear bb kk
      generalize w11.alloc ob31 = wa31 at HB2 CN2 KD2 HL C5 KY ⊢
      subst hob31
      clear hY
      have y0 := (blk_cell KY.out 0).trans rfl
      have y1 := (blk_cell KY.out 1).trans rfl
      have y2 := (blk_cell KY.out 2).trans rfl
      have y3 := (blk_cell KY.out 3).trans rfl
      go_wp2_with fail
      refine (list39_calls _ dc wa31 C5.out (M5.out.mono (by omega))).mono ?_
      rintro e w13 ⟨v, rfl, h1, h2⟩
      obtain ⟨L2, cL2, rfl, lL2, rL2⟩ := Kd.R_reads h1
      have HL2 := Aside0.mk rL2
      clear h1 rL2 y0 y1 y2 y3
      have HB2_ := Aside0.mk (below_step HB2.out h2)
      have CN2_ := Aside0.mk (CN2.out.below h2)
      have KD2_ := Aside0.mk (blk_below KD2.out h2)
      have HL_ := Aside0.mk (Kd.C_below HL.out h2)
      have C5_ := Aside0.mk (C5.out.below h2)
      have KY_ := Aside0.mk (blk_below KY.out h2)
      clear HB2
      have HB2 := HB2_
      clear HB2_
      clear CN2
      have CN2 := CN2_
      clear CN2_
      clear KD2
      have KD2 := KD2_
      clear KD2_
      clear HL
      have HL := HL_
      clear HL_
      clear C5
      have C5 := C5_
      clear C5_
      clear KY
      have KY := KY_
      clear KY_
      clear h2
      obtain ⟨lst, hl⟩ : ∃ l, l = Dk.list dc := ⟨_, rfl⟩
      obtain ⟨q, hq⟩ : ∃ q, q = lst.length := ⟨_, rfl⟩
      rw [← hl] at HL lL HL2 lL2 ⊢
      rw [← hq] at HL lL HL2 lL2 ⊢
      have LL := Aside0.mk hl
      have HQ := Aside0.mk hq
      have hqd : dc.dir.length = q := by rw [hq, hl, Dk.list_ok V5.out, List.length_map]
      have hqq : q ≤ 1000 := by have := M5.out.2.1; omega
      have kd1 : w13.cell? ⟨D, 1, none⟩ = some (.slice H1 q j1) := by rw [← hqd]; exact (blk_cell KD2.out 1).trans rfl
      clear hl hq
      go_wp2_with fail
      refine (texts38_calls L2 cL2 L cL lst q HQ.out w13 HL2.out lL2 HL.out lL (by omega)).mono ?_
      rintro e w14 ⟨rfl, h2⟩
      have HB2_ := Aside0.mk (below_step HB2.out h2)
      have CN2_ := Aside0.mk (CN2.out.below h2)
      have KD2_ := Aside0.mk (blk_below KD2.out h2)
      have HL_ := Aside0.mk (Kd.C_below HL.out h2)
      have C5_ := Aside0.mk (C5.out.below h2)
      have KY_ := Aside0.mk (blk_below KY.out h2)
      have HL2_ := Aside0.mk (Kd.C_below HL2.out h2)
      clear HB2
      have HB2 := HB2_
      clear HB2_
      clear CN2
      have CN2 := CN2_
      clear CN2_
      clear KD2
      have KD2 := KD2_
      clear KD2_
      clear HL
      have HL := HL_
      clear HL_
      clear C5
      have C5 := C5_
      clear C5_
      clear KY
      have KY := KY_
      clear KY_
      clear HL2
      have HL2 := HL2_
      clear HL2_
      clear h2
      clear kd1
      have kd1 : w14.cell? ⟨D, 1, none⟩ = some (.slice H1 q j1) := by rw [← hqd]; exact (blk_cell KD2.out 1).trans rfl
      have RA := Aside0.mk (fun s W h => read_calls (.agg #[.slice H0 dc.ino.length j0, .slice H1 dc.dir.length j1, .slice H2 dc.dur.length j2, .slice H3 dc.ops.length j3]) dc s W h (M5.out.mono (by omega)))
      have RB := Aside0.mk (fun s W h => read_calls (.agg #[.slice G0 dc.ino.length g0, .slice G1 dc.dir.length g1, .slice G2 dc.dur.length g2, .slice G3 dc.ops.length g3]) dc s W h (M5.out.mono (by omega)))
      clear hqd
      go_wp2_with fail
      go_loopg [63] q (fun kx s24 wr => ∃ i : Nat, s24 = .int .i64 i ∧ i ≤ q ∧ q - i ≤ kx ∧ Aside0 (Below w14.heap.size w14 wr))
      case atStart => exact ⟨0, rfl, Nat.zero_le _, by omega, ⟨Below.refl _ _⟩⟩
      case round =>
        obtain ⟨i, rfl, hi, hk, HR⟩ := hrel
        by_cases hlt2 : i < q
        · have hil : i < lst.length := by have := HQ.out; omega
          obtain ⟨ad, ea, hx⟩ := at_str (Kd.C_below HL.out HR.out) i hil
          subst ea
          obtain ⟨nm, hxe⟩ : ∃ x, x = lst[i] := ⟨_, rfl⟩
          rw [← hxe] at hx
          have R0 := (show (Dk.read dc nm).2 = 0 from (Dk.read_ok V5.out nm).1 (by
            have hl2 := LL.out
            subst hl2
            rw [hxe]
            exact Dk.list_has V5.out hil))
          have PA := (fun W h => RA.out nm W h)
          have PB := (fun W h => RB.out nm W h)
          rw [R0] at PA PB
          obtain ⟨s, hs⟩ : ∃ s, s = (Dk.read dc nm).1 := ⟨_, rfl⟩
          rw [← hs] at PA PB
          have QA := Aside0.mk PA
          have QB := Aside0.mk PB
          clear hxe hs R0 PA PB
          have d0 : wr.cell? ⟨D, 0, none⟩ = some (.slice H0 dc.ino.length j0) := (blk_cell (blk_below KD2.out HR.out) 0).trans rfl
          have d1 : wr.cell? ⟨D, 1, none⟩ = some (.slice H1 dc.dir.length j1) := (blk_cell (blk_below KD2.out HR.out) 1).trans rfl
          have d2 : wr.cell? ⟨D, 2, none⟩ = some (.slice H2 dc.dur.length j2) := (blk_cell (blk_below KD2.out HR.out) 2).trans rfl
          have d3 : wr.cell? ⟨D, 3, none⟩ = some (.slice H3 dc.ops.length j3) := (blk_cell (blk_below KD2.out HR.out) 3).trans rfl
          go_wp2_with fail
          refine (QA.out wr (CN2.out.below HR.out)).mono ?_
          rintro e w20 ⟨rfl, h2⟩
          have HR2 := Aside0.mk (below_step HR.out h2)
          clear h2 hx d0 d1 d2 d3 HR
          have y0 : w20.cell? ⟨Y, 0, none⟩ = some (.slice G0 dc.ino.length g0) := (blk_cell (blk_below KY.out HR2.out) 0).trans rfl
          have y1 : w20.cell? ⟨Y, 1, none⟩ = some (.slice G1 dc.dir.length g1) := (blk_cell (blk_below KY.out HR2.out) 1).trans rfl
          have y2 : w20.cell? ⟨Y, 2, none⟩ = some (.slice G2 dc.dur.length g2) := (blk_cell (blk_below KY.out HR2.out) 2).trans rfl
          have y3 : w20.cell? ⟨Y, 3, none⟩ = some (.slice G3 dc.ops.length g3) := (blk_cell (blk_below KY.out HR2.out) 3).trans rfl
          go_wp2_with fail
          refine (QB.out w20 (C5.out.below HR2.out)).mono ?_
          rintro e w21 ⟨rfl, h2⟩
          have HR3 := Aside0.mk (below_step HR2.out h2)
          clear h2 y0 y1 y2 y3 HR2
          go_wp2
          go_roundg (q - i - 1)
          case measure => omega
          case rel => exact ⟨i + 1, by first | rfl | (simp; done), hlt2, by omega, HR3⟩
        · have B9 := Aside0.mk (below_step HB2.out HR.out)
          go_wp2_with fail
          refine (known43_calls wr).mono ?_
          rintro e w27 ⟨rfl, h2⟩
          have B10 := Aside0.mk (below_step B9.out h2)
          clear h2
          go_wp2
          go_ret
          exact ⟨rfl, B10.out⟩
end Go.Proofs.Ytnaddmkaakdhoaa.J

end
