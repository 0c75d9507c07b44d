/-
  JournalDamage: for every input the law's call returns true.
-/
import Derived.Test.YtnaddmkaakdhoaaXPt
import Derived.Test.YtnaddmkaakdhoaaXJd
import Derived.Test.YtnaddmkaakdhoaaJE37
namespace Go.Proofs.Ytnaddmkaakdhoaa.J
open Go.RowKit Go.Proofs.YtnaddmkaakdhoaaW.PrintWords Go.Proofs.YtnaddmkaakdhoaaW.PrintLast Go.Proofs.YtnaddmkaakdhoaaW.PrintMore
open Jl
attribute [local go_sem high] eqA37
set_option linter.unusedVariables false
set_option linter.unusedSimpArgs false

/-- Where record number j begins. -/
def begins (x : List S37) (j : Nat) : Int := (encAllL ((x.take j).map toR)).length
theorem begins_succ (x : List S37) (j : Nat) (h : j < x.length) : begins x (j + 1) = begins x j + (9 + (rd_T37 x (j : Int)).f1.size) := by
  unfold begins
  rw [List.take_succ_eq_append_getElem h, List.map_append, encAllL_app, List.length_append]
  have e : rd_T37 x (j : Int) = x[j] := by simp [rd_T37, h]
  rw [e]
  simp only [List.map_cons, List.map_nil, encAllL, List.append_nil, encL_len]
  have : (toR x[j]).2.length = x[j].f1.size := bytesOf_length _
  rw [this]
  omega
theorem begins_zero (x : List S37) : begins x 0 = 0 := by simp [begins, encAllL]
theorem begins_le (x : List S37) (j : Nat) : 0 ≤ begins x j ∧ begins x j ≤ (encAllL (x.map toR)).length := by
  unfold begins
  have e : encAllL (x.map toR) = encAllL ((x.take j).map toR) ++ encAllL ((x.drop j).map toR) := by
    rw [← encAllL_app, ← List.map_append, List.take_append_drop]
  rw [e, List.length_append]
  omega
theorem blk_setF {w : World} {g : Nat} {t : TypeId} {cs : Array Value} {fr : Nat × Nat} (h : w.heap[g]? = some (.cells cs t fr)) (i : Nat) (u : Value) : (w.setCell ⟨g, i, none⟩ u).heap[g]? = some (.cells (cs.setIfInBounds i u) t fr) := by
  simp [World.setCell, Array.getElem?_modify, h]
theorem blk_allocF {w : World} {g : Nat} {o : Obj} (h : w.heap[g]? = some o) (o' : Obj) : (w.alloc o').heap[g]? = some o := (Below.heap_alloc w o' g (blk_lt h)).trans h
theorem behind_of : ∀ (x : List S37) (i : Nat), (∀ j, j < x.length → ¬ (begins x j ≤ i ∧ (i : Int) < begins x j + 4)) → Behind (x.map toR) i
  | [], _, _ => trivial
  | r :: x, i, h => by
    have h0 := h 0 (by simp)
    rw [begins_zero] at h0
    refine ⟨by omega, fun hle => behind_of x _ fun j hj => ?_⟩
    have h1 := h (j + 1) (by simpa using hj)
    have e : begins (r :: x) (j + 1) = (9 + (toR r).2.length : Nat) + begins x j := by
      unfold begins
      rw [List.take_succ_cons, List.map_cons]
      simp only [encAllL, List.length_append, encL_len]
      push_cast
      omega
    rw [e] at h1
    omega

theorem damage_pure (x : List S37) (hg : ∀ r ∈ x, Jl.Good (toR r)) (s : ByteArray) (hs : bytesOf s = encAllL (x.map toR)) (n c : Int) (hc : Crc.Byte c) (n0 : 0 ≤ n) (n1 : n.toNat < (encAllL (x.map toR)).length) {bn : Int} (hbn : (bytesOf s).getD n.toNat 0 = bn)
    (s2 : ByteArray) (h2 : strOfNums ((bytesOf s).set n.toNat c) = s2) (hb : ∀ q, q < x.length → ¬ (begins x q ≤ n ∧ n < begins x q + 4)) (hne : bn ≠ c) : ∃ q, q ≤ x.length ∧ (scanAll s2).1 = x.take q ∧ (scanAll s2).2.1 ≤ n := by
  have hgX : ∀ r ∈ x.map toR, Jl.Good r := by
    intro r hr
    obtain ⟨q, hq, rfl⟩ := List.mem_map.1 hr
    exact hg q hq
  have hbh := behind_of x n.toNat (fun j hj => by
    have := hb j hj
    intro h
    apply this
    omega)
  rw [hs] at h2 hbn
  obtain ⟨j, R, h1, h3, h4, h5⟩ := damaged_scan (x.map toR) n.toNat c hgX hc n1 hbh (by
    rw [List.getD_eq_getElem?_getD] at hbn
    intro h
    rw [h] at hbn
    exact hne hbn.symm)
  rw [← List.map_take] at h3 h5
  rw [List.length_map] at h1
  have hsb : bytesOf s2 = encAllL ((x.take j).map toR) ++ R := by
    rw [← h2, bytesOf_str (bytes_set (encAllL_bytes hgX) _ hc), h3]
  obtain ⟨e1, e2⟩ := scan_begin (x.take j) (fun r hr => hg r (List.mem_of_mem_take hr)) s2 R hsb h4
  exact ⟨j, h1, e1, by rw [e2]; omega⟩

set_option maxHeartbeats 8000000 in
set_option maxRecDepth 100000 in
theorem JournalDamage_calls (A0 : Option Addr) (c0 : Nat) (l0 : List Int) (a1 c : Int) (hcb : Crc.Byte c) (w : World) (hr0 : Kd.C (Kd.int .i64) w A0 l0.length l0) (hc0 : l0.length ≤ c0) :
    Calls Try.prog 5 #[.slice A0 l0.length c0, .int .i64 a1, .int .u8 c] w fun e w' => e = .returned (.bool true) ∧ Below w.heap.size w w' := by
  have hu37 := Try.underlying37
  have HR0 := Aside0.mk hr0
  have HC0 := Aside0.mk hc0
  clear hr0 hc0
  obtain ⟨m, hm, hml⟩ := new_f l0
  obtain ⟨x, a', hx, ha', hs, hxl⟩ := records_f m (by omega) 0 5 (by omega) (by omega) (by omega)
  have hg : ∀ r ∈ x, Jl.Good (toR r) := fun r hr => small_good (hs r hr)
  have hts := text_size x hs
  have hrE := rencAll_f x (by omega)
  rw [encAll_text x hg] at hrE
  obtain ⟨k1, hk1⟩ := hx.rounds
  obtain ⟨k2, hk2⟩ := hrE.rounds
  obtain ⟨k3, hk3⟩ := known_f.rounds
  clear hx hrE
  have hsz : (text x).size = (Jl.encAllL (x.map toR)).length := str_size _
  have htb := text_bytes x hg
  obtain ⟨s, hS⟩ : ∃ s, Aside0 (text x = s) := ⟨_, ⟨rfl⟩⟩
  rw [hS.out] at hk2 hsz htb
  have HM := Aside0.mk hm
  have HK1 := Aside0.mk hk1
  have HK2 := Aside0.mk hk2
  have HK3 := Aside0.mk hk3
  have HG := Aside0.mk hg
  have HSM := Aside0.mk hs
  have HTB := Aside0.mk htb
  have hss : s.size ≤ 1000 := by omega
  have HSZ := Aside0.mk hsz
  clear hm hk1 hk2 hk3 hg hs htb hsz hts ha' hml
  have hx5 : x.length ≤ 5 := by omega
  clear hxl
  go_enter Try.func5, Try.ntmps5
  go_wp2_with fail
  refine (corporamade_New.calls _ _ l0 m 0 w _ (Below.refl _ _) HR0.out HC0.out HM.out).mono ?_
  rintro e w1 ⟨g, rfl, hi, hb, hb2⟩
  have HI := Aside0.mk hi
  have HB1 := Aside0.mk hb
  clear hi hb hb2
  go_wp2_with fail
  refine (corporalaw40_records.calls k1 g m 0 5 x a' w _ HI.out HB1.out HK1.out).mono ?_
  rintro e w2 ⟨v, rfl, ho, _, hb, _⟩
  obtain ⟨A, cx, rfl, hcx, hC⟩ := Kd.R_reads ho
  have HB2 := Aside0.mk hb
  have HC := Aside0.mk hC
  clear HI HB1 HK1 hb hC ho
  go_wp2_with fail
  refine (corporaref40_EncodeAll.calls k2 _ _ x s 0 w2 HC.out hcx HK2.out).mono ?_
  rintro e w3 ⟨rfl, hb⟩
  have HB3 := Aside0.mk hb
  clear hb
  have hcv := print_bytes (P := Try.prog) 9 39 5 Try.underlying9 Try.underlying39 Try.underlying5 s w3
  go_wp2_with fail
  · refine (corporalaw40_known.calls k3 true _ HK3.out).mono ?_
    rintro e w4 ⟨rfl, hb⟩
    have HB4 := Aside0.mk hb
    clear hb hcv
    go_wp2
    go_ret
    exact ⟨rfl, below_then (below_then HB2.out HB2.out.size HB3.out) (Nat.le_trans HB2.out.size HB3.out.size) HB4.out⟩
  · have hs0 : ((s.size : Int) == 0) = false := by assumption
    clear hcv
    have hsp : 0 < s.size := by have := beq_eq_false_iff_ne.1 hs0; omega
    obtain ⟨n, hn, n0, n1⟩ := mod_f a1 s.size (by omega) (by omega)
    have HBW := Aside0.mk (bytes_below HB3.out HB3.out.size 5 s)
    have HK := Aside0.mk (Lib.bytesWorld_at_new w3 5 s)
    have HKc : Aside0 (∀ j, j < s.size → (Lib.bytesCells w3 5 s)[j]? = some (.int .u8 ((bytesOf s).getD j 0))) := ⟨by
      intro j hj
      have := Lib.bytesWorld_cell w3 5 s j hj
      rw [World.cell?, HK.out] at this
      have h' : j < s.data.toList.length := by rw [data_length]; exact hj
      simpa [bytesOf, List.getD_eq_getElem?_getD, List.getElem?_eq_getElem h'] using this⟩
    have HKs : Aside0 (s.size ≤ (Lib.bytesCells w3 5 s).size) := ⟨by
      rcases Nat.lt_or_ge (s.size - 1) (Lib.bytesCells w3 5 s).size with h | h
      · omega
      · have := HKc.out (s.size - 1) (by omega)
        rw [Array.getElem?_eq_none h] at this
        cases this⟩
    obtain ⟨W4, hW4⟩ : ∃ W4, Lib.bytesWorld w3 5 s = W4 := ⟨_, rfl⟩
    obtain ⟨bc, hbc⟩ : ∃ bc, Lib.bytesCells w3 5 s = bc := ⟨_, rfl⟩
    obtain ⟨cp, hcp⟩ : ∃ cp, grownCap w3 s.size 0 5 = cp := ⟨_, rfl⟩
    obtain ⟨B, hBB⟩ : ∃ B, w3.heap.size = B := ⟨_, rfl⟩
    have hBge : w2.heap.size ≤ B := by rw [← hBB]; exact HB3.out.size
    have hcps : s.size ≤ cp := by rw [← hcp]; exact grownCap_ge _ _ _ _
    rw [hW4] at HBW HK ⊢
    rw [hbc] at HK HKc HKs
    rw [hBB] at HK ⊢
    rw [hcp]
    clear hW4 hbc hcp hBB HB3
    refine (corporamade_Mod.calls a1 s.size n _ hn).mono ?_
    rintro e w' ⟨rfl, ⟨m1, rfl⟩⟩
    clear hn
    obtain ⟨bn, HBN⟩ : ∃ bn, Aside0 ((bytesOf s).getD n.toNat 0 = bn) := ⟨_, ⟨rfl⟩⟩
    have HKn : Aside0 (bc[n.toNat]? = some (.int .u8 bn)) := ⟨by rw [HKc.out n.toNat (by omega), HBN.out]⟩
    have HKd : Aside0 ((W4.drewN m1).heap[B]? = some (.cells bc 5 (bc.size, bc.size + 1))) := ⟨HK.out⟩
    have HBd : Aside0 (Below w2.heap.size w2 (W4.drewN m1)) := ⟨pw_below_drewN HBW.out m1⟩
    clear HK HBW
    go_wp2_with fail
    go_loopw [12, 39] (fun f i wr => ∃ (j : Int) (F : Int), 0 ≤ j ∧ j ≤ x.length ∧ i = .int .i64 j ∧ f = .int .i64 F ∧ Aside0 (begins x j.toNat = F) ∧ Aside0 (∀ q, q < j.toNat → ¬(begins x q ≤ n ∧ n < begins x q + 4) ∧ bn ≠ c) ∧ Aside0 (wr.heap[B]? = some (.cells bc 5 (bc.size, bc.size + 1))) ∧ Aside0 (Below w2.heap.size w2 wr)) (fun _ i _ => x.length - (intOf i).toNat)
    case atStart => exact ⟨0, 0, by omega, by omega, rfl, rfl, ⟨begins_zero x⟩, ⟨fun q hq => by simp at hq⟩, HKd, HBd⟩
    case round =>
      clear HKd HBd
      obtain ⟨j, F, hj0, hj1, rfl, rfl, HF, HQ, HKr, HBr⟩ := hrel
      have hFb := begins_le x j.toNat
      rw [HF.out, ← HSZ.out] at hFb
      obtain ⟨hF0, hF1⟩ := hFb
      by_cases hlt : j < x.length
      · obtain ⟨ad, ea, he0, he1⟩ := at_T37 (Kd.C_below HC.out HBr.out) j hj0 hlt
        cases ea
        have hcell : wr.cell? ⟨B, n.toNat, none⟩ = some (.int .u8 bn) := by rw [World.cell?, HKr.out]; exact HKn.out
        obtain ⟨⟨r0, r1⟩, HR⟩ : ∃ r, Aside0 (rd_T37 x j = r) := ⟨_, ⟨rfl⟩⟩
        rw [HR.out] at he0 he1
        dsimp only at he0 he1
        have hcell2 : (wr.alloc (.cells #[.int .i64 r0, .string r1] 37)).cell? ⟨B, n.toNat, none⟩ = some (.int .u8 bn) := by rw [World.cell?, blk_allocF HKr.out]; exact HKn.out
        have hr1 : r1.size ≤ 7 := by
          have e : rd_T37 x j = x[j.toNat] := by unfold rd_T37; rw [List.getD_eq_getElem?_getD, List.getElem?_eq_getElem (by omega)]; rfl
          have := (HSM.out x[j.toNat] (List.getElem_mem _)).2
          rw [← e, HR.out] at this
          exact this
        by_cases t1a : F ≤ n
        · by_cases t1b : n < F + 4
          · go_wp2_with fail
            refine (corporalaw40_known.calls k3 true _ HK3.out).mono ?_
            rintro e w4 ⟨rfl, hb⟩
            have HB4 := Aside0.mk hb
            clear hb
            go_wp2
            go_ret
            exact ⟨rfl, below_then HB2.out HB2.out.size (below_then (below_alloc HBr.out _) (below_alloc HBr.out _).size HB4.out)⟩
          · by_cases t3 : bn = c
            · have t3b := beq_iff_eq.2 t3
              have T3 := Aside0.mk t3
              clear t3
              go_wp2_with fail
              refine (corporalaw40_known.calls k3 true _ HK3.out).mono ?_
              rintro e w4 ⟨rfl, hb⟩
              have HB4 := Aside0.mk hb
              clear hb
              go_wp2
              go_ret
              exact ⟨rfl, below_then HB2.out HB2.out.size (below_then (below_alloc HBr.out _) (below_alloc HBr.out _).size HB4.out)⟩
            · have t3b := beq_eq_false_iff_ne.2 t3
              go_wp2_with fail
              go_roundw
              case rel =>
                refine ⟨j + 1, F + (9 + r1.size), by omega, by omega, rfl, rfl, ⟨?_⟩, ⟨?_⟩, ⟨blk_allocF HKr.out _⟩, ⟨below_alloc HBr.out _⟩⟩
                · rw [show (j + 1).toNat = j.toNat + 1 by omega, begins_succ x j.toNat (by omega), HF.out, show ((j.toNat : Nat) : Int) = j by omega, HR.out]
                · intro q hq
                  rcases Nat.lt_or_ge q j.toNat with h | h
                  · exact HQ.out q h
                  · obtain rfl : q = j.toNat := by omega
                    rw [HF.out]
                    exact ⟨by omega, t3⟩
              case measure => simp [intOf]; omega
        · by_cases t3 : bn = c
          · have t3b := beq_iff_eq.2 t3
            have T3 := Aside0.mk t3
            clear t3
            go_wp2_with fail
            refine (corporalaw40_known.calls k3 true _ HK3.out).mono ?_
            rintro e w4 ⟨rfl, hb⟩
            have HB4 := Aside0.mk hb
            clear hb
            go_wp2
            go_ret
            exact ⟨rfl, below_then HB2.out HB2.out.size (below_then (below_alloc HBr.out _) (below_alloc HBr.out _).size HB4.out)⟩
          · have t3b := beq_eq_false_iff_ne.2 t3
            go_wp2_with fail
            go_roundw
            case rel =>
              refine ⟨j + 1, F + (9 + r1.size), by omega, by omega, rfl, rfl, ⟨?_⟩, ⟨?_⟩, ⟨blk_allocF HKr.out _⟩, ⟨below_alloc HBr.out _⟩⟩
              · rw [show (j + 1).toNat = j.toNat + 1 by omega, begins_succ x j.toNat (by omega), HF.out, show ((j.toNat : Nat) : Int) = j by omega, HR.out]
              · intro q hq
                rcases Nat.lt_or_ge q j.toNat with h | h
                · exact HQ.out q h
                · obtain rfl : q = j.toNat := by omega
                  rw [HF.out]
                  exact ⟨by omega, t3⟩
            case measure => simp [intOf]; omega
      · obtain rfl : j = x.length := by omega
        have hcell : wr.cell? ⟨B, n.toNat, none⟩ = some (.int .u8 bn) := by rw [World.cell?, HKr.out]; exact HKn.out
        have hfr : wr.frozen? ⟨B, n.toNat, none⟩ = false := by
          have := HKs.out
          simp only [World.frozen?, HKr.out, Bool.and_eq_false_iff, decide_eq_false_iff_not]
          left
          omega
        have HKw := Aside0.mk (blk_setF HKr.out n.toNat (.int .u8 c))
        have HBw := Aside0.mk (HBr.out.setCell (p := ⟨B, n.toNat, none⟩) hBge (.int .u8 c))
        obtain ⟨Ww, hWw⟩ : ∃ Ww, wr.setCell ⟨B, n.toNat, none⟩ (.int .u8 c) = Ww := ⟨_, rfl⟩
        rw [hWw] at HKw HBw
        have hcs := run_convert_bytes_arg (P := Try.prog) Ww 39 5 Try.underlying39 Try.underlying5 B 0 s.size cp ((bytesOf s).set n.toNat c) (by rw [List.length_set, bytesOf_length]) (fun i hi => by
          have h1 := HKc.out i hi
          rw [World.cell?, HKw.out]
          show (bc.setIfInBounds n.toNat (.int .u8 c))[0 + i]? = _
          rw [Nat.zero_add, Array.getElem?_setIfInBounds]
          have hn1 : n.toNat < bc.size := by have := HKs.out; omega
          have hl : i < (bytesOf s).length := by rw [bytesOf_length]; exact hi
          by_cases hni : n.toNat = i
          · subst hni
            rw [if_pos rfl, if_pos hn1]
            simp [List.getD_eq_getElem?_getD, hl]
          · rw [if_neg hni, h1]
            simp [List.getD_eq_getElem?_getD, List.getElem?_set_ne hni]) 9 Try.underlying9
        obtain ⟨s2, HS2⟩ : ∃ s2, Aside0 (strOfNums ((bytesOf s).set n.toNat c) = s2) := ⟨_, ⟨rfl⟩⟩
        rw [HS2.out] at hcs
        have hs2 : s2.size = s.size := by rw [← HS2.out, str_size, List.length_set, bytesOf_length]
        have HC2 := Aside0.mk (Kd.C_below HC.out HBw.out)
        have HSC := Aside0.mk (scan_f s2 (by omega))
        have HPD := Aside0.mk (damage_pure x HG.out s HTB.out n c hcb n0 (by rw [← HSZ.out]; omega) (by rw [HBN.out]) s2 HS2.out (fun q hq => (HQ.out q (by omega)).1) (by
          have : 0 < x.length := by
            rcases Nat.eq_zero_or_pos x.length with h | h
            · have := HSZ.out
              rw [List.length_eq_zero_iff.1 h] at this
              simp only [List.map_nil, encAllL, List.length_nil] at this
              omega
            · exact h
          exact (HQ.out 0 (by omega)).2))
        obtain ⟨⟨y, en, st⟩, HY⟩ : ∃ r, Aside0 (scanAll s2 = r) := ⟨_, ⟨rfl⟩⟩
        rw [HY.out] at HSC HPD
        dsimp only at HPD
        obtain ⟨q, hq, hyq, hen⟩ := HPD.out
        clear HPD
        have HSC2 := HSC
        go_wp2_with fail
        refine (journal_Scan.calls s2 y en st Ww HSC.out).mono ?_
        rintro e w5 ⟨v5, rfl, ho, hb⟩
        clear hcs hWw hfr hcell
        obtain ⟨A5, c5, rfl, hc5, hC5⟩ := Kd.R_reads ho
        have HC5 := Aside0.mk hC5
        have HB5 := Aside0.mk hb
        have HCX := Aside0.mk (Kd.C_below HC2.out hb)
        clear hC5 hb ho
        have hyl : y.length ≤ x.length := by rw [hyq, List.length_take]; omega
        have hyl2 : ((y.length : Int) ≤ x.length) := by omega
        have HYQ := Aside0.mk hyq
        clear hyq
        go_wp2_with fail
        have HBx := Aside0.mk (below_then (below_then HB2.out HB2.out.size HBw.out) (Nat.le_trans HB2.out.size HBw.out.size) HB5.out)
        go_loopw [91] (fun i wq => ∃ j : Int, 0 ≤ j ∧ j ≤ y.length ∧ i = .int .i64 j ∧ Aside0 (Below w5.heap.size w5 wq)) (fun i _ => y.length - (intOf i).toNat)
        case atStart => exact ⟨0, by omega, by omega, rfl, ⟨Below.refl _ _⟩⟩
        case round =>
          obtain ⟨j, hj0, hj1, rfl, HBq⟩ := hrel
          by_cases hjl : j < y.length
          · obtain ⟨ad, ea, he0, he1⟩ := at_T37 (Kd.C_below HC5.out HBq.out) j hj0 hjl
            obtain ⟨ad2, ea2, he2, he3⟩ := at_T37 (Kd.C_below HCX.out HBq.out) j hj0 (by omega)
            cases ea
            cases ea2
            have hxy : rd_T37 y j = rd_T37 x j := by
              rw [HYQ.out]
              unfold rd_T37
              have hyt := congrArg List.length HYQ.out
              rw [List.length_take] at hyt
              rw [List.getD_eq_getElem?_getD, List.getD_eq_getElem?_getD, List.getElem?_take_of_lt (by omega)]
            rw [hxy] at he0 he1
            clear hxy
            obtain ⟨⟨r0, r1⟩, HR⟩ : ∃ r, Aside0 (rd_T37 x j = r) := ⟨_, ⟨rfl⟩⟩
            rw [HR.out] at he0 he1 he2 he3
            dsimp only at he0 he1 he2 he3
            go_wp2_with fail
            go_quiet (fail)
            go_wp2_with fail
            go_roundw
            case rel => exact ⟨j + 1, by omega, by omega, rfl, ⟨pw_below_drewN HBq.out nq⟩⟩
            case measure => simp [intOf]; omega
          · go_wp2_with fail
            refine (corporalaw40_known.calls k3 true _ HK3.out).mono ?_
            rintro e w4 ⟨rfl, hb⟩
            have HB4 := Aside0.mk hb
            clear hb
            go_wp2
            go_ret
            exact ⟨rfl, below_then (below_then HBx.out HBx.out.size HBq.out) (Nat.le_trans HBx.out.size HBq.out.size) HB4.out⟩
end Go.Proofs.Ytnaddmkaakdhoaa.J
