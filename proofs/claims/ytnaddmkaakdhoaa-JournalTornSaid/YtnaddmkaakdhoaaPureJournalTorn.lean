/-
  JournalTorn, plainly: for all numbers: of records of which a beginning and at most four zero bytes at its end are left, Scan gives a beginning, with all that are whole and untouched, and no damage.
-/
import Derived.Test.YtnaddmkaakdhoaaJ4
import Derived.Test.YtnaddmkaakdhoaaXPt
import Derived.Test.YtnaddmkaakdhoaaXJt
namespace Go.Proofs.Ytnaddmkaakdhoaa.Pure
open Go.RowKit Go.Proofs.Ytnaddmkaakdhoaa.J Go.Proofs.YtnaddmkaakdhoaaW.PrintWords Go.Proofs.YtnaddmkaakdhoaaW.PrintLast Go.Proofs.YtnaddmkaakdhoaaW.PrintMore
open Jl
set_option linter.unusedVariables false

theorem torn_state {r : ByteArray} {R : List Int} (hr : bytesOf r = R) (h : Torn R) : scanState r ≠ 2 := by
  have hl : R.length = r.size := by rw [← hr, bytesOf_length]
  unfold scanState
  by_cases c : r.size = 0
  · rw [if_pos c]; decide
  · rw [if_neg c, if_pos]
    · decide
    · rcases h with h | h | h | h
      · rw [h] at hl; simp at hl; omega
      · exact .inl (by omega)
      · rw [← hr, ← g32_dec, bytesOf_length] at h
        exact .inr (.inl h)
      · refine .inr (.inr ?_)
        have e := bt_list r (r.size - 1)
        rw [show ((r.size - 1 : Nat) : Int) = (r.size : Int) - 1 by omega] at e
        rw [e, hr, List.getD_eq_getElem?_getD, ← hl, ← List.getLast?_eq_getElem?, h]
        rfl

theorem torn_l0 (x : List S37) (j : Nat) (hj : j ≤ x.length) (hx : x.length ≤ 1000) (n z e : Int) (res : Bool)
    (hend : Ev (fun k => if 0 ≤ ((x.take j).length : Int) then (if ((x.take j).length : Int) ≤ (x.length : Int) then ((corporaref40_EncodeAll.f k (x.take (((x.take j).length : Int) : Int).toNat)).bind fun bt123 => (if e = (bt123.1.size : Int) then (if ((x.take j).length : Int) < (x.length : Int) then (if 0 ≤ (wrap64 (((x.take j).length : Int) + 1)) then (if (wrap64 (((x.take j).length : Int) + 1)) ≤ (x.length : Int) then ((corporaref40_EncodeAll.f k (x.take ((wrap64 (((x.take j).length : Int) + 1)) : Int).toNat)).bind fun bt129 => (if (bt129.1.size : Int) > (wrap64 (n - z)) then ((corporalaw40_known.f k).bind fun t131 => (some t131)) else (some false))) else (none)) else (none)) else ((corporalaw40_known.f k).bind fun t132 => (some t132))) else (some false))) else (none)) else (none)) res) :
    ∀ (d i : Nat), i ≤ j → j - i = d → Ev (fun k => corporalaw40_JournalTorn.l0 k x n z (x.take j) e ((x.take j).length : Int) (i : Int)) res
  | 0, i, hi, hd => by
    have hl : (x.take j).length = j := by rw [List.length_take]; omega
    refine Ev.step (fun k => by simp only [corporalaw40_JournalTorn.l0]; exact rfl) ?_
    refine Ev.congr (fun k => if_neg (by omega)) ?_
    exact hend
  | d + 1, i, hi, hd => by
    have hl : (x.take j).length = j := by rw [List.length_take]; omega
    refine Ev.step (fun k => by simp only [corporalaw40_JournalTorn.l0]; exact rfl) ?_
    refine Ev.congr (fun k => if_pos (by omega)) ?_
    refine Ev.congr (fun k => if_pos (by omega)) ?_
    refine Ev.congr (fun k => if_pos (by omega)) ?_
    refine Ev.congr (fun k => if_pos (by omega)) ?_
    have e : rd_T37 (x.take j) (i : Int) = rd_T37 x (i : Int) := by
      unfold rd_T37
      rw [List.getD_eq_getElem?_getD, List.getD_eq_getElem?_getD, List.getElem?_take_of_lt (by omega)]
    rw [e]
    refine Ev.congr (fun k => if_neg (by simp)) ?_
    rw [show wrap64 ((i : Int) + 1) = ((i + 1 : Nat) : Int) by unfold wrap64; omega]
    exact torn_l0 x j hj hx n z _ res hend d (i + 1) (by omega) (by omega)

theorem take_good {x : List S37} (hx : ∀ r ∈ x, Jl.Good (toR r)) (j : Nat) : ∀ r ∈ x.take j, Jl.Good (toR r) := fun r hr => hx r (List.mem_of_mem_take hr)

theorem JournalTorn : corporalaw40_JournalTorn.Pure := by
  intro l0 a1 a2 _ _ _ _ _
  apply Ev.rounds
  unfold corporalaw40_JournalTorn.f
  obtain ⟨m, hm, hml⟩ := new_f l0
  rw [hm]
  simp only [Option.bind_some]
  obtain ⟨x, a', hx, ha', hs, hxl⟩ := records_f m (by omega) 0 6 (by omega) (by omega) (by omega)
  refine Ev.bind hx ?_
  have hg : ∀ r ∈ x, Jl.Good (toR r) := fun r hr => small_good (hs r hr)
  have hts := text_size x hs
  refine Ev.bind (rencAll_f x (by omega)) ?_
  rw [encAll_text x hg]
  have hsz : (text x).size = (Jl.encAllL (x.map toR)).length := str_size _
  dsimp only
  rw [w64 (x := ((text x).size : Int) + 1) (by omega) (by omega)]
  obtain ⟨n, hn, n0, n1⟩ := mod_f a1 ((text x).size + 1) (by omega) (by omega)
  rw [hn]
  simp only [Option.bind_some]
  have hmn : mn n 4 ≤ 4 ∧ mn n 4 ≤ n ∧ 0 ≤ mn n 4 := by unfold mn; split <;> omega
  rw [w64 (x := mn n 4 + 1) (by omega) (by omega)]
  obtain ⟨z, hz, z0, z1⟩ := mod_f a2 (mn n 4 + 1) (by omega) (by omega)
  rw [hz]
  simp only [Option.bind_some]
  rw [w64 (x := n - z) (by omega) (by omega)]
  refine Ev.congr (fun k => if_pos (by omega)) ?_
  refine Ev.congr (fun k => if_pos (by omega)) ?_
  refine Ev.congr (fun k => if_pos z0) ?_
  refine Ev.congr (fun k => if_pos (by omega)) ?_
  obtain ⟨s, hss⟩ : ∃ s, (text x).extract 0 (n - z).toNat ++ (⟨#[0, 0, 0, 0]⟩ : ByteArray).extract 0 z.toNat = s := ⟨_, rfl⟩
  have hs1 : ((text x).extract 0 (n - z).toNat).size = (n - z).toNat := by rw [ByteArray.size_extract]; omega
  have hs2 : ((⟨#[0, 0, 0, 0]⟩ : ByteArray).extract 0 z.toNat).size = z.toNat := by rw [ByteArray.size_extract, show (⟨#[0, 0, 0, 0]⟩ : ByteArray).size = 4 from rfl]; omega
  refine Ev.congr (fun k => if_pos (by omega)) ?_
  have hsn : (s.size : Int) = n := by rw [← hss, ByteArray.size_append]; omega
  have hsb : bytesOf s = (encAllL (x.map toR)).take (n.toNat - z.toNat) ++ List.replicate z.toNat 0 := by
    rw [← hss, bytesOf_app, bytesOf_extract _ _ _ (by omega), bytesOf_extract _ _ _ (by rw [show (⟨#[0, 0, 0, 0]⟩ : ByteArray).size = 4 from rfl]; omega), text_bytes x hg]
    simp only [List.drop_zero, Nat.sub_zero]
    congr 1
    · congr 1; omega
    · show ([0, 0, 0, 0] : List Int).take z.toNat = _
      have : z.toNat = 0 ∨ z.toNat = 1 ∨ z.toNat = 2 ∨ z.toNat = 3 ∨ z.toNat = 4 := by omega
      rcases this with h | h | h | h | h <;> rw [h] <;> rfl
  rw [hss, scan_f s (by omega)]
  simp only [Option.bind_some]
  have hgX : ∀ r ∈ x.map toR, Jl.Good r := by
    intro r hr
    obtain ⟨q, hq, rfl⟩ := List.mem_map.1 hr
    exact hg q hq
  obtain ⟨j, R, hj, hR, hRn, hRt, hje, hjl⟩ := torn_scan (x.map toR) n.toNat z.toNat hgX (by omega) (by omega) (by omega)
  rw [← hsb, ← List.map_take] at hR
  rw [List.length_map] at hj hjl
  rw [← List.map_take] at hje hjl
  obtain ⟨e1, e2⟩ := scan_begin (x.take j) (take_good hg j) s R hR hRn
  have hRl := congrArg List.length hR
  rw [bytesOf_length, List.length_append] at hRl
  have e3 : (scanAll s).2.2 ≠ 2 := by
    rw [scanAll_state, e2]
    refine torn_state (R := R) ?_ hRt
    rw [extract_all, hR]
    simp
  have hl : (x.take j).length = j := by rw [List.length_take]; omega
  rw [e1, e2]
  refine Ev.congr (fun k => if_neg (by omega)) ?_
  refine Ev.congr (fun k => if_neg e3) ?_
  rw [decide_eq_false (by omega)]
  refine Ev.step (fun k => by simp only [corporalaw40_JournalTorn.j0]; exact rfl) ?_
  refine Ev.congr (fun k => if_neg (by simp)) ?_
  refine torn_l0 x j hj (by omega) n z _ true ?_ j 0 (by omega) (by omega)
  refine Ev.congr (fun k => if_pos (by omega)) ?_
  refine Ev.congr (fun k => if_pos (by omega)) ?_
  rw [show (((x.take j).length : Int)).toNat = j by omega]
  refine Ev.bind (rencAll_f (x.take j) (by omega)) ?_
  rw [encAll_text _ (take_good hg j)]
  have ht : (text (x.take j)).size = (encAllL ((x.take j).map toR)).length := str_size _
  refine Ev.congr (fun k => if_pos (by rw [ht])) ?_
  by_cases hlt : j < x.length
  · refine Ev.congr (fun k => if_pos (by omega)) ?_
    rw [w64 (x := ((x.take j).length : Int) + 1) (by omega) (by omega)]
    refine Ev.congr (fun k => if_pos (by omega)) ?_
    refine Ev.congr (fun k => if_pos (by omega)) ?_
    rw [show (((x.take j).length : Int) + 1).toNat = j + 1 by omega]
    refine Ev.bind (rencAll_f (x.take (j + 1)) (by rw [List.length_take]; omega)) ?_
    rw [encAll_text _ (take_good hg _)]
    have ht' : (text (x.take (j + 1))).size = (encAllL ((x.take (j + 1)).map toR)).length := str_size _
    have := hjl hlt
    rw [w64 (x := n - z) (by omega) (by omega)]
    refine Ev.congr (fun k => if_pos (by rw [ht']; omega)) ?_
    refine Ev.bind known_f ?_
    exact Ev.now _
  · refine Ev.congr (fun k => if_neg (by omega)) ?_
    refine Ev.bind known_f ?_
    exact Ev.now _

end Go.Proofs.Ytnaddmkaakdhoaa.Pure
