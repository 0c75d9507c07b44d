/-
  Texts and lists of bytes: the reading of records from a text is that from its list of bytes. Texts of at most 2^40 bytes.
-/
import Derived.Test.YtnaddmkaakdhoaaX23b
import Derived.Test.YtnaddmkaakdhoaaXJl
namespace Go.Proofs.Ytnaddmkaakdhoaa.J
open Go.RowKit Go.Proofs.YtnaddmkaakdhoaaW.PrintWords Go.Proofs.YtnaddmkaakdhoaaW.PrintLast Go.Proofs.YtnaddmkaakdhoaaW.PrintMore
open Jl
open Crc (Byte)
set_option linter.unusedVariables false
set_option linter.unusedSimpArgs false

theorem bytesOf_bytes (s : ByteArray) : Bytes (bytesOf s) := by
  intro c hc
  obtain ⟨b, _, rfl⟩ := List.mem_map.1 hc
  have := b.toNat_lt
  unfold Byte
  omega
theorem bytesOf_inj {a b : ByteArray} (h : bytesOf a = bytesOf b) : a = b := by
  have h' : a.data.toList = b.data.toList := by
    unfold bytesOf at h
    exact (List.map_inj_right (fun x y e => UInt8.toNat_inj.1 (Int.ofNat.inj e))).1 h
  have h2 : a.data = b.data := by
    have := congrArg List.toArray h'
    simpa using this
  cases a; cases b
  simp only at h2
  rw [h2]
theorem bytesOf_app (a b : ByteArray) : bytesOf (a ++ b) = bytesOf a ++ bytesOf b := by
  unfold bytesOf
  rw [← List.map_append]
  congr 1
theorem bytesOf_str {l : List Int} (h : Bytes l) : bytesOf (strOfNums l) = l := by
  unfold bytesOf
  rw [strOfNums_data, List.map_map]
  apply List.ext_getElem
  · simp
  · intro i h1 h2
    simp only [List.getElem_map, Function.comp_apply]
    have hb := h (l[i]) (List.getElem_mem _)
    unfold Byte at hb
    rw [show (UInt8.ofNat (l[i]).toNat).toNat = (l[i]).toNat from by rw [UInt8.toNat_ofNat']; omega]
    omega
theorem str_bytesOf (s : ByteArray) : strOfNums (bytesOf s) = s := bytesOf_inj (bytesOf_str (bytesOf_bytes s))
theorem bytesOf_empty : bytesOf (⟨#[]⟩ : ByteArray) = [] := rfl
theorem bytesOf_extract (s : ByteArray) (i j : Nat) (hj : j ≤ s.size) : bytesOf (s.extract i j) = ((bytesOf s).drop i).take (j - i) := by
  apply List.ext_getElem?
  intro n
  have hs : (s.extract i j).size = j - i := by rw [ByteArray.size_extract]; omega
  rcases Nat.lt_or_ge n (j - i) with h | h
  · have e1 := rd_bytesOf (s.extract i j) n
    have e2 := rd_bytesOf s ((i : Int) + n)
    have e3 := bt_extract s i j hj n (by omega) (by omega)
    have l1 : n < (bytesOf (s.extract i j)).length := by rw [bytesOf_length, hs]; exact h
    have l2 : i + n < (bytesOf s).length := by rw [bytesOf_length]; omega
    rw [List.getElem?_take_of_lt h, List.getElem?_drop, List.getElem?_eq_getElem l1, List.getElem?_eq_getElem l2]
    unfold rd at e1 e2
    rw [show ((n : Int)).toNat = n by omega, List.getD_eq_getElem?_getD, List.getElem?_eq_getElem l1] at e1
    rw [show ((i : Int) + n).toNat = i + n by omega, List.getD_eq_getElem?_getD, List.getElem?_eq_getElem l2] at e2
    simp only [Option.getD_some] at e1 e2
    rw [e1, e2, e3]
  · rw [List.getElem?_eq_none (by rw [bytesOf_length, hs]; exact h), List.getElem?_eq_none (by rw [List.length_take]; omega)]
theorem bt_list (s : ByteArray) (i : Nat) : bt s i = (bytesOf s).getD i 0 := by
  have := rd_bytesOf s i
  unfold rd at this
  rw [← this]; rfl
theorem g32_dec (s : ByteArray) : g32 s = dec4 (bytesOf s) := by
  unfold g32 dec4
  rw [← bt_list, ← bt_list, ← bt_list, ← bt_list]; rfl
theorem extract_all (s : ByteArray) (i : Nat) : bytesOf (s.extract i s.size) = (bytesOf s).drop i := by
  rw [bytesOf_extract s i s.size (Nat.le_refl _), ← bytesOf_length s, ← List.length_drop, List.take_length]

/-- The record of a text. -/
def toR (r : S37) : Int × List Int := (r.f0, bytesOf r.f1)
theorem toR_inj {a b : S37} (h : toR a = toR b) : a = b := by
  cases a; cases b
  simp only [toR, Prod.mk.injEq] at h
  rw [h.1, bytesOf_inj h.2]

theorem nextS_none {s : ByteArray} (h : nextL (bytesOf s) = none) : (nextS s).2.2 = 0 := by
  have hr := g32_range s
  unfold nextL at h
  unfold nextS
  rw [← g32_dec, bytesOf_length] at h
  by_cases c1 : s.size < 9
  · rw [if_pos c1]
  rw [if_neg c1] at h ⊢
  by_cases c2 : g32 s > 1048576 ∨ (s.size : Int) < 9 + g32 s
  · rw [if_pos c2]
  rw [if_neg c2] at h ⊢
  rw [if_neg]
  intro c3
  rw [if_pos] at h
  · cases h
  · rw [← bt_list, ← extract_all s 4, ← g32_dec]
    refine ⟨c3.1, ?_⟩
    rw [← c3.2, bytesOf_extract s 8 _ (by omega)]
    congr 2
    omega

theorem nextS_some {s : ByteArray} {k : Int} {p : List Int} (h : nextL (bytesOf s) = some (k, p)) : (nextS s).1 = k ∧ bytesOf (nextS s).2.1 = p ∧ (nextS s).2.2 = 9 + p.length := by
  have hr := g32_range s
  unfold nextL at h
  unfold nextS
  rw [← g32_dec, bytesOf_length] at h
  by_cases c1 : s.size < 9
  · rw [if_pos c1] at h; cases h
  rw [if_neg c1] at h ⊢
  by_cases c2 : g32 s > 1048576 ∨ (s.size : Int) < 9 + g32 s
  · rw [if_pos c2] at h; cases h
  rw [if_neg c2] at h ⊢
  by_cases c3 : ((bytesOf s).getD 8 0 = 1 ∨ (bytesOf s).getD 8 0 = 2) ∧ Crc.sum (((bytesOf s).drop 8).take (1 + (g32 s).toNat)) = dec4 ((bytesOf s).drop 4)
  · rw [if_pos c3] at h
    simp only [Option.some.injEq, Prod.mk.injEq] at h
    have e8 : bt s 8 = (bytesOf s).getD 8 0 := bt_list s 8
    rw [if_pos]
    · refine ⟨e8.trans h.1, ?_, ?_⟩
      · rw [← h.2, bytesOf_extract s 9 _ (by omega)]
        congr 1
        omega
      · rw [← h.2, List.length_take, List.length_drop, bytesOf_length]
        dsimp only
        omega
    · rw [e8, g32_dec (s.extract 4 s.size), extract_all]
      refine ⟨c3.1, ?_⟩
      rw [← c3.2, bytesOf_extract s 8 _ (by omega)]
      congr 2
      omega
  · rw [if_neg c3] at h; cases h

theorem scan_list : ∀ (f : Nat) (s : ByteArray) (x : Int), 0 ≤ x → x ≤ s.size → ((scanL f s x).map fun p => toR p.2) = scanR f ((bytesOf s).drop x.toNat)
  | 0, _, _, _, _ => rfl
  | f + 1, s, x, h0, h1 => by
    have hs : (s.extract x.toNat s.size).size = s.size - x.toNat := by rw [ByteArray.size_extract]; omega
    have he := extract_all s x.toNat
    cases hn : nextL (bytesOf (s.extract x.toNat s.size)) with
    | none =>
      simp only [scanL]
      rw [if_pos (nextS_none hn), ← he, scan_stop hn]
      rfl
    | some q =>
      obtain ⟨k, p⟩ := q
      obtain ⟨e1, e2, e3⟩ := nextS_some hn
      have hl := nextS_len (s.extract x.toNat s.size)
      have hst := scan_step (f := f) hn
      rw [he] at hst
      rw [hst, List.drop_drop]
      simp only [scanL]
      rw [if_neg (by omega), List.map_cons, scan_list f s _ (by omega) (by omega)]
      have ea : toR (⟨(nextS (s.extract x.toNat s.size)).1, (nextS (s.extract x.toNat s.size)).2.1⟩ : S37) = (k, p) := by
        simp only [toR]; rw [e1, e2]
      rw [ea, e3]
      congr 3
      omega

/-- The places: each record ends behind the bytes of those up to it. -/
theorem scan_last : ∀ (f : Nat) (s : ByteArray) (x : Int), 0 ≤ x → x ≤ s.size → ((scanL f s x).getLast?.map (·.1)).getD x = x + (encAllL (scanR f ((bytesOf s).drop x.toNat))).length
  | 0, _, _, _, _ => by simp [scanL, scanR, encAllL]
  | f + 1, s, x, h0, h1 => by
    have hs : (s.extract x.toNat s.size).size = s.size - x.toNat := by rw [ByteArray.size_extract]; omega
    have he := extract_all s x.toNat
    cases hn : nextL (bytesOf (s.extract x.toNat s.size)) with
    | none =>
      simp only [scanL]
      rw [if_pos (nextS_none hn), ← he, scan_stop hn]
      simp [encAllL]
    | some q =>
      obtain ⟨k, p⟩ := q
      obtain ⟨e1, e2, e3⟩ := nextS_some hn
      have hl := nextS_len (s.extract x.toNat s.size)
      have hst := scan_step (f := f) hn
      rw [he] at hst
      have ih := scan_last f s (x + (nextS (s.extract x.toNat s.size)).2.2) (by omega) (by omega)
      rw [hst, List.drop_drop]
      simp only [scanL]
      rw [if_neg (by omega)]
      rw [show ∀ (a : Int × S37) (l : List (Int × S37)) (z : Int), (((a :: l).getLast?.map (·.1)).getD z) = ((l.getLast?.map (·.1)).getD a.1) from by
        intro a l z
        cases l with
        | nil => rfl
        | cons b l => rw [List.getLast?_cons_cons]; cases h : (b :: l).getLast? with
          | none => simp at h
          | some q => rfl]
      rw [ih, e3, show (x + (9 + (p.length : Int))).toNat = x.toNat + (9 + p.length) by omega]
      simp only [encAllL, List.length_append, encL_len]
      push_cast
      omega

/-- What Scan comes to, on lists. -/
theorem scan_is (s : ByteArray) : ((scanL s.size s 0).map (·.2)).map toR = scanR s.size (bytesOf s) ∧ scanEnd s = (encAllL (scanR s.size (bytesOf s))).length := by
  constructor
  · rw [List.map_map]
    exact scan_list s.size s 0 (by omega) (by omega)
  · have := scan_last s.size s 0 (by omega) (by omega)
    unfold scanEnd lastAt
    simpa using this

end Go.Proofs.Ytnaddmkaakdhoaa.J
