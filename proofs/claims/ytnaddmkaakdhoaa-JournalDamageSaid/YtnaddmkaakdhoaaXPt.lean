/-
  What Scan finds in a text that begins with records: these records, where they end; and in any text: records whose bytes are its beginning. Texts of at most 2^40 bytes.
-/
import Derived.Test.YtnaddmkaakdhoaaXPs
namespace Go.Proofs.Ytnaddmkaakdhoaa.J
open Go.RowKit Go.Proofs.YtnaddmkaakdhoaaW.PrintWords Go.Proofs.YtnaddmkaakdhoaaW.PrintLast Go.Proofs.YtnaddmkaakdhoaaW.PrintMore
open Jl
set_option linter.unusedVariables false
set_option linter.unusedSimpArgs false

theorem map_toR_inj {a b : List S37} (h : a.map toR = b.map toR) : a = b := (List.map_inj_right (fun _ _ e => toR_inj e)).1 h

theorem scan_begin (x : List S37) (hx : ∀ r ∈ x, Jl.Good (toR r)) (s : ByteArray) (rest : List Int) (hs : bytesOf s = encAllL (x.map toR) ++ rest) (hn : nextL rest = none) :
    (scanAll s).1 = x ∧ (scanAll s).2.1 = (encAllL (x.map toR)).length := by
  obtain ⟨h1, h2⟩ := scan_is s
  have hg : ∀ r ∈ x.map toR, Jl.Good r := by
    intro r hr
    obtain ⟨q, hq, rfl⟩ := List.mem_map.1 hr
    exact hx q hq
  have hlen : ∀ (y : List (Int × List Int)), y.length ≤ (encAllL y).length := by
    intro y
    induction y with
    | nil => simp [encAllL]
    | cons r y ih => simp only [encAllL, List.length_append, encL_len, List.length_cons]; omega
  have hl : (x.map toR).length ≤ s.size := by
    have e := congrArg List.length hs
    rw [bytesOf_length, List.length_append] at e
    have := hlen (x.map toR)
    omega
  rw [hs, scan_pre _ _ _ hg hl, scan_stop hn, List.append_nil] at h1 h2
  exact ⟨map_toR_inj h1, h2⟩

theorem state_zero (r : ByteArray) : scanState r = 0 ↔ r.size = 0 := by
  unfold scanState
  constructor
  · intro h
    split at h
    · assumption
    · split at h <;> cases h
  · intro h
    rw [if_pos h]

theorem scanAll_end (s : ByteArray) : (scanAll s).2.1 = scanEnd s := rfl
theorem scanAll_state (s : ByteArray) : (scanAll s).2.2 = scanState (s.extract (scanAll s).2.1.toNat s.size) := rfl
theorem scanAll_eq {s : ByteArray} {x : List S37} {n st : Int} (h1 : (scanAll s).1 = x) (h2 : (scanAll s).2.1 = n) (h3 : (scanAll s).2.2 = st) : scanAll s = (x, n, st) := by
  rw [← h1, ← h2, ← h3]

theorem scan_text (x : List S37) (hx : ∀ r ∈ x, Jl.Good (toR r)) : scanAll (text x) = (x, ((text x).size : Int), 0) := by
  obtain ⟨h1, h2⟩ := scan_begin x hx (text x) [] (by rw [text_bytes x hx, List.append_nil]) (next_short (by simp))
  have hs : (text x).size = (encAllL (x.map toR)).length := str_size _
  rw [← hs] at h2
  refine scanAll_eq h1 h2 ?_
  rw [scanAll_state, h2, state_zero, ByteArray.size_extract]
  omega

theorem scan_any (s : ByteArray) : (∀ r ∈ (scanAll s).1, Jl.Good (toR r)) ∧ (scanAll s).2.1 = ((text (scanAll s).1).size : Int) ∧ (scanAll s).2.1 ≤ s.size ∧
    s.extract 0 (scanAll s).2.1.toNat = text (scanAll s).1 ∧ ((scanAll s).2.2 = 0 ↔ (scanAll s).2.1 = s.size) := by
  obtain ⟨h1, h2⟩ := scan_is s
  have hb := bytesOf_bytes s
  have hgood : ∀ r ∈ (scanAll s).1, Jl.Good (toR r) := by
    intro r hr
    refine scan_good s.size hb (toR r) ?_
    rw [← h1]
    exact List.mem_map_of_mem hr
  obtain ⟨rest, e, _⟩ := scan_split s.size hb
  have e1 : (scanAll s).1.map toR = scanR s.size (bytesOf s) := h1
  have e2 : (scanAll s).2.1 = (encAllL (scanR s.size (bytesOf s))).length := h2
  have ht : ((text (scanAll s).1).size : Int) = (encAllL (scanR s.size (bytesOf s))).length := by
    rw [show (text (scanAll s).1).size = _ from str_size _, e1]
  have hlen := congrArg List.length e
  rw [bytesOf_length, List.length_append] at hlen
  refine ⟨hgood, by rw [ht]; exact e2, by omega, ?_, ?_⟩
  · apply bytesOf_inj
    rw [bytesOf_extract s 0 _ (by omega), List.drop_zero, text_bytes _ hgood, e1, e2]
    have : ((bytesOf s).take ((encAllL (scanR s.size (bytesOf s))).length)) = encAllL (scanR s.size (bytesOf s)) := by
      have h := congrArg (List.take (encAllL (scanR s.size (bytesOf s))).length) e
      rw [List.take_left] at h
      exact h
    rw [show ((((encAllL (scanR s.size (bytesOf s))).length : Nat) : Int)).toNat - 0 = (encAllL (scanR s.size (bytesOf s))).length by omega]
    exact this
  · rw [scanAll_state, state_zero, ByteArray.size_extract]
    omega

end Go.Proofs.Ytnaddmkaakdhoaa.J
