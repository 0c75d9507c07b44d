/-
  The reference's Scan comes to the same records, end and state as the program's, for texts of at most 2^40 bytes; the reference's comparison of lists of records; the example of chapter 40.
-/
import Derived.Test.YtnaddmkaakdhoaaJ24
import Derived.Test.YtnaddmkaakdhoaaJB
import Derived.Test.YtnaddmkaakdhoaaJ26
import Derived.Test.YtnaddmkaakdhoaaXPr
namespace Go.Proofs.Ytnaddmkaakdhoaa.J
open Go.RowKit Go.Proofs.YtnaddmkaakdhoaaW.PrintWords Go.Proofs.YtnaddmkaakdhoaaW.PrintLast Go.Proofs.YtnaddmkaakdhoaaW.PrintMore
open Jl
set_option linter.unusedVariables false
set_option linter.unusedSimpArgs false

theorem wraps_i64 (n : Int) (h₀ : 0 ≤ n) (h₁ : n < 2 ^ 62) : IntKind.i64.wrap n = n := by rw [IntKind.wrap_i64]; omega
theorem or4i (a b c d : Int) (ha : 0 ≤ a ∧ a ≤ 255) (hb : 0 ≤ b ∧ b ≤ 255) (hc : 0 ≤ c ∧ c ≤ 255) (hd : 0 ≤ d ∧ d ≤ 255) :
    Go.bits .or .i64 (Go.bits .or .i64 (Go.bits .or .i64 (wrap64 ((wrap64 a) * 16777216)) (wrap64 ((wrap64 b) * 65536))) (wrap64 ((wrap64 c) * 256))) (wrap64 d) = a * 16777216 + b * 65536 + c * 256 + d := by
  have e1 : wrap64 ((wrap64 a) * 16777216) = a * 16777216 := by rw [w64 (x := a) (by omega) (by omega), w64 (by omega) (by omega)]
  have e2 : wrap64 ((wrap64 b) * 65536) = b * 65536 := by rw [w64 (x := b) (by omega) (by omega), w64 (by omega) (by omega)]
  have e3 : wrap64 ((wrap64 c) * 256) = c * 256 := by rw [w64 (x := c) (by omega) (by omega), w64 (by omega) (by omega)]
  have e4 : wrap64 d = d := w64 (by omega) (by omega)
  rw [e1, e2, e3, e4]
  rw [bits_join .i64 62 (by decide) wraps_i64 24 (a * 16777216) (b * 65536) (by omega) (by omega) (by omega) (by omega) (by omega) (by omega)]
  rw [bits_join .i64 62 (by decide) wraps_i64 16 (a * 16777216 + b * 65536) (c * 256) (by omega) (by omega) (by omega) (by omega) (by omega) (by omega)]
  rw [bits_join .i64 62 (by decide) wraps_i64 8 (a * 16777216 + b * 65536 + c * 256) d (by omega) (by omega) (by omega) (by omega) (by omega) (by omega)]
theorem length_f (s : ByteArray) (h : 4 ≤ s.size) : corporaref40_length.f s = some (g32 s) := by
  unfold corporaref40_length.f g32
  rw [if_pos (by omega), if_pos (by omega), if_pos (by omega), if_pos (by omega), or4i _ _ _ _ (bt_range s 0) (bt_range s 1) (bt_range s 2) (bt_range s 3)]

def lastFrom (x : Int) (l : List (Int × S37)) : Int := (l.getLast?.map (·.1)).getD x
theorem lastFrom_cons (x : Int) (a : Int × S37) (l : List (Int × S37)) : lastFrom x (a :: l) = lastFrom a.1 l := by
  unfold lastFrom
  cases l with
  | nil => rfl
  | cons b l =>
    rw [List.getLast?_cons_cons]
    cases h : (b :: l).getLast? with
    | none => simp at h
    | some q => rfl

theorem scanL_none {f : Nat} {s : ByteArray} {x : Int} (h : (nextS (s.extract x.toNat s.size)).2.2 = 0) : scanL f s x = [] := by
  cases f with
  | zero => rfl
  | succ f => simp only [scanL]; rw [if_pos h]

theorem bytesOf_toList {a b : ByteArray} (h : a.toList = b.toList) : bytesOf a = bytesOf b := by
  unfold bytesOf
  rw [← ByteArray.toList_eq, ← ByteArray.toList_eq, h]
theorem toList_nil (s : ByteArray) : s.toList = [] ↔ s.size = 0 := by
  rw [← isEmpty_iff, List.isEmpty_iff]

theorem rj2_bad (s : ByteArray) (x5 : List S37) (x6 : Int) (r : ByteArray) (hr : 9 ≤ r.size) (hr1 : r.size ≤ 1099511627776) (k0 : Int) (p0 : ByteArray) :
    Ev (fun k => corporaref40_Scan.j2 k s x5 x6 r true k0 p0) (x5, x6, if bt r (r.size - 1) = 0 then 1 else 2) := by
  refine Ev.step (fun k => by simp only [corporaref40_Scan.j2]; exact rfl) ?_
  refine Ev.congr (fun k => if_pos trivial) ?_
  rw [w64 (x := (r.size : Int) - 1) (by omega) (by omega)]
  refine Ev.congr (fun k => if_pos (by omega)) ?_
  refine Ev.congr (fun k => if_pos (by omega)) ?_
  by_cases c : bt r (r.size - 1) = 0
  · refine Ev.congr (fun k => if_pos c) ?_
    rw [if_pos c]
    exact Ev.now _
  · refine Ev.congr (fun k => if_neg c) ?_
    rw [if_neg c]
    exact Ev.now _

theorem state_bad (r : ByteArray) (h9 : 9 ≤ r.size) (hg : 9 + g32 r ≤ r.size) : scanState r = if bt r (r.size - 1) = 0 then 1 else 2 := by
  unfold scanState
  rw [if_neg (by omega)]
  by_cases c : bt r (r.size - 1) = 0
  · rw [if_pos (.inr (.inr c)), if_pos c]
  · rw [if_neg c, if_neg (by rintro (z | z | z) <;> first | omega | exact c z)]

theorem rscan_l0 (s : ByteArray) (hsz : s.size ≤ 1099511627776) : ∀ (f : Nat) (x5 : List S37) (x6 : Int), 0 ≤ x6 → x6 ≤ s.size → s.size - x6 ≤ f → x5.length ≤ x6 →
    Ev (fun k => corporaref40_Scan.l0 k s x5 x6) (x5 ++ (scanL f s x6).map (·.2), lastFrom x6 (scanL f s x6), scanState (s.extract (lastFrom x6 (scanL f s x6)).toNat s.size)) := by
  intro f
  induction f with
  | zero =>
    intro x5 x6 h0 h1 hf hl
    have hs : (s.extract x6.toNat s.size).size = 0 := by rw [ByteArray.size_extract]; omega
    refine Ev.step (fun k => by simp only [corporaref40_Scan.l0]; exact rfl) ?_
    refine Ev.congr (fun k => if_pos h0) ?_
    refine Ev.congr (fun k => if_pos h1) ?_
    refine Ev.congr (fun k => if_pos ((toList_nil _).2 hs)) ?_
    simp only [scanL, List.map_nil, List.append_nil, lastFrom, List.getLast?_nil, Option.map_none, Option.getD_none]
    unfold scanState
    rw [if_pos hs]
    exact Ev.now _
  | succ f ih =>
    intro x5 x6 h0 h1 hf hl
    obtain ⟨r, hr⟩ : ∃ r, s.extract x6.toNat s.size = r := ⟨_, rfl⟩
    have hs : r.size = s.size - x6.toNat := by rw [← hr, ByteArray.size_extract]; omega
    have hstop : ∀ st, scanState r = st → (nextS r).2.2 = 0 → Ev (fun _ : Nat => (some (x5, x6, st) : Option (List S37 × Int × Int))) (x5 ++ (scanL (f + 1) s x6).map (·.2), lastFrom x6 (scanL (f + 1) s x6), scanState (s.extract (lastFrom x6 (scanL (f + 1) s x6)).toNat s.size)) := by
      intro st h hn
      rw [scanL_none (by rw [hr]; exact hn)]
      simp only [List.map_nil, List.append_nil, lastFrom, List.getLast?_nil, Option.map_none, Option.getD_none]
      rw [hr, h]
      exact Ev.now _
    have hgoal : ∀ (g : Nat → Option (List S37 × Int × Int)) (st : Int), Ev g (x5, x6, st) → scanState r = st → (nextS r).2.2 = 0 → Ev g (x5 ++ (scanL (f + 1) s x6).map (·.2), lastFrom x6 (scanL (f + 1) s x6), scanState (s.extract (lastFrom x6 (scanL (f + 1) s x6)).toNat s.size)) := by
      intro g st hg h hn
      rw [scanL_none (by rw [hr]; exact hn)]
      simp only [List.map_nil, List.append_nil, lastFrom, List.getLast?_nil, Option.map_none, Option.getD_none]
      rw [hr, h]
      exact hg
    refine Ev.step (fun k => by simp only [corporaref40_Scan.l0]; exact rfl) ?_
    refine Ev.congr (fun k => if_pos h0) ?_
    refine Ev.congr (fun k => if_pos h1) ?_
    rw [hr]
    have hnl := nextS_len r
    by_cases c0 : r.size = 0
    · refine Ev.congr (fun k => if_pos ((toList_nil _).2 c0)) ?_
      exact hgoal _ 0 (Ev.now _) (by unfold scanState; rw [if_pos c0]) (by omega)
    refine Ev.congr (fun k => if_neg (fun z => c0 ((toList_nil _).1 z))) ?_
    by_cases c9 : r.size < 9
    · refine Ev.congr (fun k => if_pos (by omega)) ?_
      refine Ev.step (fun k => by simp only [corporaref40_Scan.j1]; exact rfl) ?_
      refine Ev.congr (fun k => if_pos trivial) ?_
      exact hgoal _ 1 (Ev.now _) (by unfold scanState; rw [if_neg c0, if_pos (.inl c9)]) (by omega)
    refine Ev.congr (fun k => if_neg (by omega)) ?_
    have hg := g32_range r
    rw [length_f r (by omega)]
    simp only [Option.bind_some]
    rw [w64 (x := 9 + g32 r) (by omega) (by omega)]
    by_cases cg : (r.size : Int) < 9 + g32 r
    · rw [decide_eq_true cg]
      refine Ev.step (fun k => by simp only [corporaref40_Scan.j1]; exact rfl) ?_
      refine Ev.congr (fun k => if_pos trivial) ?_
      exact hgoal _ 1 (Ev.now _) (by unfold scanState; rw [if_neg c0, if_pos (.inr (.inl cg))]) (by
        unfold nextS; rw [if_neg (by omega), if_pos (.inr cg)])
    rw [decide_eq_false cg]
    refine Ev.step (fun k => by simp only [corporaref40_Scan.j1]; exact rfl) ?_
    refine Ev.congr (fun k => if_neg (by simp)) ?_
    refine Ev.congr (fun k => if_pos (by omega)) ?_
    rw [length_f r (by omega)]
    simp only [Option.bind_some]
    rw [w64 (x := 9 + g32 r) (by omega) (by omega)]
    refine Ev.congr (fun k => if_pos (by omega)) ?_
    refine Ev.congr (fun k => if_pos (by omega)) ?_
    have h8 := bt_range r 8
    rw [w64 (x := bt r 8) (by omega) (by omega)]
    obtain ⟨p, hp⟩ : ∃ p, r.extract 9 (9 + g32 r).toNat = p := ⟨_, rfl⟩
    have hps : (p.size : Int) = g32 r := by rw [← hp, ByteArray.size_extract]; omega
    have hpl : bytesOf p = ((bytesOf r).drop 9).take (g32 r).toNat := by
      rw [← hp, bytesOf_extract r 9 _ (by omega)]
      congr 1
      omega
    have hdec : dec4 (bytesOf r) = g32 r := (g32_dec r).symm
    have hb8 : bt r 8 = (bytesOf r).getD 8 0 := bt_list r 8
    rw [hp]
    refine Ev.bind (renc_f _ _) ?_
    -- what is read, if something is
    have hsome : ∀ q, nextL (bytesOf r) = some q → q = (bt r 8, bytesOf p) ∧ (bt r 8 = 1 ∨ bt r 8 = 2) ∧ g32 r ≤ 1048576 ∧ encL (bt r 8) (bytesOf p) = (bytesOf r).take (9 + (g32 r).toNat) := by
      rintro ⟨k, q⟩ h
      obtain ⟨e1, e2, e3, rest, e4⟩ := next_some (bytesOf_bytes r) h
      have hd : dec4 (bytesOf r) = q.length := by
        rw [e4]; unfold encL; rw [List.append_assoc, List.append_assoc]; exact dec4_be4 _ (by omega) (by omega) _
      unfold nextL at h
      rw [bytesOf_length, hdec, if_neg (by omega), if_neg (by rw [← hdec, hd]; omega)] at h
      split at h
      · simp only [Option.some.injEq, Prod.mk.injEq] at h
        have ek : k = bt r 8 := by rw [hb8]; exact h.1.symm
        have eq : q = bytesOf p := by rw [hpl]; exact h.2.symm
        refine ⟨by rw [ek, eq], by rw [← ek]; exact e1, by rw [← hdec, hd]; omega, ?_⟩
        rw [← ek, ← eq, e4, List.take_left' (by rw [encL_len, ← hdec, hd]; omega)]
      · cases h
    have hnone : ∀ z, (∀ q, nextL (bytesOf r) = some q → z) → ¬ z → (nextS r).2.2 = 0 := by
      intro z h hz
      cases hn : nextL (bytesOf r) with
      | none => exact nextS_none hn
      | some q => exact absurd (h q hn) hz
    by_cases ck : bt r 8 = 1 ∨ bt r 8 = 2
    · by_cases c20 : g32 r > 1048576
      · have e : encE (bt r 8) p = (⟨#[]⟩, 2) := by unfold encE; rw [if_pos ck, if_pos (by omega)]
        rw [e]
        refine Ev.congr (fun k => if_neg (by decide)) ?_
        refine hgoal _ _ (rj2_bad s x5 x6 r (by omega) (by omega) _ _) (state_bad r (by omega) (by omega)) ?_
        exact hnone (g32 r ≤ 1048576) (fun q h => (hsome q h).2.2.1) (by omega)
      · have e : encE (bt r 8) p = (strOfNums (encL (bt r 8) (bytesOf p)), 0) := by unfold encE; rw [if_pos ck, if_neg (by omega)]
        have hts : (strOfNums (encL (bt r 8) (bytesOf p))).size = 9 + (g32 r).toNat := by rw [str_size, encL_len, bytesOf_length]; omega
        rw [e]
        refine Ev.congr (fun k => if_pos rfl) ?_
        dsimp only
        rw [hts]
        refine Ev.congr (fun k => if_pos (by omega)) ?_
        refine Ev.congr (fun k => if_pos (by omega)) ?_
        have hbk : Crc.Byte (bt r 8) := h8
        have hex : bytesOf (r.extract 0 (((9 + (g32 r).toNat : Nat) : Int)).toNat) = (bytesOf r).take (9 + (g32 r).toNat) := by
          rw [bytesOf_extract r 0 _ (by omega), List.drop_zero]
          congr 1
        by_cases ceq : encL (bt r 8) (bytesOf p) = (bytesOf r).take (9 + (g32 r).toNat)
        · have hte : strOfNums (encL (bt r 8) (bytesOf p)) = r.extract 0 (((9 + (g32 r).toNat : Nat) : Int)).toNat := by
            apply bytesOf_inj
            rw [hex, bytesOf_str (encL_bytes hbk (bytesOf_bytes p)), ceq]
          have hbne : ((strOfNums (encL (bt r 8) (bytesOf p))).toList != (r.extract 0 (((9 + (g32 r).toNat : Nat) : Int)).toNat).toList) = false := by
            rw [← hte]; simp
          rw [hbne]
          have hne : nextL (bytesOf r) = some (bt r 8, bytesOf p) := by
            have := next_enc (k := bt r 8) (p := bytesOf p) ck (by rw [bytesOf_length]; omega) ((bytesOf r).drop (9 + (g32 r).toNat))
            rwa [ceq, List.take_append_drop] at this
          obtain ⟨n1, n2, n3⟩ := nextS_some hne
          have n2' : (nextS r).2.1 = p := bytesOf_inj n2
          refine Ev.step (fun k => by simp only [corporaref40_Scan.j2]; exact rfl) ?_
          refine Ev.congr (fun k => if_neg (by simp)) ?_
          refine Ev.congr (fun k => if_pos (by omega)) ?_
          rw [w64 (x := x6 + 9) (by omega) (by omega), w64 (x := x6 + 9 + p.size) (by omega) (by omega)]
          have hst : scanL (f + 1) s x6 = (x6 + (9 + g32 r), ⟨bt r 8, p⟩) :: scanL f s (x6 + (9 + g32 r)) := by
            simp only [scanL]
            rw [hr, if_neg (by rw [n3, bytesOf_length]; omega), n1, n2', n3, bytesOf_length, hps]
          rw [hst, lastFrom_cons, List.map_cons]
          have hih := ih (x5 ++ [(⟨bt r 8, p⟩ : S37)]) (x6 + (9 + g32 r)) (by omega) (by omega) (by omega) (by simp; omega)
          rw [List.append_assoc] at hih
          rw [show x6 + 9 + (p.size : Int) = x6 + (9 + g32 r) by omega]
          exact hih
        · have hbne : ((strOfNums (encL (bt r 8) (bytesOf p))).toList != (r.extract 0 (((9 + (g32 r).toNat : Nat) : Int)).toNat).toList) = true := by
            rw [bne_iff_ne]
            intro z
            apply ceq
            rw [← hex, ← bytesOf_toList z, bytesOf_str (encL_bytes hbk (bytesOf_bytes p))]
          rw [hbne]
          refine hgoal _ _ (rj2_bad s x5 x6 r (by omega) (by omega) _ _) (state_bad r (by omega) (by omega)) ?_
          exact hnone _ (fun q h => (hsome q h).2.2.2) ceq
    · have e : encE (bt r 8) p = (⟨#[]⟩, 1) := by unfold encE; rw [if_neg ck]
      rw [e]
      refine Ev.congr (fun k => if_neg (by decide)) ?_
      refine hgoal _ _ (rj2_bad s x5 x6 r (by omega) (by omega) _ _) (state_bad r (by omega) (by omega)) ?_
      exact hnone _ (fun q h => (hsome q h).2.1) ck

/-- What Scan comes to, in one word for both. -/
def scanAll (s : ByteArray) : List S37 × Int × Int := ((scanL s.size s 0).map (·.2), scanEnd s, scanState (s.extract (scanEnd s).toNat s.size))
theorem scan_f (s : ByteArray) (h : s.size ≤ 1099511627776) : journal_Scan.f s = some (scanAll s) := by
  unfold journal_Scan.f
  rw [if_pos h]
  rfl
theorem rscan_f (s : ByteArray) (h : s.size ≤ 1099511627776) : Ev (fun k => corporaref40_Scan.f k s) (scanAll s) := by
  have := rscan_l0 s h s.size [] 0 (by omega) (by omega) (by omega) (by simp)
  rw [List.nil_append] at this
  exact this

/-- The reference's comparison: a list is the same as itself. -/
theorem same_l0 (x : List S37) (hx : x.length ≤ 1099511627776) : ∀ (d i : Nat), i ≤ x.length → x.length - i = d → Ev (fun k => corporaref40_Same.l0 k x x (x.length : Int) (i : Int)) true
  | 0, i, hi, hd => by
    refine Ev.step (fun k => by simp only [corporaref40_Same.l0]; exact rfl) ?_
    refine Ev.congr (fun k => if_neg (by omega)) ?_
    exact Ev.now _
  | d + 1, i, hi, hd => by
    refine Ev.step (fun k => by simp only [corporaref40_Same.l0]; exact rfl) ?_
    refine Ev.congr (fun k => if_pos (by omega)) ?_
    refine Ev.congr (fun k => if_pos (by omega)) ?_
    refine Ev.congr (fun k => if_pos (by omega)) ?_
    refine Ev.congr (fun k => if_pos (by omega)) ?_
    refine Ev.congr (fun k => if_neg (by simp)) ?_
    rw [show wrap64 ((i : Int) + 1) = ((i + 1 : Nat) : Int) by unfold wrap64; omega]
    exact same_l0 x hx d (i + 1) (by omega) (by omega)
theorem same_f (x : List S37) (hx : x.length ≤ 1099511627776) : Ev (fun k => corporaref40_Same.f k x x) true := by
  unfold corporaref40_Same.f
  refine Ev.congr (fun k => if_pos rfl) ?_
  exact same_l0 x hx x.length 0 (by omega) (by omega)

theorem scan_len (s : ByteArray) : (scanAll s).1.length ≤ s.size := by
  have := scanL_len s.size s 0
  simpa [scanAll] using this

/-- The example of chapter 40. -/
theorem known_f : Ev (fun k => corporalaw40_known.f k) true := by
  unfold corporalaw40_known.f
  rw [scan_f _ (by decide)]
  simp only [Option.bind_some]
  refine Ev.bind (penc_f _ _) ?_
  have e0 : encE 2 (⟨#[116]⟩ : ByteArray) = ((encE 2 (⟨#[116]⟩ : ByteArray)).1, 0) := rfl
  have hs : (encE 2 (⟨#[116]⟩ : ByteArray)).1.size = 10 := rfl
  rw [e0]
  dsimp only
  rw [scan_f _ (by omega)]
  simp only [Option.bind_some]
  obtain ⟨E, hE⟩ : ∃ E, (encE 2 (⟨#[116]⟩ : ByteArray)).1 = E := ⟨_, rfl⟩
  have a1 : ((scanAll (⟨#[0, 0, 0, 0, 0, 0, 0, 0, 0]⟩ : ByteArray)).1.length : Int) = 0 := by decide +kernel
  have a2 : (scanAll (⟨#[0, 0, 0, 0, 0, 0, 0, 0, 0]⟩ : ByteArray)).2.1 = 0 := by decide +kernel
  have a3 : (scanAll (⟨#[0, 0, 0, 0, 0, 0, 0, 0, 0]⟩ : ByteArray)).2.2 = 1 := by decide +kernel
  have b1 : ((scanAll (encE 2 (⟨#[116]⟩ : ByteArray)).1).1.length : Int) = 1 := by decide +kernel
  have b2 : (scanAll (encE 2 (⟨#[116]⟩ : ByteArray)).1).2.1 = 10 := by decide +kernel
  have b3 : (scanAll (encE 2 (⟨#[116]⟩ : ByteArray)).1).2.2 = 0 := by decide +kernel
  rw [hE] at b1 b2 b3 hs ⊢
  refine Ev.congr (fun k => if_pos a1) ?_
  refine Ev.congr (fun k => if_pos a2) ?_
  refine Ev.congr (fun k => if_pos a3) ?_
  refine Ev.congr (fun k => if_pos trivial) ?_
  refine Ev.congr (fun k => if_pos (by omega)) ?_
  refine Ev.congr (fun k => if_pos b1) ?_
  refine Ev.congr (fun k => if_pos b2) ?_
  rw [b3]
  exact Ev.now _

end Go.Proofs.Ytnaddmkaakdhoaa.J
