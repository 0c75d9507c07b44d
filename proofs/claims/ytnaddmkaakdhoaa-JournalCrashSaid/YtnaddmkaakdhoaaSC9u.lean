/-
  Texts of this claim, joined, without what the claim does not use: XLb XRa XRb XRc XRd XRe XRf XL9
-/
import Derived.Test.YtnaddmkaakdhoaaSC9t
section
namespace Go.Proofs.Ytnaddmkaakdhoaa.Pure
open Go.RowKit Go.Proofs.Ytnaddmkaakdhoaa.J Go.Proofs.YtnaddmkaakdhoaaW.PrintWords Go.Proofs.YtnaddmkaakdhoaaW.PrintLast Go.Proofs.YtnaddmkaakdhoaaW.PrintMore
open Jl
set_option linter.unusedVariables false
theorem text_app2 (x y : List S37) : text (x ++ y) = text x ++ text y := by
  unfold text
  rw [List.map_append, Jl.encAllL_app, str_app]
theorem torn_state2 {r : ByteArray} {R : List Int} (hr : bytesOf r = R) (h : Torn R) : scanState r ≠ 2 := by
  have hl : R.length = r.size := by rw [← hr, bytesOf_length]
  unfold scanState
  by_cases c : r.size = 0
  · rw [if_pos c]; decide
  · rw [if_neg c, if_pos]
    · decide
    · rcases h with h | h | h | h
      · rw [h] at hl; simp at hl; omega
      · exact .inl (by omega)
      · rw [← hr, ← g32_dec, bytesOf_length] at h
        exact .inr (.inl h)
      · refine .inr (.inr ?_)
        have e := bt_list r (r.size - 1)
        rw [show ((r.size - 1 : Nat) : Int) = (r.size : Int) - 1 by omega] at e
        rw [e, hr, List.getD_eq_getElem?_getD, ← hl, ← List.getLast?_eq_getElem?, h]
        rfl
theorem zeros_bytes (z : Nat) : bytesOf (Dk.zeros z) = List.replicate z 0 := by
  unfold Dk.zeros
  apply List.ext_getElem?
  intro i
  have h : ∀ z : Nat, Lib.repeatL ([0] : List UInt8) z = List.replicate z 0 := fun z => by
    induction z with
    | zero => rfl
    | succ n ih => rw [List.replicate_succ, ← ih]; rfl
  unfold bytesOf
  rw [h]
  simp [List.map_replicate]
theorem crash_scan (x y : List S37) (hx : ∀ r ∈ x, Jl.Good (toR r)) (hy : ∀ r ∈ y, Jl.Good (toR r)) (k z : Nat) (hk : k ≤ (text y).size) (hz : z ≤ k) (h4 : z ≤ 4) (s : ByteArray) (hs : s = (text x ++ text y).extract 0 ((text x).size + k - z) ++ Dk.zeros z) :
    ∃ j, x.length ≤ j ∧ j ≤ (x ++ y).length ∧ (scanAll s).1 = (x ++ y).take j ∧ (scanAll s).2.2 ≠ 2 := by
  have hg : ∀ r ∈ x ++ y, Jl.Good (toR r) := fun r hr => (List.mem_append.1 hr).elim (hx r) (hy r)
  have zx : (text x).size = (Jl.encAllL (x.map toR)).length := str_size _
  have zy : (text y).size = (Jl.encAllL (y.map toR)).length := str_size _
  have hsz : (text x ++ text y).size = (Jl.encAllL ((x ++ y).map toR)).length := by rw [← text_app2]; exact str_size _
  have hsz2 : (text x ++ text y).size = (text x).size + (text y).size := ByteArray.size_append
  have hsb : bytesOf s = (encAllL ((x ++ y).map toR)).take (((text x).size + k) - z) ++ List.replicate z 0 := by
    rw [hs, bytesOf_app, zeros_bytes, bytesOf_extract _ _ _ (by omega), ← text_app2, text_bytes _ hg]
    simp only [List.drop_zero, Nat.sub_zero]
  obtain ⟨j, R, hj, hR, hRn, hRt, hje, hjl⟩ := torn_scan ((x ++ y).map toR) ((text x).size + k) z (fun r hr => by obtain ⟨q, hq, rfl⟩ := List.mem_map.1 hr; exact hg q hq) (by omega) (by omega) h4
  rw [← hsb, ← List.map_take] at hR
  rw [List.length_map] at hj hjl
  rw [← List.map_take] at hje hjl
  obtain ⟨e1, e2⟩ := scan_begin ((x ++ y).take j) (fun r hr => hg r (List.mem_of_mem_take hr)) s R hR hRn
  have e3 : (scanAll s).2.2 ≠ 2 := by
    rw [scanAll_state, e2]
    refine torn_state2 (R := R) ?_ hRt
    rw [extract_all, hR]
    simp
  refine ⟨j, ?_, hj, e1, e3⟩
  by_cases hlt : j < x.length
  · exfalso
    have h1 := hjl (by rw [List.length_append]; omega)
    have h2 : (x ++ y).take (j + 1) = x.take (j + 1) := by rw [List.take_append_of_le_length (by omega)]
    have h3 : (encAllL (x.map toR)).length = (encAllL ((x.take (j + 1)).map toR)).length + (encAllL ((x.drop (j + 1)).map toR)).length := by
      rw [← List.length_append, ← Jl.encAllL_app, ← List.map_append, List.take_append_drop]
    rw [h2] at h1
    omega
  · omega
end Go.Proofs.Ytnaddmkaakdhoaa.Pure

end
section
namespace Go.Proofs.Ytnaddmkaakdhoaa.Dk
open J
def fnd (l : List S69) (s : ByteArray) : Int := if has l s = true then (l.getD (pos l s) z69).f1 else -1
theorem has_false {l : List S69} {s : ByteArray} (h : ∀ x ∈ l, x.f0 ≠ s) : has l s = false := by
  rw [Bool.eq_false_iff]
  intro k
  obtain ⟨x, hx, e⟩ := has_iff.1 k
  exact h x hx e
theorem fnd_here {l : List S69} (hs : Srt l) {x : S69} (hx : x ∈ l) {s : ByteArray} (e : x.f0 = s) : fnd l s = x.f1 := by
  have hh : has l s = true := has_iff.2 ⟨x, hx, e⟩
  obtain ⟨y, hy, e1, e2⟩ := pos_mem hs hh
  unfold fnd
  rw [if_pos hh, e2, hs.inj hy hx (by rw [e1, e])]
theorem fnd_none {l : List S69} {s : ByteArray} (h : ∀ x ∈ l, x.f0 ≠ s) : fnd l s = -1 := by
  unfold fnd
  rw [has_false h]
  rfl
theorem drop_filter {l : List S69} (hs : Srt l) (s : ByteArray) : Dk.drop l s = l.filter (fun x => decide (x.f0 ≠ s)) := by
  induction l with
  | nil => rfl
  | cons y l ih =>
    have hs' : Srt l := (List.pairwise_cons.1 hs).2
    have hy := (List.pairwise_cons.1 hs).1
    by_cases k : y.f0 = s
    · have hp : pos (y :: l) s = 0 := pos_cons_ge hs (by rw [k]; exact lt_irrefl _)
      have hh : has (y :: l) s = true := has_iff.2 ⟨y, List.mem_cons_self, k⟩
      unfold Dk.drop
      rw [if_pos hh, hp, List.eraseIdx_cons_zero, List.filter_cons_of_neg (by simp [k])]
      refine (List.filter_eq_self.2 fun x hx => ?_).symm
      simp only [decide_eq_true_eq]
      intro e
      have := hy x hx
      rw [k, e] at this
      exact lt_irrefl _ this
    · rw [List.filter_cons_of_pos (by simpa using k), ← ih hs']
      by_cases h : nk y.f0 < nk s
      · have hh : has (y :: l) s = has l s := by simp [has, nk_iff, k]
        unfold Dk.drop
        rw [hh, pos_cons_lt h]
        split <;> rfl
      · have hl : ∀ z ∈ y :: l, z.f0 ≠ s := fun z hz e2 => by
          rcases List.mem_cons.1 hz with rfl | hz
          · exact k e2
          · exact h (by have := hy z hz; rwa [e2] at this)
        unfold Dk.drop
        rw [has_false hl, has_false (fun z hz => hl z (List.mem_cons_of_mem _ hz))]
        rfl
end Go.Proofs.Ytnaddmkaakdhoaa.Dk
namespace Go.Proofs.Ytnaddmkaakdhoaa.J
open Go.RowKit Go.Proofs.YtnaddmkaakdhoaaW.PrintWords Go.Proofs.YtnaddmkaakdhoaaW.PrintLast Go.Proofs.YtnaddmkaakdhoaaW.PrintMore
open Dk (Srt pos has fnd)
set_option linter.unusedVariables false
set_option linter.unusedSimpArgs false
set_option maxHeartbeats 8000000 in
set_option maxRecDepth 100000 in
theorem find57_calls (A : Option Addr) (c : Nat) (l : List S69) (s : ByteArray) (hs : Srt l) (w : World) (hr : Kd.C k69 w A l.length l) (hc : l.length ≤ c) :
    Calls Try.prog 57 #[.slice A l.length c, .string s] w fun e w' => e = .returned (.int .i64 (fnd l s)) ∧ Below w.heap.size w w' := by
  have HR := Aside0.mk hr
  have HS := Aside0.mk hs
  have hlen : l.length ≤ 9223372036854775807 := HR.out.2.1
  obtain ⟨r, hrr⟩ : ∃ r, r = fnd l s := ⟨_, rfl⟩
  rw [← hrr]
  have RR := Aside0.mk hrr
  obtain ⟨n, hn⟩ : ∃ n, n = l.length := ⟨_, rfl⟩
  have HN := Aside0.mk hn
  rw [← hn] at hlen hc ⊢
  have HB := Aside0.mk (Below.refl w.heap.size w)
  clear hr hn hs hrr
  go_enter Try.func57, Try.ntmps57
  go_wp2_with fail
  go_loopg [9] n (fun kx s9 wr => ∃ i : Nat, s9 = .int .i64 i ∧ i ≤ n ∧ n - i ≤ kx ∧ Aside0 (∀ x ∈ l.take i, x.f0 ≠ s) ∧ Aside0 (Below w.heap.size w wr))
  case atStart => exact ⟨0, rfl, Nat.zero_le _, by omega, ⟨fun x hx => by simp at hx⟩, HB⟩
  case round =>
    clear HB
    obtain ⟨i, rfl, hi, hk, hA, HB⟩ := hrel
    by_cases hlt : i < n
    · obtain ⟨ad, ea, hx0, hx1⟩ := at_T69 HR.out (i : Int) (by omega) (by have := HN.out; omega)
      cases ea
      obtain ⟨y, hy⟩ : ∃ y, y = rd_T69 l (i : Int) := ⟨_, rfl⟩
      rw [← hy] at hx0 hx1
      replace hx0 : wr.cell? (ad.add (i * 2)) = some (.string y.f0) := (HB.out.cell (World.block_lt_of_cell? w _ hx0)).trans hx0
      replace hx1 : wr.cell? ⟨(ad.add (i * 2)).block, (ad.add (i * 2)).off + 1, none⟩ = some (.int .i64 y.f1) := (HB.out.cell (World.block_lt_of_cell? w _ hx1)).trans hx1
      have hil : i < l.length := by have := HN.out; omega
      have hyi : l[i] = y := by
        rw [hy]
        show _ = l.getD i z69
        rw [Dk.getD_eq hil]
      have htk := Aside0.mk (show l.take (i + 1) = l.take i ++ [y] by rw [List.take_succ_eq_append_getElem hil, hyi])
      have hmem := Aside0.mk (show y ∈ l from hyi ▸ List.getElem_mem hil)
      have y0 := (blk_cell (blk_new wr (.cells #[.string y.f0, .int .i64 y.f1] 69)) 0).trans rfl
      have y1 := (blk_cell (blk_new wr (.cells #[.string y.f0, .int .i64 y.f1] 69)) 1).trans rfl
      have B2 := Aside0.mk (below_alloc HB.out (.cells #[.string y.f0, .int .i64 y.f1] 69))
      clear hy hyi HB
      by_cases he : y.f0.toList = s.toList
      · have e : r = y.f1 := by rw [RR.out, Dk.fnd_here HS.out hmem.out (tl_eq.1 he)]
        have E := Aside0.mk e
        have heb : (y.f0.toList == s.toList) = true := by simpa using he
        clear RR e
        go_wp2
        go_ret
        exact ⟨by rw [E.out]; rfl, B2.out⟩
      · have heb : (y.f0.toList == s.toList) = false := by simpa using he
        have hne := Aside0.mk (show y.f0 ≠ s from fun e => he (tl_eq.2 e))
        go_wp2
        go_roundg (n - i - 1)
        case measure => omega
        case rel => exact ⟨i + 1, by first | rfl | (simp; done), hlt, by omega, ⟨fun x hx => by
          rw [htk.out] at hx
          rcases List.mem_append.1 hx with hx | hx
          · exact hA.out x hx
          · rw [List.mem_singleton.1 hx]; exact hne.out⟩, B2⟩
    · have e : r = -1 := by
        have := hA.out
        rw [List.take_of_length_le (by have := HN.out; omega)] at this
        rw [RR.out, Dk.fnd_none this]
      have E := Aside0.mk e
      clear e
      go_wp2
      go_ret
      exact ⟨by rw [E.out]; rfl, HB.out⟩
set_option maxHeartbeats 8000000 in
set_option maxRecDepth 100000 in
theorem without84_calls (A : Option Addr) (c : Nat) (l : List S69) (s : ByteArray) (hs : Srt l) (w : World) (hr : Kd.C k69 w A l.length l) (hc : l.length ≤ c) (hl : l.length ≤ 1000000) :
    Calls Try.prog 84 #[.slice A l.length c, .string s] w fun e w' => ∃ v, e = .returned v ∧ Kd.R k69 69 w' w.heap.size (fun _ => True) v (Dk.drop l s) ∧ Below w.heap.size w w' := by
  have HR := Aside0.mk hr
  have HD := Aside0.mk (Dk.drop_filter hs s)
  obtain ⟨n, hn⟩ : ∃ n, n = l.length := ⟨_, rfl⟩
  have HN := Aside0.mk hn
  rw [← hn] at hl hc ⊢
  have HB := Aside0.mk (Below.refl w.heap.size w)
  clear hr hn hs
  go_enter Try.func84, Try.ntmps84
  go_wp2_with fail
  go_loopg [10, 5] n (fun kx s10 s5 wr => ∃ (i : Nat) (v : Value), s10 = .int .i64 i ∧ v = s5 ∧ i ≤ n ∧ n - i ≤ kx ∧ Aside0 (Below w.heap.size w wr) ∧ Aside0 (Kd.R k69 69 wr w.heap.size (fun _ => True) v ((l.take i).filter (fun x => decide (x.f0 ≠ s)))))
  case atStart => exact ⟨0, _, rfl, rfl, Nat.zero_le _, by omega, HB, ⟨Kd.R_nil _ _ _ _ _⟩⟩
  case round =>
    clear HB
    obtain ⟨i, vk, rfl, rfl, hi, hk, HB, HO⟩ := hrel
    by_cases hlt : i < n
    · obtain ⟨ad, ea, hx0, hx1⟩ := at_T69 HR.out (i : Int) (by omega) (by have := HN.out; omega)
      cases ea
      obtain ⟨y, hy⟩ : ∃ y, y = rd_T69 l (i : Int) := ⟨_, rfl⟩
      rw [← hy] at hx0 hx1
      replace hx0 : wr.cell? (ad.add (i * 2)) = some (.string y.f0) := (HB.out.cell (World.block_lt_of_cell? w _ hx0)).trans hx0
      replace hx1 : wr.cell? ⟨(ad.add (i * 2)).block, (ad.add (i * 2)).off + 1, none⟩ = some (.int .i64 y.f1) := (HB.out.cell (World.block_lt_of_cell? w _ hx1)).trans hx1
      have hil : i < l.length := by have := HN.out; omega
      have hyi : l[i] = y := by
        rw [hy]
        show _ = l.getD i z69
        rw [Dk.getD_eq hil]
      have htk := Aside0.mk (show (l.take (i + 1)).filter (fun x => decide (x.f0 ≠ s)) = (l.take i).filter (fun x => decide (x.f0 ≠ s)) ++ (if y.f0 = s then [] else [y]) by
        rw [List.take_succ_eq_append_getElem hil, hyi, List.filter_append]
        by_cases e : y.f0 = s <;> simp [e])
      have hlm : ((l.take i).filter (fun x => decide (x.f0 ≠ s))).length ≤ 1000000 := Nat.le_trans (List.length_filter_le _ _) (by rw [List.length_take]; omega)
      obtain ⟨Ak, ck, rfl⟩ := Kd.R_slice HO.out
      obtain ⟨L, hL⟩ : ∃ L, L = (l.take i).filter (fun x => decide (x.f0 ≠ s)) := ⟨_, rfl⟩
      rw [← hL] at HO htk hlm ⊢
      clear hy hyi hL
      have b1 := ((Below.refl wr.heap.size wr).alloc (Nat.le_refl _) (.cells #[.string y.f0, .int .i64 y.f1] 69))
      have y0 := (blk_cell (blk_new wr (.cells #[.string y.f0, .int .i64 y.f1] 69)) 0).trans rfl
      have y1 := (blk_cell (blk_new wr (.cells #[.string y.f0, .int .i64 y.f1] 69)) 1).trans rfl
      by_cases he : y.f0.toList = s.toList
      · have heb : (y.f0.toList == s.toList) = true := by simpa using he
        have hes : y.f0 = s := tl_eq.1 he
        rw [if_pos hes, List.append_nil] at htk
        have QB := Aside0.mk (below_step HB.out b1)
        have QO := Aside0.mk (Kd.R_below HO.out b1)
        clear hes b1
        go_wp2
        go_roundg (n - i - 1)
        case measure => omega
        case rel => exact ⟨i + 1, _, by first | rfl | (simp; done), rfl, hlt, by omega, QB, ⟨by rw [htk.out]; exact QO.out⟩⟩
      · have heb : (y.f0.toList == s.toList) = false := by simpa using he
        have hes : ¬ y.f0 = s := fun e => he (tl_eq.2 e)
        rw [if_neg hes] at htk
        have b2 := b1.alloc b1.size (.cells #[.string y.f0, .int .i64 y.f1] 69)
        have QX := Aside0.mk (C69_one (blk_new (wr.alloc (.cells #[.string y.f0, .int .i64 y.f1] 69)) (.cells #[.string y.f0, .int .i64 y.f1] 69)))
        rw [show (wr.alloc (.cells #[.string y.f0, .int .i64 y.f1] 69)).heap.size = wr.heap.size + 1 by simp] at QX
        have QB := Aside0.mk (below_step HB.out b2)
        have QO := Aside0.mk (Kd.R_below HO.out b2)
        have QS := Aside0.mk (Nat.le_trans HB.out.size b2.size)
        clear b1 b2 hes
        go_wp2_with (at_builtin; go_loud ((refine Kd.R_append_rows k69 (Rr := k69.K _) (w0 := w) w.heap.size rfl _ _ 44 69 (.agg #[.string ⟨#[]⟩, .int .i64 0]) 24 rfl Try.underlying44 info69 rfl (by decide) (by decide) (.slice Ak L.length ck) L [y] (some ⟨wr.heap.size + 1, 0, none⟩) 1 1 (fun _ => True) (fun _ => False) rfl rfl QO.out QX.out ?q2 ?q3 ?q4 QB.out QS.out ?q7 ?_); (case q2 => intro y cs h; obtain rfl := k69_open h; exact k69_mkM _ _ _ _); (case q3 => intro k h; exact h.elim); (case q4 => intro k hk; trivial); (case q7 => omega); intro v1 w1 h1 h2 h3 h4; have H1 := Aside0.mk h1; have H2 := Aside0.mk h2; clear h1 h2 h3 h4))
        go_roundg (n - i - 1)
        case measure => omega
        case rel => exact ⟨i + 1, v1, by first | rfl | (simp; done), rfl, hlt, by omega, H2, ⟨by rw [htk.out]; exact H1.out⟩⟩
    · have E2 := Aside0.mk (show Dk.drop l s = (l.take i).filter (fun x => decide (x.f0 ≠ s)) from by rw [HD.out, List.take_of_length_le (by have := HN.out; omega)])
      go_wp2
      go_ret
      rw [E2.out]
      exact ⟨_, rfl, HO.out, HB.out⟩
end Go.Proofs.Ytnaddmkaakdhoaa.J

end
section
namespace Go.Proofs.Ytnaddmkaakdhoaa.J
open Go.RowKit Go.Proofs.YtnaddmkaakdhoaaW.PrintWords Go.Proofs.YtnaddmkaakdhoaaW.PrintLast Go.Proofs.YtnaddmkaakdhoaaW.PrintMore
open Dk (Srt pos has nk)
set_option linter.unusedVariables false
set_option linter.unusedSimpArgs false
theorem C_head {α : Type} {k : Kd α} {w : World} {A : Option Addr} {n m : Nat} {l : List α} (h : k.C w A n l) (hm : m ≤ n) : k.C w A m (l.take m) := by
  obtain ⟨h1, h2, h3⟩ := h
  refine ⟨by rw [List.length_take]; omega, by omega, fun h0 => ?_⟩
  obtain ⟨ad, e, h4⟩ := h3 (by omega)
  refine ⟨ad, e, fun j p hj => h4 j p ?_⟩
  rw [List.getElem?_take] at hj
  split at hj
  · exact hj
  · cases hj
theorem C69_drop {w : World} {A : Option Addr} {n i c : Nat} {l : List S69} (h : Kd.C k69 w A n l) (hi : i ≤ n) (hc : n ≤ c) : Kd.C k69 w (if c = i then A else Option.map (fun x => x.add (i * 2)) A) (n - i) (l.drop i) := by
  obtain ⟨h1, h2, h3⟩ := h
  refine ⟨by rw [List.length_drop]; omega, by omega, fun h0 => ?_⟩
  obtain ⟨ad, e, h4⟩ := h3 (by omega)
  subst e
  refine ⟨ad.add (i * 2), by rw [if_neg (by omega)]; rfl, fun j p hj => ?_⟩
  rw [List.getElem?_drop] at hj
  obtain ⟨cs, h5, h6, h7⟩ := h4 (i + j) p hj
  refine ⟨cs, h5, h6, fun t u hu => ?_⟩
  have := h7 t u hu
  rw [← this]
  rw [Addr.add_add]
  congr 2
  show i * 2 + (j * 2 + t) = (i + j) * 2 + t
  omega
theorem R69_empty {T : Nat} {W : World} {N0 : Nat} (hN : T ≤ N0) (hh : W.heap[N0]? = some (.cells #[] 69 (0, 0))) : Kd.R k69 69 W T (fun _ => True) (.slice (some ⟨N0, 0, none⟩) 0 0) [] :=
  R69_of (n := 0) ⟨rfl, .inr ⟨N0, 0, #[], rfl, hN, hh, Nat.le_refl _, Nat.zero_le _, rfl, rfl⟩⟩ rfl (fun _ _ => trivial)
set_option maxHeartbeats 8000000 in
set_option maxRecDepth 100000 in
theorem with83_calls (A : Option Addr) (c : Nat) (l : List S69) (x : S69) (hs : Srt l) (w : World) (hr : Kd.C k69 w A l.length l) (hc : l.length ≤ c) (hl : l.length ≤ 1000000) :
    Calls Try.prog 83 #[.slice A l.length c, .agg #[.string x.f0, .int .i64 x.f1]] w fun e w' => ∃ v, e = .returned v ∧ Kd.R k69 69 w' w.heap.size (fun _ => True) v (Dk.put l x) ∧ Below w.heap.size w w' := by
  have HR := Aside0.mk hr
  have HS := Aside0.mk hs
  obtain ⟨n, hn⟩ : ∃ n, n = l.length := ⟨_, rfl⟩
  have HN := Aside0.mk hn
  rw [← hn] at hl hc ⊢
  have hb := (Below.refl w.heap.size w).alloc (Nat.le_refl _) (.cells #[.string x.f0, .int .i64 x.f1] 69)
  have hk := blk_new w (.cells #[.string x.f0, .int .i64 x.f1] 69)
  have hfo : Try.prog.follows Departure.mixedOrders = true := by kernel_rfl
  obtain ⟨P, hP⟩ : ∃ P, P = pos l x.f0 := ⟨_, rfl⟩
  have HP := Aside0.mk hP
  have EP := Aside0.mk (show Dk.put l x = l.take P ++ x :: l.drop P from by rw [hP]; rfl)
  clear hr hn hs hP
  go_enter Try.func83, Try.ntmps83
  go_wp2_with fail
  generalize w.alloc (.cells #[.string x.f0, .int .i64 x.f1] 69) = W0 at hb hk ⊢
  obtain ⟨X, hX⟩ : ∃ X, X = w.heap.size := ⟨_, rfl⟩
  rw [← hX] at hk ⊢
  have HB := Aside0.mk hb
  have HK := Aside0.mk hk
  clear hb hk hX
  go_loopg [5] n (fun kx s5 wr => ∃ i : Nat, s5 = .int .i64 i ∧ i ≤ n ∧ n - i ≤ kx ∧ Aside0 (∀ t, t < i → nk (l.getD t z69).f0 < nk x.f0) ∧ Aside0 (Below w.heap.size w wr) ∧ Aside0 (wr.heap[X]? = some (.cells #[.string x.f0, .int .i64 x.f1] 69 (0, 0))))
  case atStart => exact ⟨0, rfl, Nat.zero_le _, by omega, ⟨fun t ht => absurd ht (Nat.not_lt_zero _)⟩, HB, HK⟩
  case round =>
    clear HB HK
    obtain ⟨i, rfl, hi, hk, hA, HB, HK⟩ := hrel
    have z0 : wr.cell? ⟨X, 0, none⟩ = some (.string x.f0) := (blk_cell HK.out 0).trans rfl
    have z1 : wr.cell? ⟨X, 1, none⟩ = some (.int .i64 x.f1) := (blk_cell HK.out 1).trans rfl
    obtain ⟨b, hb⟩ : ∃ b : Bool, b = decide (i < n ∧ nk (l.getD i z69).f0 < nk x.f0) := ⟨_, rfl⟩
    have HBB := Aside0.mk hb
    clear hb
    go_upto_region 2 with fail
    go_cut [19] (fun c5 wx => c5 = .bool b ∧ ∃ nq, wx = wr.drewN nq)
    case first =>
      by_cases hlt : i < n
      · obtain ⟨ad, ea, hx0, hx1⟩ := at_T69 HR.out (i : Int) (by omega) (by have := HN.out; omega)
        cases ea
        obtain ⟨y, hy⟩ : ∃ y, y = rd_T69 l (i : Int) := ⟨_, rfl⟩
        rw [← hy] at hx0
        replace hx0 : wr.cell? (ad.add (i * 2)) = some (.string y.f0) := (HB.out.cell (World.block_lt_of_cell? w _ hx0)).trans hx0
        have Y := Aside0.mk (show l.getD i z69 = y from by rw [hy]; rfl)
        have hi0 : (0 : Int) ≤ (i : Int) := by omega
        have hi1 : (i : Int) < (n : Int) := by omega
        have hd : decide ((i : Int) < (n : Int)) = true := decide_eq_true hi1
        clear hy hx1
        by_cases hn1 : nk y.f0 < nk x.f0
        · have hbl : Op.bytesLess y.f0.toList x.f0.toList = true := by rw [bl_eq]; exact decide_eq_true hn1
          go_big_quiet_o (fail)
          go_wp2
          go_meet
          exact ⟨congrArg Value.bool (HBB.out.trans (decide_eq_true ⟨hlt, by rw [Y.out]; exact hn1⟩)).symm, _, rfl⟩
        · have hbl : Op.bytesLess y.f0.toList x.f0.toList = false := by rw [bl_eq]; exact decide_eq_false hn1
          go_big_quiet_o (fail)
          go_wp2
          go_meet
          exact ⟨congrArg Value.bool (HBB.out.trans (decide_eq_false (fun h => hn1 (by have := h.2; rwa [Y.out] at this)))).symm, _, rfl⟩
      · have hd : decide ((i : Int) < (n : Int)) = false := decide_eq_false (by omega)
        go_big_quiet_o (fail)
        go_wp2
        go_meet
        exact ⟨congrArg Value.bool (HBB.out.trans (decide_eq_false (fun h => hlt h.1))).symm, _, rfl⟩
    case rest =>
      obtain ⟨rfl, nq, rfl⟩ := hcut
      have B2 := Aside0.mk (pw_below_drewN HB.out nq)
      have K2 := Aside0.mk (blk_drewN HK.out nq)
      clear HB HK z0 z1
      cases b with
      | true =>
        have h := of_decide_eq_true HBB.out.symm
        have hlt := h.1
        have A2 := Aside0.mk (show ∀ t, t < i + 1 → nk (l.getD t z69).f0 < nk x.f0 from fun t ht => by
          rcases Nat.lt_or_ge t i with h1 | h1
          · exact hA.out t h1
          · rw [show t = i by omega]; exact h.2)
        clear h
        go_wp2
        go_roundg (n - i - 1)
        case measure => omega
        case rel => exact ⟨i + 1, by first | rfl | (simp; done), hlt, by omega, A2, B2, K2⟩
      | false =>
        have h := of_decide_eq_false HBB.out.symm
        have hPi : P = i := by
          rw [HP.out]
          refine Dk.pos_of l x.f0 i (by have := HN.out; omega) hA.out (fun t h1 h2 h3 => ?_)
          rcases Nat.lt_or_ge i n with h4 | h4
          · have h5 : nk (l.getD i z69).f0 < nk x.f0 := by
              rcases Nat.lt_or_ge i t with h6 | h6
              · exact Dk.lt_trans (HS.out.lt h6 h2) h3
              · rw [show i = t by omega]; exact h3
            exact h ⟨h4, h5⟩
          · have := HN.out; omega
        have EI := Aside0.mk (show Dk.put l x = l.take i ++ x :: l.drop i from by rw [EP.out, hPi])
        clear h hPi
        generalize wr.drewN nq = W2 at B2 K2 ⊢
        go_upto_region 4 with fail
        have z0 : W2.cell? ⟨X, 0, none⟩ = some (.string x.f0) := (blk_cell K2.out 0).trans rfl
        have z1 : W2.cell? ⟨X, 1, none⟩ = some (.int .i64 x.f1) := (blk_cell K2.out 1).trans rfl
        have hi0 : (0 : Int) ≤ (i : Int) := by omega
        have hin : (i : Int) ≤ (n : Int) := by omega
        have hic : (i : Int) ≤ (c : Int) := by omega
        have hnc : (n : Int) ≤ (c : Int) := by omega
        have BW := Aside0.mk (Below.refl W2.heap.size W2)
        have hNw : w.heap.size ≤ W2.heap.size := B2.out.size
        -- the worlds ahead of the first append
        have ba := ((Below.refl W2.heap.size W2).alloc (Nat.le_refl _) (.cells #[] 69)).drew
        have bx := ((Below.refl W2.heap.size W2).alloc (Nat.le_refl _) (.cells #[.string x.f0, .int .i64 x.f1] 69)).drew
        have AA := Aside0.mk (show Below W2.heap.size W2 (W2.alloc (.cells #[] 69)).drew from ba)
        have AB := Aside0.mk (show Below W2.heap.size W2 ((W2.alloc (.cells #[] 69)).alloc (.cells #[.string x.f0, .int .i64 x.f1] 69)).drew from ((((Below.refl W2.heap.size W2).alloc (Nat.le_refl _) (.cells #[] 69))).alloc (by simp) (.cells #[.string x.f0, .int .i64 x.f1] 69)).drew)
        have AC := Aside0.mk (show Below W2.heap.size W2 ((W2.alloc (.cells #[.string x.f0, .int .i64 x.f1] 69)).alloc (.cells #[] 69)).drew from ((((Below.refl W2.heap.size W2).alloc (Nat.le_refl _) (.cells #[.string x.f0, .int .i64 x.f1] 69))).alloc (by simp) (.cells #[] 69)).drew)
        have EA := Aside0.mk (show Kd.R k69 69 (W2.alloc (.cells #[] 69)).drew W2.heap.size (fun _ => True) (.slice (some ⟨W2.heap.size, 0, none⟩) 0 0) [] from R69_empty (Nat.le_refl _) (blk_drew (blk_new W2 _)))
        have EB := Aside0.mk (show Kd.R k69 69 ((W2.alloc (.cells #[] 69)).alloc (.cells #[.string x.f0, .int .i64 x.f1] 69)).drew W2.heap.size (fun _ => True) (.slice (some ⟨W2.heap.size, 0, none⟩) 0 0) [] from R69_empty (Nat.le_refl _) (blk_drew (blk_alloc (blk_new W2 _) _)))
        have EC := Aside0.mk (show Kd.R k69 69 ((W2.alloc (.cells #[.string x.f0, .int .i64 x.f1] 69)).alloc (.cells #[] 69)).drew W2.heap.size (fun _ => True) (.slice (some ⟨W2.heap.size + 1, 0, none⟩) 0 0) [] from R69_empty (Nat.le_succ _) (by have := blk_drew (blk_new (W2.alloc (.cells #[.string x.f0, .int .i64 x.f1] 69)) (.cells #[] 69)); simpa using this))
        have XB := Aside0.mk (show ((W2.alloc (.cells #[] 69)).alloc (.cells #[.string x.f0, .int .i64 x.f1] 69)).drew.heap[W2.heap.size + 1]? = some (.cells #[.string x.f0, .int .i64 x.f1] 69 (0, 0)) from (by have := blk_drew (blk_new (W2.alloc (.cells #[] 69)) (.cells #[.string x.f0, .int .i64 x.f1] 69)); simpa using this))
        have XC := Aside0.mk (show ((W2.alloc (.cells #[.string x.f0, .int .i64 x.f1] 69)).alloc (.cells #[] 69)).drew.heap[W2.heap.size]? = some (.cells #[.string x.f0, .int .i64 x.f1] 69 (0, 0)) from blk_drew (blk_alloc (blk_new W2 _) _))
        have RT := Aside0.mk (fun W (hb : Below W2.heap.size W2 W) => C_head (m := i) (Kd.C_below HR.out (below_step B2.out hb)) (by have := HN.out; omega))
        have RD := Aside0.mk (fun W (hb : Below W2.heap.size W2 W) => C69_drop (i := i) (c := c) (Kd.C_below HR.out (below_step B2.out hb)) (by have := HN.out; omega) (by have := HN.out; omega))
        rw [← HN.out] at RD
        have lt_ : (l.take i).length = i := by rw [List.length_take]; have := HN.out; omega
        have LT := Aside0.mk lt_
        clear ba bx lt_
        go_region_held3 (fun w' => w'.cell? ⟨X, 0, none⟩ = some (.string x.f0) ∧ w'.cell? ⟨X, 1, none⟩ = some (.int .i64 x.f1)) (first | (go_keep; done) | exact ⟨(blk_cell (blk_below K2.out BW.out) 0).trans rfl, (blk_cell (blk_below K2.out BW.out) 1).trans rfl⟩)
          (first
            | (refine Kd.R_append_rows_step k69 (Rr := k69.K _) (w0 := W2) W2.heap.size (by rfl) (.tmp 22) (.tmp 25) 44 69 (.agg #[.string ⟨#[]⟩, .int .i64 0]) 24 rfl Try.underlying44 info69 rfl (by decide) (by decide) (.slice (some ⟨W2.heap.size, 0, none⟩) 0 0) [] (l.take i) A i c (fun _ => True) (fun _ => False) rfl rfl EA.out (RT.out _ AA.out) (by intro y cs h; obtain rfl := k69_open h; exact k69_mkM _ _ _ _) (fun k h => h.elim) (fun k hk => trivial) AA.out (AA.out).size (by have := LT.out; simp only [List.length_nil, List.length_append, List.length_cons] at *; omega) ?_; intro v5 w5 h1 h2 h3 h4; rw [List.nil_append] at h1; obtain ⟨A5, c5, hv⟩ := Kd.R_slice h1; rw [LT.out] at hv; subst hv; have H5 := Aside0.mk h1; clear BW; have BW := Aside0.mk h2;  clear h1 h2 h3 h4)
            | (refine Kd.R_append_rows_step k69 (Rr := k69.K _) (w0 := W2) W2.heap.size (by rfl) (.tmp 22) (.tmp 25) 44 69 (.agg #[.string ⟨#[]⟩, .int .i64 0]) 24 rfl Try.underlying44 info69 rfl (by decide) (by decide) (.slice (some ⟨W2.heap.size, 0, none⟩) 0 0) [] (l.take i) A i c (fun _ => True) (fun _ => False) rfl rfl EB.out (RT.out _ AB.out) (by intro y cs h; obtain rfl := k69_open h; exact k69_mkM _ _ _ _) (fun k h => h.elim) (fun k hk => trivial) AB.out (AB.out).size (by have := LT.out; simp only [List.length_nil, List.length_append, List.length_cons] at *; omega) ?_; intro v5 w5 h1 h2 h3 h4; rw [List.nil_append] at h1; obtain ⟨A5, c5, hv⟩ := Kd.R_slice h1; rw [LT.out] at hv; subst hv; have H5 := Aside0.mk h1; clear BW; have BW := Aside0.mk h2; have XY := Aside0.mk (blk_grown XB.out h3 (by intro e; have e2 : W2.heap.size + 1 = W2.heap.size := Option.some.inj e; omega)); clear h1 h2 h3 h4)
            | (refine Kd.R_append_rows_step k69 (Rr := k69.K _) (w0 := W2) W2.heap.size (by rfl) (.tmp 22) (.tmp 25) 44 69 (.agg #[.string ⟨#[]⟩, .int .i64 0]) 24 rfl Try.underlying44 info69 rfl (by decide) (by decide) (.slice (some ⟨W2.heap.size + 1, 0, none⟩) 0 0) [] (l.take i) A i c (fun _ => True) (fun _ => False) rfl rfl EC.out (RT.out _ AC.out) (by intro y cs h; obtain rfl := k69_open h; exact k69_mkM _ _ _ _) (fun k h => h.elim) (fun k hk => trivial) AC.out (AC.out).size (by have := LT.out; simp only [List.length_nil, List.length_append, List.length_cons] at *; omega) ?_; intro v5 w5 h1 h2 h3 h4; rw [List.nil_append] at h1; obtain ⟨A5, c5, hv⟩ := Kd.R_slice h1; rw [LT.out] at hv; subst hv; have H5 := Aside0.mk h1; clear BW; have BW := Aside0.mk h2; have XY := Aside0.mk (blk_grown XC.out h3 (by intro e; have e2 : W2.heap.size = W2.heap.size + 1 := Option.some.inj e; omega)); clear h1 h2 h3 h4)
            | (refine Kd.R_append_rows_step k69 (Rr := k69.K _) (w0 := W2) W2.heap.size (by rfl) (.tmp 26) (.tmp 28) 44 69 (.agg #[.string ⟨#[]⟩, .int .i64 0]) 24 rfl Try.underlying44 info69 rfl (by decide) (by decide) (.slice A5 i c5) (l.take i) [x] (some ⟨w5.heap.size, 0, none⟩) 1 1 (fun _ => True) (fun _ => False) rfl rfl (Kd.R_below H5.out ((Below.refl w5.heap.size w5).alloc (Nat.le_refl _) (.cells #[.string x.f0, .int .i64 x.f1] 69))) (C69_one (blk_new w5 (.cells #[.string x.f0, .int .i64 x.f1] 69))) (by intro y cs h; obtain rfl := k69_open h; exact k69_mkM _ _ _ _) (fun k h => h.elim) (fun k hk => trivial) (below_step BW.out ((Below.refl w5.heap.size w5).alloc (Nat.le_refl _) (.cells #[.string x.f0, .int .i64 x.f1] 69))) ((below_step BW.out ((Below.refl w5.heap.size w5).alloc (Nat.le_refl _) (.cells #[.string x.f0, .int .i64 x.f1] 69)))).size (by have := LT.out; simp only [List.length_nil, List.length_append, List.length_cons] at *; omega) ?_; intro v7 w7 h1 h2 h3 h4; obtain ⟨A7, c7, hv⟩ := Kd.R_slice h1; rw [List.length_append, LT.out] at hv; have hv2 : v7 = .slice A7 (i + 1) c7 := hv; clear hv; subst hv2; have H7 := Aside0.mk h1; clear BW; have BW := Aside0.mk h2; clear h1 h2 h3 h4)
            | (refine Kd.R_append_rows_step k69 (Rr := k69.K _) (w0 := W2) W2.heap.size (by rfl) (.tmp 26) (.tmp 28) 44 69 (.agg #[.string ⟨#[]⟩, .int .i64 0]) 24 rfl Try.underlying44 info69 rfl (by decide) (by decide) (.slice A5 i c5) (l.take i) [x] (some ⟨W2.heap.size + 1, 0, none⟩) 1 1 (fun _ => True) (fun _ => False) rfl rfl H5.out (C69_one XY.out) (by intro y cs h; obtain rfl := k69_open h; exact k69_mkM _ _ _ _) (fun k h => h.elim) (fun k hk => trivial) BW.out (BW.out).size (by have := LT.out; simp only [List.length_nil, List.length_append, List.length_cons] at *; omega) ?_; intro v7 w7 h1 h2 h3 h4; obtain ⟨A7, c7, hv⟩ := Kd.R_slice h1; rw [List.length_append, LT.out] at hv; have hv2 : v7 = .slice A7 (i + 1) c7 := hv; clear hv; subst hv2; have H7 := Aside0.mk h1; clear BW; have BW := Aside0.mk h2; clear h1 h2 h3 h4)
            | (refine Kd.R_append_rows_step k69 (Rr := k69.K _) (w0 := W2) W2.heap.size (by rfl) (.tmp 26) (.tmp 28) 44 69 (.agg #[.string ⟨#[]⟩, .int .i64 0]) 24 rfl Try.underlying44 info69 rfl (by decide) (by decide) (.slice A5 i c5) (l.take i) [x] (some ⟨W2.heap.size, 0, none⟩) 1 1 (fun _ => True) (fun _ => False) rfl rfl H5.out (C69_one XY.out) (by intro y cs h; obtain rfl := k69_open h; exact k69_mkM _ _ _ _) (fun k h => h.elim) (fun k hk => trivial) BW.out (BW.out).size (by have := LT.out; simp only [List.length_nil, List.length_append, List.length_cons] at *; omega) ?_; intro v7 w7 h1 h2 h3 h4; obtain ⟨A7, c7, hv⟩ := Kd.R_slice h1; rw [List.length_append, LT.out] at hv; have hv2 : v7 = .slice A7 (i + 1) c7 := hv; clear hv; subst hv2; have H7 := Aside0.mk h1; clear BW; have BW := Aside0.mk h2; clear h1 h2 h3 h4)
            | (refine Kd.R_append_rows_step k69 (Rr := k69.K _) (w0 := W2) W2.heap.size (by rfl) (.tmp 29) (.tmp 32) 44 69 (.agg #[.string ⟨#[]⟩, .int .i64 0]) 24 rfl Try.underlying44 info69 rfl (by decide) (by decide) (.slice A7 (i + 1) c7) (l.take i ++ [x]) (l.drop i) (if c = i then A else Option.map (fun x => x.add (i * 2)) A) (n - i) (c - i) (fun _ => True) (fun _ => False) rfl rfl H7.out (RD.out _ BW.out) (by intro y cs h; obtain rfl := k69_open h; exact k69_mkM _ _ _ _) (fun k h => h.elim) (fun k hk => trivial) BW.out (BW.out).size (by have := LT.out; simp only [List.length_nil, List.length_append, List.length_cons] at *; omega) ?_; intro v11 w11 h1 h2 h3 h4; have H11 := Aside0.mk h1; clear BW; have BW := Aside0.mk h2; clear h1 h2 h3 h4))
        all_goals go_wp2
        all_goals
          go_ret
          refine ⟨_, rfl, ?_, below_step B2.out BW.out⟩
          rw [EI.out, show l.take i ++ x :: l.drop i = l.take i ++ [x] ++ l.drop i by simp]
          exact Kd.R_lower H11.out hNw
end Go.Proofs.Ytnaddmkaakdhoaa.J

end
section
namespace Go.Proofs.Ytnaddmkaakdhoaa.Dk
open J
def stp (l : List S69) (o : S49) (ino : Int) : List S69 × Int := if dirop o = true then chg l o ino else ([], 1)
end Go.Proofs.Ytnaddmkaakdhoaa.Dk
namespace Go.Proofs.Ytnaddmkaakdhoaa.J
open Go.RowKit Go.Proofs.YtnaddmkaakdhoaaW.PrintWords Go.Proofs.YtnaddmkaakdhoaaW.PrintLast Go.Proofs.YtnaddmkaakdhoaaW.PrintMore
open Dk (Srt pos has fnd stp vname)
set_option linter.unusedVariables false
set_option linter.unusedSimpArgs false
set_option maxHeartbeats 8000000 in
set_option maxRecDepth 100000 in
theorem step59_calls (A : Option Addr) (c : Nat) (l : List S69) (o : S49) (ino : Int) (w : World) (hs : Srt l) (hin : ∀ x ∈ l, 0 ≤ x.f1) (hr : Kd.C k69 w A l.length l) (hc : l.length ≤ c) (hl : l.length ≤ 100000) :
    Calls Try.prog 59 #[.slice A l.length c, .agg #[.int .i64 o.f0, .string o.f1, .string o.f2, .string o.f3], .int .i64 ino] w fun e w' => ∃ v, e = .returned (.tuple #[v, .int .i64 (stp l o ino).2]) ∧ Kd.R k69 69 w' w.heap.size (fun _ => True) v (stp l o ino).1 ∧ Below w.heap.size w w' := by
  have HR := Aside0.mk hr
  have HS := Aside0.mk hs
  obtain ⟨k, nm, tt, dat⟩ := o
  simp only
  obtain ⟨res, hres⟩ : ∃ res, res = stp l ⟨k, nm, tt, dat⟩ ino := ⟨_, rfl⟩
  rw [← hres]
  have RES := Aside0.mk hres
  obtain ⟨f, hf⟩ : ∃ f, f = fnd l nm := ⟨_, rfl⟩
  have FC := Aside0.mk (fun w' hC => find57_calls A c l nm hs w' hC hc)
  rw [← hf] at FC
  have HFE := Aside0.mk hf
  obtain ⟨bh, hbh⟩ : ∃ bh, bh = has l nm := ⟨_, rfl⟩
  have BH := Aside0.mk hbh
  have HF := Aside0.mk (show bh = true → 0 ≤ f from fun h => by
    obtain ⟨x, hx, _, e2⟩ := Dk.pos_mem hs (s := nm) (by rw [← hbh, h])
    rw [hf, Dk.fnd, ← hbh, h, if_pos rfl, e2]
    exact hin x hx)
  have HF2 := Aside0.mk (show bh = false → f = -1 from fun h => by
    rw [hf, Dk.fnd, ← hbh, h]
    rfl)
  clear hr hs hres hf hbh hin
  go_enter Try.func59, Try.ntmps59
  go_wp2_with fail
  have hb0 := (Below.refl w.heap.size w).alloc (Nat.le_refl _) (.cells #[.int .i64 k, .string nm, .string tt, .string dat] 49)
  have hk0 := blk_new w (.cells #[.int .i64 k, .string nm, .string tt, .string dat] 49)
  generalize w.alloc (.cells #[.int .i64 k, .string nm, .string tt, .string dat] 49) = W0 at hb0 hk0 ⊢
  obtain ⟨O, hO⟩ : ∃ O, O = w.heap.size := ⟨_, rfl⟩
  rw [← hO] at hk0 ⊢
  refine (FC.out W0 (Kd.C_below HR.out hb0)).mono ?_
  rintro e w1 ⟨rfl, hb1⟩
  have HB1 := Aside0.mk (below_step hb0 hb1)
  have HK1 := Aside0.mk (blk_below hk0 hb1)
  clear hb0 hk0 hb1 hO FC
  have o0 := (blk_cell HK1.out 0).trans rfl
  have o1 := (blk_cell HK1.out 1).trans rfl
  have o2 := (blk_cell HK1.out 2).trans rfl
  have o3 := (blk_cell HK1.out 3).trans rfl
  by_cases hk1 : k = 1
  · subst hk1
    obtain ⟨b2, hb2⟩ : ∃ b, tt.toList.isEmpty = b := ⟨_, rfl⟩
    obtain ⟨b3, hb3⟩ : ∃ b, dat.toList.isEmpty = b := ⟨_, rfl⟩
    cases b2 with
    | false =>
      have E := Aside0.mk (show res = ([], 1) from by rw [RES.out]; simp [Dk.stp, Dk.dirop, Dk.fieldsOK, Dk.em, Dk.chg, ← BH.out, hb2, hb3])
      go_wp2
      go_ret2
      rw [E.out]
      exact ⟨_, rfl, Kd.R_nil _ _ _ _ _, HB1.out⟩
    | true =>
      cases b3 with
      | false =>
        have E := Aside0.mk (show res = ([], 1) from by rw [RES.out]; simp [Dk.stp, Dk.dirop, Dk.fieldsOK, Dk.em, Dk.chg, ← BH.out, hb2, hb3])
        go_wp2
        go_ret2
        rw [E.out]
        exact ⟨_, rfl, Kd.R_nil _ _ _ _ _, HB1.out⟩
      | true =>
        obtain ⟨q, hq⟩ : ∃ q, q = vname nm := ⟨_, rfl⟩
        have VC := Aside0.mk (fun w' => vname82_calls nm w')
        rw [← hq] at VC
        have HQ := Aside0.mk hq
        clear hq
        go_wp2_with fail
        refine (VC.out _).mono ?_
        rintro e w2 ⟨rfl, hb2⟩
        have HB2 := Aside0.mk (below_step HB1.out hb2)
        have HK2 := Aside0.mk (blk_below HK1.out hb2)
        clear hb2 o0 o1 o2 o3
        have o0 := (blk_cell HK2.out 0).trans rfl
        have o1 := (blk_cell HK2.out 1).trans rfl
        have o2 := (blk_cell HK2.out 2).trans rfl
        have o3 := (blk_cell HK2.out 3).trans rfl
        cases q with
        | false =>
          have E := Aside0.mk (show res = ([], 4) from by rw [RES.out]; simp [Dk.stp, Dk.dirop, Dk.fieldsOK, Dk.em, Dk.chg, ← BH.out, hb2, hb3, ← HQ.out])
          go_wp2
          go_ret2
          rw [E.out]
          exact ⟨_, rfl, Kd.R_nil _ _ _ _ _, HB2.out⟩
        | true =>
          cases bh with
          | true =>
            have hf1 : ¬ (f = -1) := by have := HF.out rfl; omega
            have E := Aside0.mk (show res = ([], 5) from by rw [RES.out]; simp [Dk.stp, Dk.dirop, Dk.fieldsOK, Dk.em, Dk.chg, ← BH.out, hb2, hb3, ← HQ.out])
            go_wp2
            go_ret2
            rw [E.out]
            exact ⟨_, rfl, Kd.R_nil _ _ _ _ _, HB2.out⟩
          | false =>
            have hf1 : f = -1 := HF2.out rfl
            subst hf1
            have E := Aside0.mk (show res = (Dk.put l ⟨nm, ino⟩, 0) from by rw [RES.out]; simp [Dk.stp, Dk.dirop, Dk.fieldsOK, Dk.em, Dk.chg, ← BH.out, hb2, hb3, ← HQ.out])
            go_wp2_with fail
            refine (with83_calls A c l ⟨nm, ino⟩ HS.out w2 (Kd.C_below HR.out HB2.out) hc (by omega)).mono ?_
            rintro e w9 ⟨v, rfl, h1, h2⟩
            have H1 := Aside0.mk (Kd.R_lower h1 HB2.out.size)
            have HB9 := Aside0.mk (below_step HB2.out h2)
            clear h1 h2 o0 o1 o2 o3
            go_wp2
            go_ret2
            rw [E.out]
            exact ⟨_, rfl, H1.out, HB9.out⟩
  · by_cases hk4 : k = 4
    · subst hk4
      obtain ⟨b2, hb2⟩ : ∃ b, tt.toList.isEmpty = b := ⟨_, rfl⟩
      obtain ⟨b3, hb3⟩ : ∃ b, dat.toList.isEmpty = b := ⟨_, rfl⟩
      cases b3 with
      | false =>
        have E := Aside0.mk (show res = ([], 1) from by rw [RES.out]; simp [Dk.stp, Dk.dirop, Dk.fieldsOK, Dk.em, Dk.chg, ← BH.out, hb2, hb3])
        go_wp2
        go_ret2
        rw [E.out]
        exact ⟨_, rfl, Kd.R_nil _ _ _ _ _, HB1.out⟩
      | true =>
        cases bh with
        | false =>
          have hf1 : f = -1 := HF2.out rfl
          subst hf1
          have E := Aside0.mk (show res = ([], 11) from by rw [RES.out]; simp [Dk.stp, Dk.dirop, Dk.fieldsOK, Dk.em, Dk.chg, ← BH.out, hb2, hb3])
          go_wp2
          go_ret2
          rw [E.out]
          exact ⟨_, rfl, Kd.R_nil _ _ _ _ _, HB1.out⟩
        | true =>
          have hf1 : ¬ (f = -1) := by have := HF.out rfl; omega
          obtain ⟨q, hq⟩ : ∃ q, q = vname tt := ⟨_, rfl⟩
          have VC := Aside0.mk (fun w' => vname82_calls tt w')
          rw [← hq] at VC
          have HQ := Aside0.mk hq
          clear hq
          go_wp2_with fail
          refine (VC.out _).mono ?_
          rintro e w2 ⟨rfl, hb2⟩
          have HB2 := Aside0.mk (below_step HB1.out hb2)
          have HK2 := Aside0.mk (blk_below HK1.out hb2)
          clear hb2 o0 o1 o2 o3
          have o0 := (blk_cell HK2.out 0).trans rfl
          have o1 := (blk_cell HK2.out 1).trans rfl
          have o2 := (blk_cell HK2.out 2).trans rfl
          have o3 := (blk_cell HK2.out 3).trans rfl
          cases q with
          | false =>
            have E := Aside0.mk (show res = ([], 4) from by rw [RES.out]; simp [Dk.stp, Dk.dirop, Dk.fieldsOK, Dk.em, Dk.chg, ← BH.out, hb2, hb3, ← HQ.out])
            go_wp2
            go_ret2
            rw [E.out]
            exact ⟨_, rfl, Kd.R_nil _ _ _ _ _, HB2.out⟩
          | true =>
            by_cases hte : tt.toList = nm.toList
            · have hte' : (tt.toList == nm.toList) = true := by simpa using hte
              have E := Aside0.mk (show res = ([], 1) from by rw [RES.out]; simp [Dk.stp, Dk.dirop, Dk.fieldsOK, Dk.em, Dk.chg, ← BH.out, hb2, hb3, ← HQ.out, hte])
              go_wp2
              go_ret2
              rw [E.out]
              exact ⟨_, rfl, Kd.R_nil _ _ _ _ _, HB2.out⟩
            · have hte' : (tt.toList == nm.toList) = false := by simpa using hte
              have E := Aside0.mk (show res = (Dk.put (Dk.drop (Dk.drop l nm) tt) ⟨tt, f⟩, 0) from by
                rw [RES.out]
                simp only [Dk.stp, Dk.dirop, Dk.fieldsOK, Dk.em, Dk.chg, ← BH.out, hb3, ← HQ.out, hte]
                simp
                rw [HFE.out, Dk.fnd, ← BH.out]
                simp)
              go_upto_region 20 with fail
              have tok1 : True := trivial
              have ls1 := Dk.drop_length l nm
              have ls2 := Dk.drop_length (Dk.drop l nm) tt
              have LS1 := Aside0.mk (show (Dk.drop l nm).length ≤ 1000000 from by omega)
              have LS2 := Aside0.mk (show (Dk.drop (Dk.drop l nm) tt).length ≤ 1000000 from by omega)
              have BW := Aside0.mk (Below.refl w2.heap.size w2)
              clear ls1 ls2
              go_region_held3 (fun w' => w'.cell? ⟨O, 1, none⟩ = some (.string nm) ∧ w'.cell? ⟨O, 2, none⟩ = some (.string tt)) (first | (go_keep; done) | exact ⟨(blk_cell (blk_below HK2.out BW.out) 1).trans rfl, (blk_cell (blk_below HK2.out BW.out) 2).trans rfl⟩)
                (first
                  | (go_at_call 84; have tok2 := tok1; refine (without84_calls A c l nm HS.out _ ?h_ hc (by omega)).mono ?_; (case h_ => exact Kd.C_below HR.out HB2.out.drew); rintro e w3 ⟨v3, rfl, h1, h2⟩; obtain ⟨A3, c3, rfl, l3, r3⟩ := Kd.R_reads h1; have C3 := Aside0.mk r3; have L3 := Aside0.mk l3; have BW_ := Aside0.mk (show Below w2.heap.size w2 w3 from below_step (Below.refl w2.heap.size w2).drew h2); clear BW; have BW := BW_; clear BW_; clear h1 h2 l3 r3 tok1 tok2)
                  | (go_at_call 84; refine (without84_calls A3 c3 (Dk.drop l nm) tt (HS.out.drop _) _ C3.out L3.out LS1.out).mono ?_; rintro e w4 ⟨v4, rfl, h1, h2⟩; obtain ⟨A4, c4, rfl, l4, r4⟩ := Kd.R_reads h1; have C4 := Aside0.mk r4; have L4 := Aside0.mk l4; have BW_ := Aside0.mk (below_step BW.out h2); clear BW; have BW := BW_; clear BW_; clear h1 h2 l4 r4)
                  | (go_at_call 83; refine (with83_calls A4 c4 (Dk.drop (Dk.drop l nm) tt) ⟨tt, f⟩ ((HS.out.drop _).drop _) _ C4.out L4.out LS2.out).mono ?_; rintro e w5 ⟨v5, rfl, h1, h2⟩; have H5 := Aside0.mk (Kd.R_lower h1 (Nat.le_trans HB2.out.size BW.out.size)); have BW_ := Aside0.mk (below_step BW.out h2); clear BW; have BW := BW_; clear BW_; clear h1 h2))
              go_wp2
              go_ret2
              rw [E.out]
              exact ⟨_, rfl, H5.out, below_step HB2.out BW.out⟩
    · by_cases hk5 : k = 5
      · subst hk5
        obtain ⟨b2, hb2⟩ : ∃ b, tt.toList.isEmpty = b := ⟨_, rfl⟩
        obtain ⟨b3, hb3⟩ : ∃ b, dat.toList.isEmpty = b := ⟨_, rfl⟩
        cases b2 with
        | false =>
          have E := Aside0.mk (show res = ([], 1) from by rw [RES.out]; simp [Dk.stp, Dk.dirop, Dk.fieldsOK, Dk.em, Dk.chg, ← BH.out, hb2, hb3])
          go_wp2
          go_ret2
          rw [E.out]
          exact ⟨_, rfl, Kd.R_nil _ _ _ _ _, HB1.out⟩
        | true =>
          cases b3 with
          | false =>
            have E := Aside0.mk (show res = ([], 1) from by rw [RES.out]; simp [Dk.stp, Dk.dirop, Dk.fieldsOK, Dk.em, Dk.chg, ← BH.out, hb2, hb3])
            go_wp2
            go_ret2
            rw [E.out]
            exact ⟨_, rfl, Kd.R_nil _ _ _ _ _, HB1.out⟩
          | true =>
            cases bh with
            | false =>
              have hf1 : f = -1 := HF2.out rfl
              subst hf1
              have E := Aside0.mk (show res = ([], 11) from by rw [RES.out]; simp [Dk.stp, Dk.dirop, Dk.fieldsOK, Dk.em, Dk.chg, ← BH.out, hb2, hb3])
              go_wp2
              go_ret2
              rw [E.out]
              exact ⟨_, rfl, Kd.R_nil _ _ _ _ _, HB1.out⟩
            | true =>
              have hf1 : ¬ (f = -1) := by have := HF.out rfl; omega
              have E := Aside0.mk (show res = (Dk.drop l nm, 0) from by rw [RES.out]; simp [Dk.stp, Dk.dirop, Dk.fieldsOK, Dk.em, Dk.chg, ← BH.out, hb2, hb3])
              go_wp2_with fail
              refine (without84_calls A c l nm HS.out w1 (Kd.C_below HR.out HB1.out) hc (by omega)).mono ?_
              rintro e w9 ⟨v, rfl, h1, h2⟩
              have H1 := Aside0.mk (Kd.R_lower h1 HB1.out.size)
              have HB9 := Aside0.mk (below_step HB1.out h2)
              clear h1 h2 o0 o1 o2 o3
              go_wp2
              go_ret2
              rw [E.out]
              exact ⟨_, rfl, H1.out, HB9.out⟩
      · have E := Aside0.mk (show res = ([], 1) from by rw [RES.out]; simp [Dk.stp, Dk.dirop, hk1, hk4, hk5])
        go_wp2
        go_ret2
        rw [E.out]
        exact ⟨_, rfl, Kd.R_nil _ _ _ _ _, HB1.out⟩
end Go.Proofs.Ytnaddmkaakdhoaa.J

end
section
namespace Go.Proofs.Ytnaddmkaakdhoaa.Dk
open J
theorem rep_stp (l : List S69) (n : Int) (o : S49) (r : List S49) : rep l n (o :: r) = if (stp l o n).2 = 0 then rep (stp l o n).1 (if o.f0 = 1 then n + 1 else n) r else none := by
  rw [rep_cons]
  unfold stp
  split
  · rfl
  · rfl
theorem stp_srt {l : List S69} (hs : Srt l) (o : S49) (n : Int) : Srt (stp l o n).1 := by
  unfold stp
  split
  · exact hs.chg o n
  · exact List.Pairwise.nil
theorem stp_length (l : List S69) (o : S49) (n : Int) : (stp l o n).1.length ≤ l.length + 1 := by
  unfold stp
  split
  · exact chg_length l o n
  · exact Nat.zero_le _
theorem chg_nn {l : List S69} (hs : Srt l) (h : ∀ x ∈ l, 0 ≤ x.f1) {o : S49} {n : Int} (hn : 0 ≤ n) : ∀ x ∈ (chg l o n).1, 0 ≤ x.f1 := by
  intro x hx
  unfold chg at hx
  split at hx
  · split at hx
    · split at hx
      · cases hx
      · rcases mem_put.1 hx with rfl | hx
        · exact hn
        · exact h x hx
    · cases hx
  · split at hx
    · split at hx
      · rename_i hh
        split at hx
        · split at hx
          · cases hx
          · rcases mem_put.1 hx with rfl | hx
            · obtain ⟨e, he, _, e2⟩ := pos_mem hs hh
              rw [e2]
              exact h e he
            · exact h x ((drop_sub _ _).subset ((drop_sub _ _).subset hx))
        · cases hx
      · cases hx
    · split at hx
      · exact h x ((drop_sub _ _).subset hx)
      · cases hx
theorem stp_nn {l : List S69} (hs : Srt l) (h : ∀ x ∈ l, 0 ≤ x.f1) {o : S49} {n : Int} (hn : 0 ≤ n) : ∀ x ∈ (stp l o n).1, 0 ≤ x.f1 := by
  unfold stp
  split
  · exact chg_nn hs h hn
  · intro x hx; cases hx
end Go.Proofs.Ytnaddmkaakdhoaa.Dk
namespace Go.Proofs.Ytnaddmkaakdhoaa.J
open Go.RowKit Go.Proofs.YtnaddmkaakdhoaaW.PrintWords Go.Proofs.YtnaddmkaakdhoaaW.PrintLast Go.Proofs.YtnaddmkaakdhoaaW.PrintMore
open Dk (Srt crt rep repd stp)
set_option linter.unusedVariables false
set_option linter.unusedSimpArgs false
set_option maxHeartbeats 8000000 in
set_option maxRecDepth 100000 in
theorem replay69_calls (a : Value) (d : Dsk) (k : Nat) (w : World) (hD : DC w a d) (hk : k ≤ d.ops.length) (hs : Srt d.dur) (hnn : ∀ x ∈ d.dur, 0 ≤ x.f1) (hcr : crt d.ops ≤ d.ino.length) (hsm : Sml 40000 d) :
    Calls Try.prog 69 #[a, .int .i64 (k : Nat)] w fun e w' => ∃ v', e = .returned (.tuple #[v', .bool (repd (rep d.dur ((d.ino.length : Int) - (crt d.ops : Nat)) (d.ops.take k))).2]) ∧ Kd.R k69 69 w' w.heap.size (fun _ => True) v' (repd (rep d.dur ((d.ino.length : Int) - (crt d.ops : Nat)) (d.ops.take k))).1 ∧ Below w.heap.size w w' := by
  obtain ⟨A0, c0, A1, c1, A2, c2, A3, c3, rfl, ⟨r0, l0⟩, ⟨r1, l1⟩, ⟨r2, l2⟩, ⟨r3, l3⟩⟩ := hD
  obtain ⟨n0, n1, n2, n3⟩ := hsm
  have R2 := Aside0.mk r2
  have R3 := Aside0.mk r3
  have S := Aside0.mk hs
  have NN := Aside0.mk hnn
  obtain ⟨l, hl⟩ : ∃ l, l = d.ops.take k := ⟨_, rfl⟩
  have hll : l.length = k := by rw [hl, List.length_take]; omega
  have RL0 := C_head (m := k) r3 hk
  rw [← hl] at RL0 ⊢
  rw [← hll] at RL0
  have RL := Aside0.mk RL0
  have HLL := Aside0.mk hll
  obtain ⟨q, hq⟩ : ∃ q, q = crt d.ops := ⟨_, rfl⟩
  have CR := Aside0.mk (fun w' hC => creates_calls A3 c3 d.ops w' hC l3)
  rw [← hq] at CR hcr ⊢
  obtain ⟨res, hres⟩ : ∃ res, res = repd (rep d.dur ((d.ino.length : Int) - (q : Nat)) l) := ⟨_, rfl⟩
  rw [← hres]
  have HRes := Aside0.mk hres
  clear r0 r1 r2 r3 RL0 hs hnn hq hres hl hll
  obtain ⟨m, hm⟩ : ∃ m : Int, m = (d.ino.length : Int) - (q : Nat) := ⟨_, rfl⟩
  have hm0 : IntKind.i64.wrap ((d.ino.length : Int) - (q : Int)) = m := by rw [IntKind.wrap_i64]; omega
  have hm1 : 0 ≤ m := by omega
  have hm2 : m ≤ 1000000 := by omega
  rw [← hm] at HRes
  clear hm
  go_enter Try.func69, Try.ntmps69
  go_upto_region 1 with fail
  have hb := (Below.refl w.heap.size w).alloc (Nat.le_refl _) (.cells #[.slice A0 d.ino.length c0, .slice A1 d.dir.length c1, .slice A2 d.dur.length c2, .slice A3 d.ops.length c3] 47)
  have hk0 := blk_new w (.cells #[.slice A0 d.ino.length c0, .slice A1 d.dir.length c1, .slice A2 d.dur.length c2, .slice A3 d.ops.length c3] 47)
  generalize w.alloc (.cells #[.slice A0 d.ino.length c0, .slice A1 d.dir.length c1, .slice A2 d.dur.length c2, .slice A3 d.ops.length c3] 47) = W0 at hb hk0 ⊢
  obtain ⟨D, hD⟩ : ∃ D, D = w.heap.size := ⟨_, rfl⟩
  rw [← hD] at hk0 ⊢
  clear hD
  have bn := (Below.refl W0.heap.size W0).alloc (Nat.le_refl _) (.cells #[] 69)
  have QO := Aside0.mk (R69_empty hb.size (blk_new W0 (.cells #[] 69)))
  have QX := Aside0.mk (Kd.C_below R2.out (below_step hb bn))
  have QB := Aside0.mk (below_step hb bn)
  have HK0 := Aside0.mk (blk_below hk0 bn)
  have z2 : (W0.alloc (.cells #[] 69)).cell? ⟨D, 2, none⟩ = some (.slice A2 d.dur.length c2) := (blk_cell HK0.out 2).trans rfl
  clear hb hk0 bn
  go_upto_region 2 with (at_builtin; go_loud ((refine Kd.R_append_rows k69 (Rr := k69.K _) (w0 := w) w.heap.size rfl _ _ 44 69 (.agg #[.string ⟨#[]⟩, .int .i64 0]) 24 rfl Try.underlying44 info69 rfl (by decide) (by decide) (.slice (some ⟨W0.heap.size, 0, none⟩) 0 0) [] d.dur A2 d.dur.length c2 (fun _ => True) (fun _ => False) rfl rfl QO.out QX.out ?q2 ?q3 ?q4 QB.out QB.out.size ?q7 ?_); (case q2 => intro y cs h; obtain rfl := k69_open h; exact k69_mkM _ _ _ _); (case q3 => intro k h; exact h.elim); (case q4 => intro k hk; trivial); (case q7 => simp only [List.length_nil]; omega); intro v1 w1 h1 h2 h3 h4; rw [List.nil_append] at h1; have O1 := Aside0.mk h1; have HB1 := Aside0.mk h2; have K1 := Aside0.mk (blk_grown HK0.out h3 (Kd.R_ne QO.out HK0.out (by decide))); clear h1 h2 h3 h4))
  clear z2 QO QX QB HK0
  have z0 : w1.cell? ⟨D, 0, none⟩ = some (.slice A0 d.ino.length c0) := (blk_cell K1.out 0).trans rfl
  have z3 : w1.cell? ⟨D, 3, none⟩ = some (.slice A3 d.ops.length c3) := (blk_cell K1.out 3).trans rfl
  go_region_held3 (fun w' => w'.cell? ⟨D, 0, none⟩ = some (.slice A0 d.ino.length c0) ∧ w'.cell? ⟨D, 3, none⟩ = some (.slice A3 d.ops.length c3))
    (first | (go_keep; done) | exact ⟨(blk_cell K1.out 0).trans rfl, (blk_cell K1.out 3).trans rfl⟩)
    (first | (go_at_call 67; refine (CR.out _ (Kd.C_below R3.out HB1.out.drew)).mono ?_; rintro e w2 ⟨rfl, hb2⟩; have HB := Aside0.mk (below_step HB1.out.drew hb2); have O := Aside0.mk (Kd.R_below (Kd.R_drew O1.out) hb2); have n_ := Aside0.mk (blk_below (o := (.cells #[.slice A0 d.ino.length c0, .slice A1 d.dir.length c1, .slice A2 d.dur.length c2, .slice A3 d.ops.length c3] 47)) (blk_drew K1.out) hb2); clear K1 hb2; have K1 := n_; clear n_))
  rename_i hq_
  clear hq_ z0 z3 HB1 O1 CR
  have z3 : w2.cell? ⟨D, 3, none⟩ = some (.slice A3 d.ops.length c3) := (blk_cell K1.out 3).trans rfl
  have hk0 : (0 : Int) ≤ (k : Int) := by omega
  have hk1 : (k : Int) ≤ (d.ops.length : Int) := by omega
  have hk2 : (k : Int) ≤ (c3 : Int) := by omega
  go_wp2_with fail
  go_loopg [6, 7, 27] k (fun kx s6 s7 s27 wr => ∃ (l' : List S69) (m' : Int) (i : Nat) (v : Value), v = s6 ∧ s7 = .int .i64 m' ∧ s27 = .int .i64 i ∧ i ≤ k ∧ k - i ≤ kx ∧ Aside0 (rep d.dur m l = rep l' m' (l.drop i)) ∧ Aside0 (Srt l') ∧ Aside0 (∀ x ∈ l', 0 ≤ x.f1) ∧ l'.length ≤ d.dur.length + i ∧ 0 ≤ m' ∧ m' ≤ 1000000 + i ∧ Aside0 (Kd.R k69 69 wr w.heap.size (fun _ => True) v l') ∧ Aside0 (Below w.heap.size w wr))
  case atStart => exact ⟨d.dur, m, 0, v1, rfl, rfl, rfl, Nat.zero_le _, by omega, ⟨rfl⟩, S, NN, by omega, hm1, by omega, O, HB⟩
  case round =>
    clear O HB K1 z3
    obtain ⟨l', m', i, vd, rfl, rfl, rfl, hi, hkx, hrep, hsr, hnn, hll, hm3, hm4, O, HB⟩ := hrel
    obtain ⟨Ad, cd, rfl, ld, rd⟩ := Kd.R_reads O.out
    by_cases hlt : i < k
    · obtain ⟨ad, ea, hx0, hx1, hx2, hx3⟩ := at_T49 RL.out (i : Int) (by omega) (by have := HLL.out; omega)
      cases ea
      obtain ⟨y, hy⟩ : ∃ y, y = rd_T49 l (i : Int) := ⟨_, rfl⟩
      rw [← hy] at hx0 hx1 hx2 hx3
      have hy2 : l.drop i = y :: l.drop (i + 1) := by
        have : i < l.length := by have := HLL.out; omega
        rw [List.drop_eq_getElem_cons this, hy]
        congr 1
        show _ = l.getD i z49
        rw [List.getD_eq_getElem?_getD, List.getElem?_eq_getElem this]
        rfl
      have hrep2 := Aside0.mk (show rep d.dur m l = _ from by rw [hrep.out, hy2, Dk.rep_stp])
      clear hy hy2 hrep
      replace hx0 : wr.cell? (ad.add (i * 4)) = some (.int .i64 y.f0) := (HB.out.cell (World.block_lt_of_cell? w _ hx0)).trans hx0
      replace hx1 : wr.cell? ⟨(ad.add (i * 4)).block, (ad.add (i * 4)).off + 1, none⟩ = some (.string y.f1) := (HB.out.cell (World.block_lt_of_cell? w _ hx1)).trans hx1
      replace hx2 : wr.cell? ⟨(ad.add (i * 4)).block, (ad.add (i * 4)).off + 2, none⟩ = some (.string y.f2) := (HB.out.cell (World.block_lt_of_cell? w _ hx2)).trans hx2
      replace hx3 : wr.cell? ⟨(ad.add (i * 4)).block, (ad.add (i * 4)).off + 3, none⟩ = some (.string y.f3) := (HB.out.cell (World.block_lt_of_cell? w _ hx3)).trans hx3
      have bn := (Below.refl wr.heap.size wr).alloc (Nat.le_refl _) (.cells #[.int .i64 y.f0, .string y.f1, .string y.f2, .string y.f3] 49)
      have kN := blk_new wr (.cells #[.int .i64 y.f0, .string y.f1, .string y.f2, .string y.f3] 49)
      have QB := Aside0.mk (below_step HB.out bn)
      have QN := Aside0.mk kN
      have SC := Aside0.mk (step59_calls Ad cd l' y m' (wr.alloc (.cells #[.int .i64 y.f0, .string y.f1, .string y.f2, .string y.f3] 49)) hsr.out hnn.out (Kd.C_below rd bn) ld (by omega))
      obtain ⟨st, hst⟩ : ∃ st, st = stp l' y m' := ⟨_, rfl⟩
      have SS := Aside0.mk (Dk.stp_srt hsr.out y m')
      have SN := Aside0.mk (Dk.stp_nn hsr.out hnn.out (o := y) hm3)
      have SL := Aside0.mk (Dk.stp_length l' y m')
      rw [← hst] at SC hrep2 SS SN SL
      obtain ⟨sl, se⟩ := st
      have y0 := (blk_cell kN 0).trans rfl
      have y1 := (blk_cell kN 1).trans rfl
      have y2 := (blk_cell kN 2).trans rfl
      have y3 := (blk_cell kN 3).trans rfl
      clear hst bn kN O HB ld rd
      go_wp2_with fail
      refine SC.out.mono ?_
      rintro e w3 ⟨v', rfl, h1, h2⟩
      have HB3 := Aside0.mk (below_step QB.out h2)
      have O3 := Aside0.mk (Kd.R_lower h1 QB.out.size)
      have y0' := (blk_cell (blk_below QN.out h2) 0).trans rfl
      clear h1 h2 y0 y1 y2 y3 SC QB QN
      by_cases he : se = 0
      · subst he
        have hr3 := Aside0.mk (show rep d.dur m l = rep sl (if y.f0 = 1 then m' + 1 else m') (l.drop (i + 1)) from by rw [hrep2.out]; rfl)
        by_cases hk1 : y.f0 = 1
        · rw [if_pos hk1] at hr3
          go_wp2
          go_roundg (k - i - 1)
          case measure => omega
          case rel => exact ⟨sl, m' + 1, i + 1, _, rfl, by first | rfl | (simp; done), by first | rfl | (simp; done), by omega, by omega, hr3, SS, SN, by have h' : sl.length ≤ l'.length + 1 := SL.out; omega, by omega, by omega, O3, HB3⟩
        · rw [if_neg hk1] at hr3
          go_wp2
          go_roundg (k - i - 1)
          case measure => omega
          case rel => exact ⟨sl, m', i + 1, _, rfl, by first | rfl | (simp; done), by first | rfl | (simp; done), by omega, by omega, hr3, SS, SN, by have h' : sl.length ≤ l'.length + 1 := SL.out; omega, by omega, by omega, O3, HB3⟩
      · have hres : res = ([], false) := by
          rw [HRes.out, hrep2.out, if_neg he]
          rfl
        subst hres
        clear HRes
        go_wp2
        go_ret2
        exact ⟨_, rfl, Kd.R_nil _ _ _ _ _, HB3.out⟩
    · have e : res = (l', true) := by
        rw [HRes.out, hrep.out, List.drop_of_length_le (by have := HLL.out; omega)]
        rfl
      subst e
      clear HRes hrep
      go_wp2
      go_ret2
      exact ⟨_, rfl, O.out, HB.out⟩
end Go.Proofs.Ytnaddmkaakdhoaa.J

end
section
namespace Go.Proofs.Ytnaddmkaakdhoaa.Dk
open J
def EntOK (p : List S69) (y : S69) (n : Nat) : Prop := vname y.f0 = true ∧ (∀ x, p.getLast? = some x → nk x.f0 < nk y.f0) ∧ 0 ≤ y.f1 ∧ y.f1 < n
noncomputable instance (p : List S69) (y : S69) (n : Nat) : Decidable (EntOK p y n) := Classical.propDecidable _
end Go.Proofs.Ytnaddmkaakdhoaa.Dk
namespace Go.Proofs.Ytnaddmkaakdhoaa.J
open Go.RowKit Go.Proofs.YtnaddmkaakdhoaaW.PrintWords Go.Proofs.YtnaddmkaakdhoaaW.PrintLast Go.Proofs.YtnaddmkaakdhoaaW.PrintMore
open Dk (Srt DirOK marked vname)
set_option linter.unusedVariables false
set_option linter.unusedSimpArgs false
set_option maxHeartbeats 8000000 in
set_option maxRecDepth 100000 in
theorem directory68_calls (A : Option Addr) (c : Nat) (l : List S69) (n : Nat) (w : World) (hr : Kd.C k69 w A l.length l) (hc : l.length ≤ c) :
    Calls Try.prog 68 #[.slice A l.length c, .int .i64 (n : Nat)] w fun e w' => e = .returned (.bool (decide (DirOK l n))) ∧ Below w.heap.size w w' := by
  have HR := Aside0.mk hr
  have hlen : l.length ≤ 9223372036854775807 := hr.2.1
  obtain ⟨ln, hln⟩ : ∃ ln, ln = l.length := ⟨_, rfl⟩
  have HL := Aside0.mk hln
  rw [← hln] at hlen hc ⊢
  obtain ⟨r, hrr⟩ : ∃ r, r = decide (DirOK l n) := ⟨_, rfl⟩
  rw [← hrr]
  have RR := Aside0.mk hrr
  have hfo : Try.prog.follows Departure.mixedOrders = true := by kernel_rfl
  clear hrr hr hln
  go_enter Try.func68, Try.ntmps68
  go_wp2_with fail
  go_loopg [11] ln (fun kx s11 wr => ∃ i : Nat, s11 = .int .i64 i ∧ i ≤ ln ∧ ln - i ≤ kx ∧ Aside0 (DirOK (l.take i) n) ∧ Aside0 (Below w.heap.size w wr))
  case atStart => exact ⟨0, rfl, Nat.zero_le _, by omega, ⟨⟨fun x hx => by simp at hx, List.Pairwise.nil, List.nodup_nil⟩⟩, ⟨Below.refl _ _⟩⟩
  case round =>
    obtain ⟨i, rfl, hi, hk, hD, HB⟩ := hrel
    by_cases hlt : i < ln
    · obtain ⟨ad, ea, hx0, hx1⟩ := at_T69 HR.out (i : Int) (by omega) (by have := HL.out; omega)
      subst ea
      obtain ⟨y, hy⟩ : ∃ y, y = rd_T69 l (i : Int) := ⟨_, rfl⟩
      rw [← hy] at hx0 hx1
      have hil : i < l.length := by have := HL.out; omega
      have hyi : l[i] = y := by
        rw [hy]
        show _ = l.getD i z69
        rw [Dk.getD_eq hil]
      have hsp : l = (l.take i ++ [y]) ++ l.drop (i + 1) := by
        rw [← hyi, List.append_assoc, List.singleton_append, ← List.drop_eq_getElem_cons hil, List.take_append_drop]
      have htk : l.take (i + 1) = l.take i ++ [y] := by rw [List.take_succ_eq_append_getElem hil, hyi]
      have HS := Aside0.mk hsp
      have HT := Aside0.mk htk
      have hlast : ∀ i' x, i = i' + 1 → l.getD i' z69 = x → (l.take i).getLast? = some x := fun i' x h1 h2 => by
        subst h1
        rw [List.take_succ_eq_append_getElem (by omega), List.getLast?_concat, ← h2, Dk.getD_eq (by omega)]
      have HLa := Aside0.mk hlast
      clear hy hsp htk hlast hyi
      replace hx0 : wr.cell? (ad.add (i * 2)) = some (.string y.f0) := pw_cell_below HB.out hx0
      replace hx1 : wr.cell? ⟨(ad.add (i * 2)).block, (ad.add (i * 2)).off + 1, none⟩ = some (.int .i64 y.f1) := pw_cell_below HB.out hx1
      have bN := (Below.refl wr.heap.size wr).alloc (Nat.le_refl _) (.cells #[.string y.f0, .int .i64 y.f1] 69)
      have kN := Aside0.mk (blk_new wr (.cells #[.string y.f0, .int .i64 y.f1] 69))
      have BN := Aside0.mk bN
      have z0 : (wr.alloc (.cells #[.string y.f0, .int .i64 y.f1] 69)).cell? ⟨wr.heap.size, 0, none⟩ = some (.string y.f0) := (blk_cell kN.out 0).trans rfl
      have z1 : (wr.alloc (.cells #[.string y.f0, .int .i64 y.f1] 69)).cell? ⟨wr.heap.size, 1, none⟩ = some (.int .i64 y.f1) := (blk_cell kN.out 1).trans rfl
      obtain ⟨bb, hbb⟩ : ∃ bb, bb = decide (¬ Dk.EntOK (l.take i) y n) := ⟨_, rfl⟩
      have HBB := Aside0.mk hbb
      clear hbb
      have V := Aside0.mk (fun w' => vname82_quiet y.f0 w')
      go_upto_region 4 with fail
      go_cut [45] (fun c wx => c = .bool bb ∧ ∃ nq, wx = (wr.alloc (.cells #[.string y.f0, .int .i64 y.f1] 69)).drewN nq)
      case first =>
        obtain ⟨vb, hvb⟩ : ∃ vb, vb = vname y.f0 := ⟨_, rfl⟩
        rw [← hvb] at V
        have HV := Aside0.mk hvb
        clear hvb
        cases vb with
        | false =>
          go_big_quiet_o ((go_at_call 82; exact Calls.quiet_of ((V.out _).mono (fun e w' h => ⟨h.1, h.2.out⟩))))
          go_wp2
          go_meet
          exact ⟨congrArg Value.bool (HBB.out.trans (decide_eq_true (fun h => by have := h.1; rw [← HV.out] at this; cases this))).symm, _, rfl⟩
        | true =>
          by_cases h0 : y.f1 < 0
          · have hd : decide (y.f1 < 0) = true := decide_eq_true h0
            go_big_quiet_o ((go_at_call 82; exact Calls.quiet_of ((V.out _).mono (fun e w' h => ⟨h.1, h.2.out⟩))))
            go_wp2
            go_meet
            exact ⟨congrArg Value.bool (HBB.out.trans (decide_eq_true (fun h => by have := h.2.2; omega))).symm, _, rfl⟩
          · by_cases h1 : (n : Int) ≤ y.f1
            · have hd : decide (y.f1 < 0) = false := decide_eq_false h0
              have hd2 : decide ((n : Int) ≤ y.f1) = true := decide_eq_true h1
              go_big_quiet_o ((go_at_call 82; exact Calls.quiet_of ((V.out _).mono (fun e w' h => ⟨h.1, h.2.out⟩))))
              go_wp2
              go_meet
              exact ⟨congrArg Value.bool (HBB.out.trans (decide_eq_true (fun h => by have := h.2.2; omega))).symm, _, rfl⟩
            · have hd : decide (y.f1 < 0) = false := decide_eq_false h0
              have hd2 : decide ((n : Int) ≤ y.f1) = false := decide_eq_false h1
              by_cases hpos : 0 < i
              · obtain ⟨k, hk1⟩ : ∃ k, i = k + 1 := ⟨i - 1, by omega⟩
                obtain ⟨ad2, ea, hp0, hp1⟩ := at_T69 HR.out (k : Int) (by omega) (by have := HL.out; omega)
                cases ea
                obtain ⟨yp, hyp⟩ : ∃ yp, yp = rd_T69 l (k : Int) := ⟨_, rfl⟩
                rw [← hyp] at hp0 hp1
                have LA := Aside0.mk (HLa.out k yp hk1 (by rw [hyp]; rfl))
                replace hp0 : (wr.alloc (.cells #[.string y.f0, .int .i64 y.f1] 69)).cell? (ad.add ((i - 1) * 2)) = some (.string yp.f0) := by
                  rw [show i - 1 = k by omega]
                  exact pw_cell_below bN (pw_cell_below HB.out hp0)
                clear hyp hp1
                have hk0 : (0 : Int) ≤ (i : Int) - 1 := by omega
                have hkl : (i : Int) - 1 < (ln : Int) := by omega
                have hg0 : decide ((0 : Int) < (i : Int)) = true := decide_eq_true (by omega)
                clear hk1
                by_cases hge : Dk.nk yp.f0 < Dk.nk y.f0
                · have hbl : Op.bytesLess yp.f0.toList y.f0.toList = true := by rw [bl_eq]; exact decide_eq_true hge
                  go_big_quiet_o ((go_at_call 82; exact Calls.quiet_of ((V.out _).mono (fun e w' h => ⟨h.1, h.2.out⟩))))
                  go_wp2
                  go_meet
                  exact ⟨congrArg Value.bool (HBB.out.trans (decide_eq_false (fun h => h ⟨HV.out.symm, fun x hx => by obtain rfl := Option.some.inj (hx.symm.trans LA.out); exact hge, by omega, by omega⟩))).symm, _, rfl⟩
                · have hbl : Op.bytesLess yp.f0.toList y.f0.toList = false := by rw [bl_eq]; exact decide_eq_false hge
                  go_big_quiet_o ((go_at_call 82; exact Calls.quiet_of ((V.out _).mono (fun e w' h => ⟨h.1, h.2.out⟩))))
                  go_wp2
                  go_meet
                  exact ⟨congrArg Value.bool (HBB.out.trans (decide_eq_true (fun h => by exact hge (h.2.1 _ LA.out)))).symm, _, rfl⟩
              · have hg0 : decide ((0 : Int) < (i : Int)) = false := decide_eq_false (by omega)
                go_big_quiet_o ((go_at_call 82; exact Calls.quiet_of ((V.out _).mono (fun e w' h => ⟨h.1, h.2.out⟩))))
                go_wp2
                go_meet
                exact ⟨congrArg Value.bool (HBB.out.trans (decide_eq_false (fun h => h ⟨HV.out.symm, fun x hx => by rw [show i = 0 by omega] at hx; simp at hx, by omega, by omega⟩))).symm, _, rfl⟩
      case rest =>
        obtain ⟨rfl, nq, rfl⟩ := hcut
        have WB := Aside0.mk (pw_below_drewN (HB.out.trans (bN.mono HB.out.size)) nq)
        cases bb with
        | true =>
          have hnot : ¬ DirOK l n := fun h => by
            have h2 := of_decide_eq_true HBB.out.symm
            rw [HS.out] at h
            have h3 := (Dk.DirOK_snoc.1 (Dk.DirOK_pre h)).2
            exact h2 ⟨h3.1, h3.2.1, h3.2.2.1, h3.2.2.2.1⟩
          have hr1 : r = false := by rw [RR.out]; exact decide_eq_false hnot
          subst hr1
          clear RR hnot
          go_wp2
          go_ret
          exact ⟨rfl, WB.out⟩
        | false =>
          have hok : Dk.EntOK (l.take i) y n := Classical.not_not.1 (of_decide_eq_false HBB.out.symm)
          have OKE := Aside0.mk hok
          have kM : ((wr.alloc (.cells #[.string y.f0, .int .i64 y.f1] 69)).drewN nq).heap[wr.heap.size]? = _ := kN.out
          generalize (wr.alloc (.cells #[.string y.f0, .int .i64 y.f1] 69)).drewN nq = W at WB kM ⊢
          obtain ⟨M, hM⟩ : ∃ M, M = wr.heap.size := ⟨_, rfl⟩
          rw [← hM] at kM ⊢
          have KM := Aside0.mk kM
          have MW := Aside0.mk (show M < W.heap.size from blk_lt kM)
          have HT2 := HT
          clear hok hx0 hx1 z0 z1 kN hM kM bN BN HT HLa HBB V HB
          have hic : i ≤ c := by omega
          go_wp2_with fail
          go_loopg [50] i (fun kx s50 wr => ∃ t : Nat, s50 = .int .i64 t ∧ t ≤ i ∧ i - t ≤ kx ∧ Aside0 (∀ s, s < t → (l.getD s z69).f1 ≠ y.f1) ∧ Aside0 (wr.heap[M]? = some (.cells #[.string y.f0, .int .i64 y.f1] 69)) ∧ Aside0 (Below w.heap.size w wr))
          case atStart => exact ⟨0, rfl, Nat.zero_le _, by omega, ⟨fun s hs => absurd hs (Nat.not_lt_zero _)⟩, KM, WB⟩
          case round =>
            clear WB KM MW
            obtain ⟨t, rfl, ht, hkt, hN, KM, WB⟩ := hrel
            by_cases hti : t < i
            · obtain ⟨ad2, ea, hp0, hp1⟩ := at_T69 HR.out (t : Int) (by omega) (by have := HL.out; omega)
              cases ea
              obtain ⟨yp, hyp⟩ : ∃ yp, yp = rd_T69 l (t : Int) := ⟨_, rfl⟩
              rw [← hyp] at hp0 hp1
              have YP := Aside0.mk (show l.getD t z69 = yp from by rw [hyp]; rfl)
              replace hp0 : wr.cell? (ad.add (t * 2)) = some (.string yp.f0) := pw_cell_below WB.out hp0
              replace hp1 : wr.cell? ⟨(ad.add (t * 2)).block, (ad.add (t * 2)).off + 1, none⟩ = some (.int .i64 yp.f1) := pw_cell_below WB.out hp1
              have bN := (Below.refl wr.heap.size wr).alloc (Nat.le_refl _) (.cells #[.string yp.f0, .int .i64 yp.f1] 69)
              have z1 : (wr.alloc (.cells #[.string yp.f0, .int .i64 yp.f1] 69)).cell? ⟨wr.heap.size, 1, none⟩ = some (.int .i64 yp.f1) := (blk_cell (blk_new wr (.cells #[.string yp.f0, .int .i64 yp.f1] 69)) 1).trans rfl
              have hlw : M < wr.heap.size := blk_lt KM.out
              have kM2 := (bN.block _ hlw).trans KM.out
              have y1 : (wr.alloc (.cells #[.string yp.f0, .int .i64 yp.f1] 69)).cell? ⟨M, 1, none⟩ = some (.int .i64 y.f1) := (blk_cell kM2 1).trans rfl
              have KM2 := Aside0.mk kM2
              have WB2 := Aside0.mk (WB.out.trans (bN.mono WB.out.size))
              clear hyp kM2 hlw bN
              go_wp2_with fail
              all_goals
                first
                | (have he : yp.f1 = y.f1 := eq_of_beq (by assumption : (yp.f1 == y.f1) = true)
                   have hnot : ¬ DirOK l n := fun h => by
                    have h2 : marked (l.take i) y.f1.toNat = false := by
                      rw [HS.out] at h
                      exact (Dk.DirOK_snoc.1 (Dk.DirOK_pre h)).2.2.2.2.2
                    have h3 : marked (l.take i) y.f1.toNat = true := List.any_eq_true.2 ⟨yp, by
                      have hil : t < l.length := by have := HL.out; omega
                      rw [← YP.out, Dk.getD_eq hil]
                      exact List.mem_take_iff_getElem.2 ⟨t, by omega, rfl⟩, decide_eq_true (by have := OKE.out.2.2; omega)⟩
                    rw [h2] at h3; cases h3
                   have hr1 : r = false := by rw [RR.out]; exact decide_eq_false hnot
                   subst hr1
                   go_ret
                   exact ⟨rfl, WB2.out⟩)
                | (have he : ¬ yp.f1 = y.f1 := ne_of_beq_false (by assumption : (yp.f1 == y.f1) = false)
                   have NE := Aside0.mk he
                   clear he
                   go_roundg (i - t - 1)
                   case measure => omega
                   case rel =>
                     exact ⟨t + 1, by first | rfl | (simp; done), hti, by omega, ⟨fun s hs => by
                       by_cases hst : s = t
                       · rw [hst, YP.out]; exact NE.out
                       · exact hN.out s (by omega)⟩, KM2, WB2⟩)
            · go_wp2_with fail
              go_roundg (ln - i - 1)
              case measure => omega
              case rel =>
                refine ⟨i + 1, by first | rfl | (simp; done), hlt, by omega, ⟨?_⟩, WB⟩
                rw [HT2.out]
                refine Dk.DirOK_snoc.2 ⟨hD.out, OKE.out.1, OKE.out.2.1, OKE.out.2.2.1, OKE.out.2.2.2, ?_⟩
                refine Bool.eq_false_iff.2 fun h => ?_
                obtain ⟨x, hx, hx2⟩ := List.any_eq_true.1 h
                obtain ⟨s, hs, rfl⟩ := List.mem_take_iff_getElem.1 hx
                have h5 := hN.out s (by omega)
                rw [Dk.getD_eq (by omega)] at h5
                have h6 := of_decide_eq_true hx2
                exact h5 (by have := OKE.out.2.2; omega)
    · have e : DirOK l n := by have := hD.out; rwa [List.take_of_length_le (by have := HL.out; omega)] at this
      have hr1 : r = true := by rw [RR.out]; exact decide_eq_true e
      subst hr1
      clear e hD RR
      go_wp2
      go_ret
      exact ⟨rfl, HB.out⟩
end Go.Proofs.Ytnaddmkaakdhoaa.J

end
section
namespace Go.Proofs.Ytnaddmkaakdhoaa.J
open Go.RowKit Go.Proofs.YtnaddmkaakdhoaaW.PrintWords Go.Proofs.YtnaddmkaakdhoaaW.PrintLast Go.Proofs.YtnaddmkaakdhoaaW.PrintMore
open Dk (Srt crt rep repd DirOK marked valid valid_iff inoBad)
set_option linter.unusedVariables false
set_option linter.unusedSimpArgs false
attribute [local go_sem high] eqA69
theorem marked_take {l : List S69} {t i : Nat} {y : S69} (h : t < l.length) (hy : l.getD t z69 = y) : marked (l.take (t + 1)) i = (marked (l.take t) i || decide (y.f1 = (i : Int))) := by
  rw [List.take_succ_eq_append_getElem h, Dk.marked_snoc, ← hy, Dk.getD_eq h]
set_option maxHeartbeats 8000000 in
set_option maxRecDepth 100000 in
theorem validate36_calls (a : Value) (d : Dsk) (w : World) (hd : DC w a d) (hs : Sml 40000 d) :
    Calls Try.prog 36 #[a] w fun e w' => e = .returned (.int .i64 (if valid d = true then 0 else 9)) ∧ Below w.heap.size w w' := by
  obtain ⟨A0, c0, A1, c1, A2, c2, A3, c3, rfl, ⟨r0, l0⟩, ⟨r1, l1⟩, ⟨r2, l2⟩, ⟨r3, l3⟩⟩ := hd
  have SM := Aside0.mk hs
  obtain ⟨n0, n1, n2, n3⟩ := hs
  obtain ⟨r, hr⟩ : ∃ r : Int, r = if valid d = true then 0 else 9 := ⟨_, rfl⟩
  rw [← hr]
  have HV := Aside0.mk (show ¬ valid d = true → r = 9 from fun h => by rw [hr, if_neg h])
  have HW := Aside0.mk (show valid d = true → r = 0 from fun h => by rw [hr, if_pos h])
  have R0 := Aside0.mk r0
  have R1 := Aside0.mk r1
  have R2 := Aside0.mk r2
  have R3 := Aside0.mk r3
  have DD := Aside0.mk (show DC w (.agg #[.slice A0 d.ino.length c0, .slice A1 d.dir.length c1, .slice A2 d.dur.length c2, .slice A3 d.ops.length c3]) d from ⟨A0, c0, A1, c1, A2, c2, A3, c3, rfl, ⟨r0, l0⟩, ⟨r1, l1⟩, ⟨r2, l2⟩, ⟨r3, l3⟩⟩)
  clear hr r0 r1 r2 r3
  obtain ⟨n, hn⟩ : ∃ n, n = d.ino.length := ⟨_, rfl⟩
  have HN := Aside0.mk hn
  rw [← hn] at l0 n0 ⊢
  obtain ⟨b1, hb1⟩ : ∃ b1, b1 = decide (DirOK d.dir n) := ⟨_, rfl⟩
  obtain ⟨b2, hb2⟩ : ∃ b2, b2 = decide (DirOK d.dur n) := ⟨_, rfl⟩
  have C1 := Aside0.mk (fun w' hr' => directory68_calls A1 c1 d.dir n w' hr' l1)
  have C2 := Aside0.mk (fun w' hr' => directory68_calls A2 c2 d.dur n w' hr' l2)
  rw [← hb1] at C1
  rw [← hb2] at C2
  have H1 := Aside0.mk hb1
  have H2 := Aside0.mk hb2
  have CQ := Aside0.mk (fun w' hC => creates_calls A3 c3 d.ops w' hC l3)
  have hqle : crt d.ops ≤ d.ops.length := List.countP_le_length
  obtain ⟨q, hq⟩ : ∃ q, q = crt d.ops := ⟨_, rfl⟩
  rw [← hq] at CQ hqle
  have HQ := Aside0.mk hq
  have hm0 : IntKind.i64.wrap ((n : Int) - (q : Int)) = (n : Int) - (q : Int) := by rw [IntKind.wrap_i64]; omega
  clear hb1 hb2 hq hn
  go_enter Try.func36, Try.ntmps36
  go_upto_region 2 with fail
  have B0 := (Below.refl w.heap.size w).alloc (Nat.le_refl _) (.cells #[.slice A0 n c0, .slice A1 d.dir.length c1, .slice A2 d.dur.length c2, .slice A3 d.ops.length c3] 47)
  have k0 := blk_new w (.cells #[.slice A0 n c0, .slice A1 d.dir.length c1, .slice A2 d.dur.length c2, .slice A3 d.ops.length c3] 47)
  generalize w.alloc (.cells #[.slice A0 n c0, .slice A1 d.dir.length c1, .slice A2 d.dur.length c2, .slice A3 d.ops.length c3] 47) = W0 at B0 k0 ⊢
  obtain ⟨D, hD⟩ : ∃ D, D = w.heap.size := ⟨_, rfl⟩
  have HD := Aside0.mk hD
  rw [← hD] at k0 ⊢
  have K0 := Aside0.mk k0
  have HB0 := Aside0.mk B0
  have z3 : W0.cell? ⟨D, 3, none⟩ = some (.slice A3 d.ops.length c3) := (blk_cell k0 3).trans rfl
  clear hD k0 B0
  go_wp2_with fail
  refine (CQ.out W0 (Kd.C_below R3.out HB0.out)).mono ?_
  rintro e w1 ⟨rfl, hb1⟩
  have HB1 := Aside0.mk (below_step HB0.out hb1)
  have K1 := Aside0.mk (blk_below K0.out hb1)
  clear z3 hb1 CQ HB0 K0
  have z1 : w1.cell? ⟨D, 1, none⟩ = some (.slice A1 d.dir.length c1) := (blk_cell K1.out 1).trans rfl
  go_wp2_with fail
  refine (C1.out w1 (Kd.C_below R1.out HB1.out)).mono ?_
  rintro e w2 ⟨rfl, hb2⟩
  have HB2 := Aside0.mk (below_step HB1.out hb2)
  have K2 := Aside0.mk (blk_below K1.out hb2)
  clear z1 hb2 C1 HB1 K1
  cases b1 with
  | false =>
    have e := HV.out (fun h => by
      have := (valid_iff.1 h).1
      rw [← HN.out] at this
      exact of_decide_eq_false H1.out.symm this)
    subst e
    clear HV HW
    go_wp2
    go_ret
    exact ⟨rfl, HB2.out⟩
  | true =>
    have z2 : w2.cell? ⟨D, 2, none⟩ = some (.slice A2 d.dur.length c2) := (blk_cell K2.out 2).trans rfl
    go_wp2_with fail
    refine (C2.out w2 (Kd.C_below R2.out HB2.out)).mono ?_
    rintro e w3 ⟨rfl, hb3⟩
    have HB3 := Aside0.mk (below_step HB2.out hb3)
    have K3 := Aside0.mk (blk_below K2.out hb3)
    clear z2 hb3 C2 HB2 K2
    cases b2 with
    | false =>
      have e := HV.out (fun h => by
        have := (valid_iff.1 h).2.1
        rw [← HN.out] at this
        exact of_decide_eq_false H2.out.symm this)
      subst e
      clear HV HW
      go_wp2
      go_ret
      exact ⟨rfl, HB3.out⟩
    | true =>
      have D1 := Aside0.mk (of_decide_eq_true H1.out.symm)
      have D2 := Aside0.mk (of_decide_eq_true H2.out.symm)
      clear H1 H2
      by_cases hqn : n < q
      · have e := HV.out (fun h => by
          have := (valid_iff.1 h).2.2.1
          rw [← HN.out, ← HQ.out] at this
          omega)
        subst e
        clear HV HW
        have hqn' : (n : Int) - (q : Int) < 0 := by omega
        go_wp2
        go_ret
        exact ⟨rfl, HB3.out⟩
      · obtain ⟨m, hm⟩ : ∃ m : Nat, (n : Int) - (q : Int) = (m : Int) := ⟨n - q, by omega⟩
        have HM := Aside0.mk hm
        rw [hm] at hm0 ⊢
        have hmn : m ≤ n := by omega
        clear hm hqn
        have z2 : w3.cell? ⟨D, 2, none⟩ = some (.slice A2 d.dur.length c2) := (blk_cell K3.out 2).trans rfl
        obtain ⟨ln, hln⟩ : ∃ ln, ln = d.dur.length := ⟨_, rfl⟩
        have HL := Aside0.mk hln
        rw [← hln] at l2 n2 z2
        clear hln
        go_wp2_with fail
        go_loopg [44] ln (fun kx s44 wr => ∃ i : Nat, s44 = .int .i64 i ∧ i ≤ ln ∧ ln - i ≤ kx ∧ Aside0 (∀ j, j < i → (d.dur.getD j z69).f1 < (m : Int)) ∧ Aside0 (Below w.heap.size w wr) ∧ Aside0 (wr.heap[D]? = some (.cells #[.slice A0 n c0, .slice A1 d.dir.length c1, .slice A2 d.dur.length c2, .slice A3 d.ops.length c3] 47 (0, 0))))
        case atStart => exact ⟨0, rfl, Nat.zero_le _, by omega, ⟨fun j hj => absurd hj (Nat.not_lt_zero _)⟩, HB3, K3⟩
        case round =>
          clear HB3 K3 z2
          obtain ⟨i, rfl, hi, hk, hA, HB, K⟩ := hrel
          by_cases hlt : i < ln
          · obtain ⟨ad, ea, hx0, hx1⟩ := at_T69 R2.out (i : Int) (by omega) (by have := HL.out; omega)
            cases ea
            obtain ⟨y, hy⟩ : ∃ y, y = rd_T69 d.dur (i : Int) := ⟨_, rfl⟩
            rw [← hy] at hx0 hx1
            replace hx0 : wr.cell? (ad.add (i * 2)) = some (.string y.f0) := pw_cell_below HB.out hx0
            replace hx1 : wr.cell? ⟨(ad.add (i * 2)).block, (ad.add (i * 2)).off + 1, none⟩ = some (.int .i64 y.f1) := pw_cell_below HB.out hx1
            have Y := Aside0.mk (show d.dur.getD i z69 = y from by rw [hy]; rfl)
            have hB := below_alloc HB.out (.cells #[.string y.f0, .int .i64 y.f1] 69)
            have hK := blk_alloc K.out (.cells #[.string y.f0, .int .i64 y.f1] 69)
            have y1 := (blk_cell (blk_new wr (.cells #[.string y.f0, .int .i64 y.f1] 69)) 1).trans rfl
            have HB' := Aside0.mk hB
            have HK' := Aside0.mk hK
            clear hy hB hK K HB
            by_cases hge : (m : Int) ≤ y.f1
            · have e := HV.out (fun h => by
                have := (valid_iff.1 h).2.2.2.1
                rw [List.any_eq_false] at this
                have hil : i < d.dur.length := by have := HL.out; omega
                have h2 := this y (by rw [← Y.out, Dk.getD_eq hil]; exact List.getElem_mem hil)
                rw [← HN.out, ← HQ.out, HM.out] at h2
                exact h2 (decide_eq_true hge))
              subst e
              clear HV HW
              go_wp2_with fail
              go_ret
              exact ⟨rfl, HB'.out⟩
            · go_wp2_with fail
              go_roundg (ln - i - 1)
              case measure => omega
              case rel =>
                exact ⟨i + 1, by first | rfl | (simp; done), hlt, by omega, ⟨fun j hj => by
                  by_cases hji : j = i
                  · rw [hji, Y.out]; omega
                  · exact hA.out j (by omega)⟩, HB', HK'⟩
          · have H3 := Aside0.mk (show d.dur.any (fun x => decide ((d.ino.length : Int) - (crt d.ops : Nat) ≤ x.f1)) = false from by
              rw [List.any_eq_false]
              intro x hx
              obtain ⟨j, hj, rfl⟩ := List.getElem_of_mem hx
              have := hA.out j (by have := HL.out; omega)
              rw [Dk.getD_eq hj] at this
              rw [← HN.out, ← HQ.out, HM.out]
              simp only [decide_eq_true_eq]; omega)
            have z0 : wr.cell? ⟨D, 0, none⟩ = some (.slice A0 n c0) := (blk_cell K.out 0).trans rfl
            have HB3 := HB
            have K3 := K
            clear hA HB K hk hi
            go_wp2_with fail
            go_loopg [56] n (fun kx s56 wr => ∃ i : Nat, s56 = .int .i64 i ∧ i ≤ n ∧ n - i ≤ kx ∧ Aside0 (∀ j, j < i → inoBad d j (d.ino.getD j z67) = false) ∧ Aside0 (Below w.heap.size w wr) ∧ Aside0 (wr.heap[D]? = some (.cells #[.slice A0 n c0, .slice A1 d.dir.length c1, .slice A2 d.dur.length c2, .slice A3 d.ops.length c3] 47 (0, 0))))
            case atStart => exact ⟨0, rfl, Nat.zero_le _, by omega, ⟨fun j hj => absurd hj (Nat.not_lt_zero _)⟩, HB3, K3⟩
            case round =>
              clear HB3 K3 z0
              obtain ⟨i, rfl, hi, hk, hA, HB, K⟩ := hrel
              by_cases hlt : i < n
              · obtain ⟨ad, ea, hx0, hx1⟩ := at_T67 R0.out (i : Int) (by omega) (by have := HN.out; omega)
                cases ea
                obtain ⟨y, hy⟩ : ∃ y, y = rd_T67 d.ino (i : Int) := ⟨_, rfl⟩
                rw [← hy] at hx0 hx1
                replace hx0 : wr.cell? (ad.add (i * 2)) = some (.string y.f0) := pw_cell_below HB.out hx0
                replace hx1 : wr.cell? ⟨(ad.add (i * 2)).block, (ad.add (i * 2)).off + 1, none⟩ = some (.int .i64 y.f1) := pw_cell_below HB.out hx1
                have Y := Aside0.mk (show d.ino.getD i z67 = y from by rw [hy]; rfl)
                have hB := below_alloc HB.out (.cells #[.string y.f0, .int .i64 y.f1] 67)
                have hK := blk_alloc K.out (.cells #[.string y.f0, .int .i64 y.f1] 67)
                have h8 := blk_new wr (.cells #[.string y.f0, .int .i64 y.f1] 67)
                have z1 := (blk_cell hK 1).trans rfl
                have HB' := Aside0.mk hB
                have HK' := Aside0.mk hK
                have H8 := Aside0.mk h8
                obtain ⟨kb, hkb⟩ : ∃ kb, kb = decide (m ≤ i) := ⟨_, rfl⟩
                have KB := Aside0.mk hkb
                obtain ⟨ld, hld⟩ : ∃ ld, ld = d.dir.length := ⟨_, rfl⟩
                have HLD := Aside0.mk hld
                obtain ⟨lu, hlu⟩ : ∃ lu, lu = d.dur.length := ⟨_, rfl⟩
                have HLU := Aside0.mk hlu
                have z1' : (wr.alloc (.cells #[.string y.f0, .int .i64 y.f1] 67)).cell? ⟨D, 1, none⟩ = some (.slice A1 ld c1) := by rw [hld]; exact z1
                have hld2 : ld ≤ 40000 := by omega
                have hld3 : ld ≤ c1 := by omega
                clear hy hB hK h8 K HB hkb z1 hld hlu
                go_upto_region 15 with fail
                rw [← KB.out]
                generalize wr.alloc (.cells #[.string y.f0, .int .i64 y.f1] 67) = W1 at HB' HK' H8 z1' ⊢
                obtain ⟨M, hM⟩ : ∃ M, M = wr.heap.size := ⟨_, rfl⟩
                rw [← hM] at H8 ⊢
                clear hM hx0 hx1
                go_wp2_with fail
                go_loopg [9, 67] ld (fun kx s9 s67 wr => ∃ (t : Nat) (b : Bool), s9 = .bool b ∧ s67 = .int .i64 t ∧ t ≤ ld ∧ ld - t ≤ kx ∧ Aside0 (b = (kb || marked (d.dir.take t) i)) ∧ Aside0 (Below w.heap.size w wr) ∧ Aside0 (wr.heap[D]? = some (.cells #[.slice (some ad) n c0, .slice A1 d.dir.length c1, .slice A2 d.dur.length c2, .slice A3 d.ops.length c3] 47 (0, 0))) ∧ Aside0 (wr.heap[M]? = some (.cells #[.string y.f0, .int .i64 y.f1] 67 (0, 0))))
                case atStart => exact ⟨0, kb, rfl, rfl, Nat.zero_le _, by omega, ⟨by simp [marked]⟩, HB', HK', H8⟩
                case round =>
                  clear HB' HK' H8 z1'
                  obtain ⟨t, b, rfl, rfl, ht, hkt, hb, HB, K, K8⟩ := hrel
                  by_cases hti : t < ld
                  · obtain ⟨ad2, ea, hp0, hp1⟩ := at_T69 R1.out (t : Int) (by omega) (by have := HLD.out; omega)
                    cases ea
                    obtain ⟨yp, hyp⟩ : ∃ yp, yp = rd_T69 d.dir (t : Int) := ⟨_, rfl⟩
                    rw [← hyp] at hp0 hp1
                    have MT := Aside0.mk (marked_take (l := d.dir) (t := t) (i := i) (y := yp) (by have := HLD.out; omega) (by rw [hyp]; rfl))
                    replace hp0 : wr.cell? (ad2.add (t * 2)) = some (.string yp.f0) := pw_cell_below HB.out hp0
                    replace hp1 : wr.cell? ⟨(ad2.add (t * 2)).block, (ad2.add (t * 2)).off + 1, none⟩ = some (.int .i64 yp.f1) := pw_cell_below HB.out hp1
                    have HB2 := Aside0.mk (below_alloc HB.out (.cells #[.string yp.f0, .int .i64 yp.f1] 69))
                    have K2 := Aside0.mk (blk_alloc K.out (.cells #[.string yp.f0, .int .i64 yp.f1] 69))
                    have K82 := Aside0.mk (blk_alloc K8.out (.cells #[.string yp.f0, .int .i64 yp.f1] 69))
                    have y1 := (blk_cell (blk_new wr (.cells #[.string yp.f0, .int .i64 yp.f1] 69)) 1).trans rfl
                    clear hyp HB K K8
                    cases b
                    all_goals go_wp2_with fail
                    all_goals
                      go_roundg (ld - t - 1)
                      case measure => omega
                      case rel =>
                        refine ⟨t + 1, _, rfl, by first | rfl | (simp; done), hti, by omega, ⟨?_⟩, HB2, K2, K82⟩
                        rw [MT.out, ← Bool.or_assoc, ← hb.out]
                        rfl
                  · have hb2 := Aside0.mk (show b = (kb || marked d.dir i) from by
                      have := hb.out
                      rwa [List.take_of_length_le (by have := HLD.out; omega)] at this)
                    have z2 : wr.cell? ⟨D, 2, none⟩ = some (.slice A2 lu c2) := by rw [HLU.out]; exact (blk_cell K.out 2).trans rfl
                    have hlu2 : lu ≤ 40000 := by have := SM.out.2.2.1; have := HLU.out; omega
                    have hlu3 : lu ≤ c2 := by have := HL.out; have := HLU.out; omega
                    have HB' := HB
                    have K' := K
                    have K8' := K8
                    clear hb HB K K8 ht hkt
                    go_wp2_with fail
                    go_loopg [9, 82] lu (fun kx s9 s82 wr => ∃ (t : Nat) (b : Bool), s9 = .bool b ∧ s82 = .int .i64 t ∧ t ≤ lu ∧ lu - t ≤ kx ∧ Aside0 (b = ((kb || marked d.dir i) || marked (d.dur.take t) i)) ∧ Aside0 (Below w.heap.size w wr) ∧ Aside0 (wr.heap[D]? = some (.cells #[.slice (some ad) n c0, .slice A1 d.dir.length c1, .slice A2 d.dur.length c2, .slice A3 d.ops.length c3] 47 (0, 0))) ∧ Aside0 (wr.heap[M]? = some (.cells #[.string y.f0, .int .i64 y.f1] 67 (0, 0))))
                    case atStart => exact ⟨0, b, rfl, rfl, Nat.zero_le _, by omega, ⟨by rw [← hb2.out]; simp [marked]⟩, HB', K', K8'⟩
                    case round =>
                      clear HB' K' K8' z2 hb2
                      obtain ⟨t, b, rfl, rfl, ht, hkt, hb, HB, K, K8⟩ := hrel
                      by_cases hti : t < lu
                      · obtain ⟨ad2, ea, hp0, hp1⟩ := at_T69 R2.out (t : Int) (by omega) (by have := HLU.out; omega)
                        cases ea
                        obtain ⟨yp, hyp⟩ : ∃ yp, yp = rd_T69 d.dur (t : Int) := ⟨_, rfl⟩
                        rw [← hyp] at hp0 hp1
                        have MT := Aside0.mk (marked_take (l := d.dur) (t := t) (i := i) (y := yp) (by have := HLU.out; omega) (by rw [hyp]; rfl))
                        replace hp0 : wr.cell? (ad2.add (t * 2)) = some (.string yp.f0) := pw_cell_below HB.out hp0
                        replace hp1 : wr.cell? ⟨(ad2.add (t * 2)).block, (ad2.add (t * 2)).off + 1, none⟩ = some (.int .i64 yp.f1) := pw_cell_below HB.out hp1
                        have HB2 := Aside0.mk (below_alloc HB.out (.cells #[.string yp.f0, .int .i64 yp.f1] 69))
                        have K2 := Aside0.mk (blk_alloc K.out (.cells #[.string yp.f0, .int .i64 yp.f1] 69))
                        have K82 := Aside0.mk (blk_alloc K8.out (.cells #[.string yp.f0, .int .i64 yp.f1] 69))
                        have y1 := (blk_cell (blk_new wr (.cells #[.string yp.f0, .int .i64 yp.f1] 69)) 1).trans rfl
                        clear hyp HB K K8
                        cases b
                        all_goals go_wp2_with fail
                        all_goals
                          go_roundg (lu - t - 1)
                          case measure => omega
                          case rel =>
                            refine ⟨t + 1, _, rfl, by first | rfl | (simp; done), hti, by omega, ⟨?_⟩, HB2, K2, K82⟩
                            rw [MT.out, ← Bool.or_assoc, ← hb.out]
                            rfl
                      · have BAD := Aside0.mk (show inoBad d i y = ((!b) || decide (y.f1 < 0) || decide ((y.f0.size : Int) < y.f1) || decide (1048576 < (y.f0.size : Int))) from by
                          have := hb.out
                          rw [List.take_of_length_le (by have := HLU.out; omega)] at this
                          unfold Dk.inoBad
                          have e1 : decide (m ≤ i) = !decide ((i : Int) < (m : Int)) := by rw [← decide_not]; exact decide_eq_decide.2 (by omega)
                          rw [this, ← HN.out, ← HQ.out, HM.out, KB.out, e1]
                          cases decide ((i : Int) < (m : Int)) <;> cases marked d.dir i <;> cases marked d.dur i <;> rfl)
                        have y0 := (blk_cell K8.out 0).trans rfl
                        have y1 := (blk_cell K8.out 1).trans rfl
                        clear hb
                        cases b
                        all_goals go_wp2
                        all_goals first
                          | (go_roundg (n - i - 1)
                             case measure => omega
                             case rel =>
                              refine ⟨i + 1, by first | rfl | (simp; done), hlt, by omega, ⟨fun j hj => ?_⟩, HB, K⟩
                              rcases Nat.lt_or_ge j i with h | h
                              · exact hA.out j h
                              · rw [show j = i by omega, Y.out, BAD.out]
                                simp only [Bool.not_true, Bool.not_false, Bool.true_or, Bool.false_or, Bool.or_eq_false_iff, decide_eq_false_iff_not]
                                omega)
                          | (go_ret
                             have e := HV.out (fun h => by
                              have := (valid_iff.1 h).2.2.2.2.1 i (by have := HN.out; omega)
                              rw [Y.out, BAD.out] at this
                              simp only [Bool.not_true, Bool.not_false, Bool.true_or, Bool.false_or, Bool.or_eq_false_iff, decide_eq_false_iff_not] at this
                              first | omega | (cases this; done))
                             exact ⟨by rw [e]; rfl, HB.out⟩)
              · have I6 := Aside0.mk (show ∀ j, j < n → inoBad d j (d.ino.getD j z67) = false from fun j hj => hA.out j (by omega))
                have z0 := (blk_cell K.out 0).trans rfl
                have z1 := (blk_cell K.out 1).trans rfl
                have z2 := (blk_cell K.out 2).trans rfl
                have z3 := (blk_cell K.out 3).trans rfl
                have DW := Aside0.mk (DD.out.below HB.out)
                rw [← HN.out] at DW
                have CR := Aside0.mk (replay69_calls _ d d.ops.length wr DW.out (Nat.le_refl _) D2.out.2.1 (fun x hx => (D2.out.1 x hx).2.1) (by have := HN.out; have := HQ.out; have := HM.out; omega) SM.out)
                rw [List.take_length, ← HN.out, ← HQ.out, HM.out] at CR
                obtain ⟨rr, hrr⟩ : ∃ rr, rr = rep d.dur (m : Int) d.ops := ⟨_, rfl⟩
                rw [← hrr] at CR
                have HRR := Aside0.mk hrr
                clear hrr hA
                go_wp2_with fail
                refine CR.out.mono ?_
                rintro e w6 ⟨v', rfl, h1, h2⟩
                have HB6 := Aside0.mk (below_step HB.out h2)
                have K6 := Aside0.mk (blk_below K.out h2)
                have O6 := Aside0.mk h1
                clear z0 z1 z2 z3 h1 h2 CR HB K
                cases rr with
                | none =>
                  have e := HV.out (fun h => by
                    have := (valid_iff.1 h).2.2.2.2.2
                    rw [← HN.out, ← HQ.out, HM.out, ← HRR.out] at this
                    cases this)
                  subst e
                  clear HV HW
                  simp only [repd]
                  go_wp2
                  go_ret
                  exact ⟨rfl, HB6.out⟩
                | some l' =>
                  obtain ⟨A', c', rfl, hlc, hrd⟩ := Kd.R_reads O6.out
                  have z1 : w6.cell? ⟨D, 1, none⟩ = some (.slice A1 d.dir.length c1) := (blk_cell K6.out 1).trans rfl
                  have R1' := Aside0.mk (Kd.C_below R1.out HB6.out)
                  have RL' := Aside0.mk (show Kd.C k69 w6 A' l'.length l' from hrd)
                  have VV := Aside0.mk (show valid d = decide (l' = d.dir) from by
                    by_cases h : l' = d.dir
                    · rw [decide_eq_true h]
                      exact valid_iff.2 (by
                        rw [← HN.out, ← HQ.out, HM.out, ← HRR.out]
                        refine ⟨D1.out, D2.out, by have := HM.out; omega, ?_, I6.out, congrArg some h⟩
                        have := H3.out
                        rwa [← HN.out, ← HQ.out, HM.out] at this)
                    · rw [decide_eq_false h]
                      refine Bool.eq_false_iff.2 fun h2 => ?_
                      have := (valid_iff.1 h2).2.2.2.2.2
                      rw [← HN.out, ← HQ.out, HM.out, ← HRR.out] at this
                      exact h (Option.some.inj this))
                  obtain ⟨ld, hld⟩ : ∃ ld, ld = d.dir.length := ⟨_, rfl⟩
                  have HLD := Aside0.mk hld
                  rw [← hld] at z1 l1 n1
                  clear hrd H3 I6 D1 D2 DW hld
                  simp only [repd] at hlc ⊢
                  obtain ⟨lx, hlx⟩ : ∃ lx, lx = l'.length := ⟨_, rfl⟩
                  have HLX := Aside0.mk hlx
                  rw [← hlx] at hlc ⊢
                  clear hlx
                  by_cases hne : lx = ld
                  · subst hne
                    go_wp2_with fail
                    go_loopg [136] lx (fun kx s136 wr => ∃ i : Nat, s136 = .int .i64 i ∧ i ≤ lx ∧ lx - i ≤ kx ∧ Aside0 (l'.take i = d.dir.take i) ∧ Aside0 (Below w6.heap.size w6 wr))
                    case atStart => exact ⟨0, rfl, Nat.zero_le _, by omega, ⟨rfl⟩, ⟨Below.refl _ _⟩⟩
                    case round =>
                      obtain ⟨i, rfl, hi, hk, hA, HB⟩ := hrel
                      by_cases hlt : i < lx
                      · obtain ⟨ad, ea, hx0, hx1⟩ := at_T69 RL'.out (i : Int) (by omega) (by have := HLX.out; omega)
                        cases ea
                        obtain ⟨ad', ea, hy0, hy1⟩ := at_T69 R1'.out (i : Int) (by omega) (by have := HLD.out; omega)
                        cases ea
                        obtain ⟨x, hx⟩ : ∃ x, x = rd_T69 l' (i : Int) := ⟨_, rfl⟩
                        obtain ⟨y, hy⟩ : ∃ y, y = rd_T69 d.dir (i : Int) := ⟨_, rfl⟩
                        rw [← hx] at hx0 hx1
                        rw [← hy] at hy0 hy1
                        replace hx0 : wr.cell? (ad.add (i * 2)) = some (.string x.f0) := pw_cell_below HB.out hx0
                        replace hx1 : wr.cell? ⟨(ad.add (i * 2)).block, (ad.add (i * 2)).off + 1, none⟩ = some (.int .i64 x.f1) := pw_cell_below HB.out hx1
                        replace hy0 : wr.cell? (ad'.add (i * 2)) = some (.string y.f0) := pw_cell_below HB.out hy0
                        replace hy1 : wr.cell? ⟨(ad'.add (i * 2)).block, (ad'.add (i * 2)).off + 1, none⟩ = some (.int .i64 y.f1) := pw_cell_below HB.out hy1
                        have zd : wr.cell? ⟨D, 1, none⟩ = some (.slice (some ad') lx c1) := pw_cell_below HB.out z1
                        have hil : i < l'.length := by have := HLX.out; omega
                        have him : i < d.dir.length := by have := HLD.out; omega
                        have X := Aside0.mk (show l'[i] = x by rw [hx]; show _ = l'.getD i z69; rw [Dk.getD_eq hil])
                        have Y := Aside0.mk (show d.dir[i] = y by rw [hy]; show _ = d.dir.getD i z69; rw [Dk.getD_eq him])
                        have hi0 : (0 : Int) ≤ (i : Int) := by omega
                        have hi1 : (i : Int) < (lx : Int) := by omega
                        clear hx hy z1
                        obtain ⟨p, hp⟩ : ∃ p, (x.f0.toList == y.f0.toList) = p := ⟨_, rfl⟩
                        obtain ⟨q, hq⟩ : ∃ q, (x.f1 == y.f1) = q := ⟨_, rfl⟩
                        have E := Aside0.mk (eq69_iff hp hq)
                        cases p <;> cases q
                        all_goals go_wp2_with fail
                        all_goals go_quiet (fail)
                        all_goals go_wp2
                        all_goals first
                          | (go_roundg (lx - i - 1)
                             case measure => omega
                             case rel => exact ⟨i + 1, by first | rfl | (simp; done), hlt, by omega, ⟨take_snoc hil him hA.out (by rw [X.out, Y.out]; have e1 := E.out; simpa using e1)⟩, ⟨pw_below_drewN HB.out _⟩⟩)
                          | (go_ret
                             have e := HV.out (by rw [VV.out, decide_eq_false (take_ne hil him (by rw [X.out, Y.out]; have e1 := E.out; simpa using e1))]; decide)
                             exact ⟨by rw [e]; rfl, pw_below_drewN (below_step HB6.out HB.out) _⟩)
                      · have e := HW.out (by
                          rw [VV.out]
                          have := hA.out
                          rw [List.take_of_length_le (by have := HLX.out; omega), List.take_of_length_le (by have := HLD.out; omega)] at this
                          exact decide_eq_true this)
                        subst e
                        clear HV HW
                        go_wp2
                        go_ret
                        exact ⟨rfl, below_step HB6.out HB.out⟩
                  · have e := HV.out (by rw [VV.out, decide_eq_false (fun e => hne (by rw [HLX.out, HLD.out, e]))]; decide)
                    subst e
                    clear HV HW
                    go_wp2
                    go_ret
                    exact ⟨rfl, HB6.out⟩
end Go.Proofs.Ytnaddmkaakdhoaa.J

end
section
namespace Go.Proofs.Ytnaddmkaakdhoaa.J
open Go.RowKit Go.Proofs.YtnaddmkaakdhoaaW.PrintWords Go.Proofs.YtnaddmkaakdhoaaW.PrintLast Go.Proofs.YtnaddmkaakdhoaaW.PrintMore
open Go.Proofs.Ytnaddmkaakdhoaa.Pure Jl
set_option linter.unusedVariables false
set_option linter.unusedSimpArgs false
theorem R37_empty {w : World} {T g : Nat} (hT : T ≤ g) (h : w.heap[g]? = some (.cells #[] 37 (0, 0))) : Kd.R k37 37 w T (fun _ => True) (.slice (some ⟨g, 0, none⟩) 0 0) [] :=
  ⟨fun _ _ => trivial, [], ⟨rfl, .inr ⟨g, 0, #[], rfl, hT, h, Nat.le_refl _, Nat.zero_le _, rfl, rfl⟩⟩, rfl, fun j p hj => by simp at hj⟩
set_option maxHeartbeats 8000000 in
set_option maxRecDepth 100000 in
theorem journalCrash_calls (A0 : Option Addr) (c0 : Nat) (l0 : List Int) (A1 : Option Addr) (c1 : Nat) (l1 : List Int) (A2 : Option Addr) (c2 : Nat) (cs : List Int) (w : World) (hr0 : Kd.C (Kd.int .i64) w A0 l0.length l0) (hc0 : l0.length ≤ c0) (hr1 : Kd.C (Kd.int .i64) w A1 l1.length l1) (hc1 : l1.length ≤ c1) (hr2 : Kd.C (Kd.int .i64) w A2 cs.length cs) (hc2 : cs.length ≤ c2) :
    Calls Try.prog 9 #[.slice A0 l0.length c0, .slice A1 l1.length c1, .slice A2 cs.length c2] w fun e w' => e = .returned (.bool true) ∧ Below w.heap.size w w' := by
  obtain ⟨m, hm, hml⟩ := new_f l0
  obtain ⟨m', hm', hml'⟩ := new_f l1
  obtain ⟨x, a', hx, ha', hs, hxl⟩ := records_f m (by omega) 0 4 (by omega) (by omega) (by omega)
  obtain ⟨y, b', hy, hb', ht, hyl⟩ := records_f m' (by omega) 0 4 (by omega) (by omega) (by omega)
  obtain ⟨kx, hx⟩ := hx.rounds
  obtain ⟨ky, hy⟩ := hy.rounds
  have hgx : ∀ r ∈ x, Jl.Good (toR r) := fun r hr => small_good (hs r hr)
  have hgy : ∀ r ∈ y, Jl.Good (toR r) := fun r hr => small_good (ht r hr)
  have hxs := text_size x hs
  have hys := text_size y ht
  obtain ⟨kp, hkp⟩ := (pencAll_f x (by omega)).rounds
  obtain ⟨kq, hkq⟩ := (pencAll_f y (by omega)).rounds
  rw [encAll_text x hgx] at hkp
  rw [encAll_text y hgy] at hkq
  have zx : (text x).size = (Jl.encAllL (x.map toR)).length := str_size _
  have zy : (text y).size = (Jl.encAllL (y.map toR)).length := str_size _
  have F1 := Aside0.mk (corporamade_New.calls A0 c0 l0 m 0 w w (Below.refl _ _) hr0 hc0 hm)
  have F2 := Aside0.mk (fun w1 g h1 h2 => corporalaw40_records.calls kx g m 0 4 x a' w w1 h1 h2 hx)
  have F3 := Aside0.mk (fun w1 h1 => corporamade_New.calls A1 c1 l1 m' 0 w1 w1 (Below.refl _ _) (Kd.C_below hr1 h1) hc1 hm')
  have F4 := Aside0.mk (fun w1 w2 g h1 h2 => corporalaw40_records.calls ky g m' 0 4 y b' w1 w2 h1 h2 hy)
  have F5 := Aside0.mk (fun A c w1 h1 h2 => journal_EncodeAll.calls kp A c x (text x) 0 w1 h1 h2 hkp)
  have F6 := Aside0.mk (fun A c w1 h1 h2 => journal_EncodeAll.calls kq A c y (text y) 0 w1 h1 h2 hkq)
  have hz1 : (text x).size ≤ 1000 := by omega
  have hz2 : (text y).size ≤ 1000 := by omega
  have hxl' : x.length ≤ 4 := by omega
  have hyl' : y.length ≤ 4 := by omega
  have R2 := Aside0.mk hr2
  obtain ⟨a, ha⟩ : ∃ a, a = text x := ⟨_, rfl⟩
  obtain ⟨b, hb⟩ : ∃ b, b = text y := ⟨_, rfl⟩
  rw [← ha] at F5 hz1
  rw [← hb] at F6 hz2
  have HA := Aside0.mk ha
  have HBt := Aside0.mk hb
  have GX := Aside0.mk hgx
  have GY := Aside0.mk hgy
  clear hr0 hr1 hr2 hc0 hc1 hm hm' hml hml' ha' hb' hs ht hx hy hkp hkq zx zy hxl hyl hxs hys hgx hgy ha hb
  go_enter Try.func9, Try.ntmps9
  go_wp2_with fail
  refine F1.out.mono ?_
  rintro e w1 ⟨g, rfl, I1, B1, _⟩
  have SI := Aside0.mk I1
  have SB := Aside0.mk B1
  clear I1 B1 F1
  go_wp2_with fail
  refine (F2.out w1 g SI.out SB.out).mono ?_
  rintro e w2 ⟨v0, rfl, O0, _, B2, _⟩
  have O2 := Aside0.mk O0
  have SB2 := Aside0.mk B2
  clear O0 B2 F2 SI
  obtain ⟨Ax, cx, rfl, lx, _⟩ := Kd.R_reads O2.out
  go_wp2_with fail
  refine (F3.out w2 SB2.out).mono ?_
  rintro e w3 ⟨g2, rfl, I3, B3, _⟩
  have SI3 := Aside0.mk I3
  have SB3 := Aside0.mk B3
  clear I3 B3 F3
  go_wp2_with fail
  refine (F4.out w2 w3 g2 SI3.out SB3.out).mono ?_
  rintro e w4 ⟨v1, rfl, P4, _, B4, _⟩
  have O4 := Aside0.mk P4
  have Q4 := Aside0.mk (Kd.R_below O2.out B4)
  have SB4 := Aside0.mk (below_step SB2.out B4)
  clear P4 B4 F4 SI3 SB2 SB3 SB O2
  obtain ⟨Ay, cy, rfl, ly, _⟩ := Kd.R_reads O4.out
  go_wp2_with fail
  refine (F5.out Ax cx w4 (Kd.R_reads' Q4.out).2.2 lx).mono ?_
  rintro e w5 ⟨rfl, B5⟩
  have SB5 := Aside0.mk (below_step SB4.out B5)
  have O5 := Aside0.mk (Kd.R_below O4.out B5)
  have Q5 := Aside0.mk (Kd.R_below Q4.out B5)
  clear B5 F5 SB4 O4 Q4
  go_wp2_with fail
  refine (F6.out Ay cy w5 (Kd.R_reads' O5.out).2.2 ly).mono ?_
  rintro e w6 ⟨rfl, B6⟩
  have SB6 := Aside0.mk (below_step SB5.out B6)
  have O6 := Aside0.mk (Kd.R_below O5.out B6)
  have Q6 := Aside0.mk (Kd.R_below Q5.out B6)
  clear B6 F6 SB5 O5 Q5
  go_wp2_with fail
  have CO := C49_of (l := Dk.exOps ⟨#[106]⟩ a b) (by show 5 ≤ 1000000; omega) (blk_new w6 (.cells (cs49 (Dk.exOps ⟨#[106]⟩ a b)).toArray 49))
  have AA := applyAll_calls _ Dk.E0 (some ⟨w6.heap.size, 0, none⟩) 5 (Dk.exOps ⟨#[106]⟩ a b) _ (DR.zero _ 0).reads CO (by show 5 ≤ 5; omega) ⟨Nat.zero_le _, Nat.zero_le _, Nat.zero_le _, Nat.zero_le _⟩ (by show 5 ≤ 40000; omega) (fun o ho => by
    simp only [Dk.exOps, List.mem_cons, List.not_mem_nil, or_false] at ho
    rcases ho with rfl | rfl | rfl | rfl | rfl <;> first | (show a.size ≤ _; omega) | (show b.size ≤ _; omega) | (show 0 ≤ _; omega))
  have hvj : Dk.vname ⟨#[106]⟩ = true := by decide
  rw [Dk.ex_apply _ a b hvj (by omega)] at AA
  have hok : Dk.inoOK ⟨a ++ b, (a.size : Nat)⟩ := ⟨Int.natCast_nonneg _, by show ((a.size : Nat) : Int) ≤ ((a ++ b).size : Nat); rw [ByteArray.size_append]; omega, by show (a ++ b).size ≤ _; rw [ByteArray.size_append]; omega⟩
  obtain ⟨d, hd⟩ : ∃ d, d = Dk.exDsk ⟨#[106]⟩ ⟨a ++ b, (a.size : Nat)⟩ := ⟨_, rfl⟩
  rw [← hd] at AA
  have HV := Aside0.mk (show Dk.valid d = true from by rw [hd]; exact Dk.ex_valid _ _ hvj hok)
  have SM := Aside0.mk (show Sml 40000 d from by rw [hd]; exact ⟨(by show 1 ≤ 40000; omega), (by show 1 ≤ 40000; omega), (by show 1 ≤ 40000; omega), (by show 0 ≤ 40000; omega)⟩)
  obtain ⟨dc, hdc⟩ : ∃ dc, dc = Dk.crash d cs := ⟨_, rfl⟩
  have hdc2 : dc = Dk.exDsk ⟨#[106]⟩ (Dk.torn cs 0 ⟨a ++ b, (a.size : Nat)⟩) := by rw [hdc, hd, Dk.ex_crash _ _ hvj hok]
  have SMC := Aside0.mk (show Sml 40000 dc from by rw [hdc2]; exact ⟨(by show 1 ≤ 40000; omega), (by show 1 ≤ 40000; omega), (by show 1 ≤ 40000; omega), (by show 0 ≤ 40000; omega)⟩)
  obtain ⟨s, hs⟩ : ∃ s, s = (Dk.torn cs 0 ⟨a ++ b, (a.size : Nat)⟩).f0 := ⟨_, rfl⟩
  have hrd : Dk.read dc ⟨#[106]⟩ = (s, 0) := by rw [hdc2, hs, Dk.ex_read _ _ hvj (Dk.torn_ok cs 0 hok)]
  have HCR := Aside0.mk (fun w' a' h' hC => crash_calls a' d A2 c2 cs w' h' hC hc2 SM.out)
  have HRD := Aside0.mk (fun w' a' h' => read_calls a' dc ⟨#[106]⟩ w' h' ⟨by have := SMC.out.1; omega, by have := SMC.out.2.1; omega, by have := SMC.out.2.2.1; omega, by have := SMC.out.2.2.2; omega⟩)
  rw [hrd] at HRD
  rw [← hdc] at HCR
  have HVA := Aside0.mk (fun w' a' h' => validate36_calls a' d w' h' SM.out)
  rw [if_pos HV.out] at HVA
  have hzs : (a ++ b).size = a.size + b.size := ByteArray.size_append
  have hkl := Dk.kp_le cs 0 ⟨a ++ b, (a.size : Nat)⟩ hok.2.1
  have hzl := Dk.zr_le cs 0 ⟨a ++ b, (a.size : Nat)⟩
  have hkl2 : a.size + Dk.kp cs 0 ⟨a ++ b, (a.size : Nat)⟩ ≤ (a ++ b).size := hkl
  obtain ⟨j, hj1, hj2, hj3, hj4⟩ := crash_scan x y GX.out GY.out (Dk.kp cs 0 ⟨a ++ b, (a.size : Nat)⟩) (Dk.zr cs 0 ⟨a ++ b, (a.size : Nat)⟩) (by rw [← HBt.out]; omega) (by omega) (by omega) s (by rw [hs, ← HA.out, ← HBt.out]; rfl)
  have hssz : s.size ≤ 1099511627776 := by
    have := Dk.torn_size cs 0 ⟨a ++ b, (a.size : Nat)⟩ hok.2.1
    rw [hs, this]
    show a.size + _ ≤ _
    omega
  obtain ⟨z, hz⟩ : ∃ z, z = (scanAll s).1 := ⟨_, rfl⟩
  obtain ⟨e1, he1⟩ : ∃ e1, e1 = (scanAll s).2.1 := ⟨_, rfl⟩
  obtain ⟨st, hst⟩ : ∃ st, st = (scanAll s).2.2 := ⟨_, rfl⟩
  have HSC := Aside0.mk (fun w' => journal_Scan.calls s z e1 st w' (by rw [scan_f s hssz, hz, he1, hst]))
  rw [← hz] at hj3
  rw [← hst] at hj4
  have hjl : j ≤ 8 := by rw [List.length_append] at hj2; omega
  obtain ⟨ks, hks⟩ := (same_f z (by rw [hj3, List.length_take]; omega)).rounds
  obtain ⟨kk, hkk⟩ := known_f.rounds
  have HSM := Aside0.mk (fun w' A c A' c' h1 h2 h3 h4 => corporaref40_Same.calls ks A c z A' c' z true w' h1 h2 h3 h4 hks)
  have HKN := Aside0.mk (fun w' => corporalaw40_known.calls kk true w' hkk)
  have J1 := Aside0.mk hj1
  have J2 := Aside0.mk hj2
  have J3 := Aside0.mk hj3
  have hzl1 : z.length = j := by rw [hj3, List.length_take]; omega
  have HZL := Aside0.mk hzl1
  clear hd hdc hdc2 hs hrd hzs hkl hzl hkl2 hssz hz he1 hst hj1 hj2 hj3 hks hkk CO hvj hok hx hy hzl1 HA HBt GX GY
  refine (AA : _).mono ?_
  rintro e w7 ⟨v, rfl, D7, B7⟩
  have SB7 := Aside0.mk (below_step (below_alloc SB6.out _) B7)
  have O7 := Aside0.mk (Kd.R_below (Kd.R_alloc O6.out _) B7)
  have Q7 := Aside0.mk (Kd.R_below (Kd.R_alloc Q6.out _) B7)
  obtain ⟨E0, d0, E1, d1, E2, d2, E3, d3, rfl, q0, q1, q2, q3⟩ := D7.reads
  have DD7 := Aside0.mk D7.reads
  clear D7 B7 SB6 O6 Q6 AA q0 q1 q2 q3
  go_wp2_with fail
  have SB8 := Aside0.mk (below_alloc SB7.out (.cells #[.slice E0 d.ino.length d0, .slice E1 d.dir.length d1, .slice E2 d.dur.length d2, .slice E3 d.ops.length d3] 47))
  have O8 := Aside0.mk (Kd.R_alloc O7.out (.cells #[.slice E0 d.ino.length d0, .slice E1 d.dir.length d1, .slice E2 d.dur.length d2, .slice E3 d.ops.length d3] 47))
  have Q8 := Aside0.mk (Kd.R_alloc Q7.out (.cells #[.slice E0 d.ino.length d0, .slice E1 d.dir.length d1, .slice E2 d.dur.length d2, .slice E3 d.ops.length d3] 47))
  have DD8 := Aside0.mk (DC.below DD7.out (below_alloc (Below.refl _ w7) (.cells #[.slice E0 d.ino.length d0, .slice E1 d.dir.length d1, .slice E2 d.dur.length d2, .slice E3 d.ops.length d3] 47)))
  have k8 := blk_new w7 (.cells #[.slice E0 d.ino.length d0, .slice E1 d.dir.length d1, .slice E2 d.dur.length d2, .slice E3 d.ops.length d3] 47)
  generalize w7.alloc (.cells #[.slice E0 d.ino.length d0, .slice E1 d.dir.length d1, .slice E2 d.dur.length d2, .slice E3 d.ops.length d3] 47) = w8 at SB8 O8 Q8 DD8 k8 ⊢
  obtain ⟨M, hM⟩ : ∃ M, M = w7.heap.size := ⟨_, rfl⟩
  rw [← hM] at k8 ⊢
  have K8 := Aside0.mk k8
  clear hM k8 SB7 O7 Q7 DD7
  refine (HCR.out w8 _ DD8.out (Kd.C_below R2.out SB8.out)).mono ?_
  rintro e w9 ⟨vc, rfl, D9, B9⟩
  have SB9 := Aside0.mk (below_step SB8.out B9)
  have O9 := Aside0.mk (Kd.R_below O8.out B9)
  have Q9 := Aside0.mk (Kd.R_below Q8.out B9)
  have DD9 := Aside0.mk (DC.below DD8.out B9)
  have K9 := Aside0.mk (blk_below K8.out B9)
  have DC9 := Aside0.mk D9.reads
  clear D9 B9 SB8 O8 Q8 DD8 K8 HCR
  go_wp2_with fail
  refine (HRD.out w9 vc DC9.out).mono ?_
  rintro e w10 ⟨rfl, B10⟩
  have SB10 := Aside0.mk (below_step SB9.out B10)
  have O10 := Aside0.mk (Kd.R_below O9.out B10)
  have Q10 := Aside0.mk (Kd.R_below Q9.out B10)
  have DD10 := Aside0.mk (DC.below DD9.out B10)
  have K10 := Aside0.mk (blk_below K9.out B10)
  clear B10 SB9 O9 Q9 DD9 K9 DC9 HRD
  have z0 := (blk_cell K10.out 0).trans rfl
  have z1 := (blk_cell K10.out 1).trans rfl
  have z2 := (blk_cell K10.out 2).trans rfl
  have z3 := (blk_cell K10.out 3).trans rfl
  go_wp2_with fail
  refine (HVA.out w10 _ DD10.out).mono ?_
  rintro e w11 ⟨rfl, B11⟩
  have SB11 := Aside0.mk (below_step SB10.out B11)
  have O11 := Aside0.mk (Kd.R_below O10.out B11)
  have Q11 := Aside0.mk (Kd.R_below Q10.out B11)
  clear B11 SB10 O10 Q10 DD10 K10 z0 z1 z2 z3 HVA
  go_wp2_with fail
  refine (HSC.out w11).mono ?_
  rintro e w12 ⟨vz, rfl, Z12, B12⟩
  have SB12 := Aside0.mk (below_step SB11.out B12)
  have O12 := Aside0.mk (Kd.R_below O11.out B12)
  have Q12 := Aside0.mk (Kd.R_below Q11.out B12)
  have ZZ12 := Aside0.mk Z12
  obtain ⟨Az, cz, rfl, lz, _⟩ := Kd.R_reads ZZ12.out
  clear Z12 B12 SB11 O11 Q11 HSC
  have QB := Aside0.mk (below_alloc (Below.refl _ w12) (.cells #[] 37))
  have QO := Aside0.mk (R37_empty (T := w12.heap.size) (Nat.le_refl _) (blk_new w12 (.cells #[] 37)))
  have QX := Aside0.mk (Kd.C_alloc (Kd.R_reads' Q12.out).2.2 (.cells #[] 37))
  have QY := Aside0.mk (Kd.R_reads' O12.out).2.2
  have QZ := Aside0.mk (Kd.R_reads' ZZ12.out).2.2
  have hyl8 : x.length + y.length ≤ 8 := by omega
  clear O12 Q12 ZZ12
  go_wp2_with (at_builtin; go_loud ((first
    | (refine Kd.R_append_rows k37 (Rr := k37.K _) (w0 := w12) w12.heap.size rfl _ _ 26 37 (.agg #[.int .i64 0, .string ⟨#[]⟩]) 24 rfl Try.underlying26 info37 rfl (by decide) (by decide) (.slice (some ⟨w12.heap.size, 0, none⟩) 0 0) [] x Ax x.length cx (fun _ => True) (fun _ => False) rfl rfl QO.out QX.out ?q2 ?q3 ?q4 QB.out QB.out.size ?q7 ?_
       (case q2 => intro y cs h; obtain rfl := k37_open h; exact k37_mkM _ _ _ _)
       (case q3 => intro k h; exact h.elim)
       (case q4 => intro k hk; trivial)
       (case q7 => simp only [List.length_nil]; omega)
       intro v13 w13 h1 h2 h3 h4
       rw [List.nil_append] at h1
       have O13 := Aside0.mk h1
       have B13 := Aside0.mk h2
       have Y13 := Aside0.mk (Kd.C_below QY.out h2)
       clear h1 h2 h3 h4 QO QX QB)
    | (refine Kd.R_append_rows k37 (Rr := k37.K _) (w0 := w12) w12.heap.size rfl _ _ 26 37 (.agg #[.int .i64 0, .string ⟨#[]⟩]) 24 rfl Try.underlying26 info37 rfl (by decide) (by decide) v13 x y Ay y.length cy _ (fun _ => False) rfl rfl O13.out Y13.out ?q2 ?q3 ?q4 B13.out B13.out.size ?q7 ?_
       (case q2 => intro y cs h; obtain rfl := k37_open h; exact k37_mkM _ _ _ _)
       (case q3 => intro k h; exact h.elim)
       (case q4 => intro k hk; first | trivial | exact .inl trivial | (left; trivial) | sorry)
       (case q7 => omega)
       intro v14 w14 h1 h2 h3 h4
       obtain ⟨Aq, cq, rfl, lq, rq⟩ := Kd.R_reads h1
       have HQ := Aside0.mk (show Kd.C k37 w14 Aq z.length z from by
         have := C_take (m := z.length) rq (by have := J2.out; have := HZL.out; omega)
         rwa [HZL.out, ← J3.out, ← HZL.out] at this)
       have HZ := Aside0.mk (Kd.C_below QZ.out h2)
       have SB14 := Aside0.mk (below_step SB12.out h2)
       have hz1 : x.length ≤ z.length := by have := J1.out; have := HZL.out; omega
       have hz2 : z.length ≤ (x ++ y).length := by have := J2.out; have := HZL.out; omega
       have hN8 : (x ++ y).length ≤ 8 := by rw [List.length_append]; omega
       obtain ⟨N, hN⟩ : ∃ N, N = (x ++ y).length := ⟨_, rfl⟩
       rw [← hN] at lq hz2 hN8 ⊢
       clear h1 h2 h3 h4 O13 B13 Y13 QZ rq hN hyl8 J1 J2 J3 HZL SB12))))
  have hzn : z.length ≤ cq := by omega
  go_wp2_with fail
  · exfalso
    rename_i hbad
    rcases hbad with (h | h) | h
    · omega
    · omega
    · exact hj4 (eq_of_beq h)
  · refine (HSM.out w14 Az cz Aq cq HZ.out lz HQ.out (by omega)).mono ?_
    rintro e w15 ⟨rfl, hdr⟩
    have SB15 := Aside0.mk (below_step SB14.out hdr.below)
    clear hdr SB14 HZ HQ HSM
    go_wp2_with fail
    refine (HKN.out w15).mono ?_
    rintro e w16 ⟨rfl, B16⟩
    have SB16 := Aside0.mk (below_step SB15.out B16)
    clear B16 SB15 HKN
    go_wp2_with fail
    go_ret
    exact ⟨rfl, SB16.out⟩
end Go.Proofs.Ytnaddmkaakdhoaa.J

end
