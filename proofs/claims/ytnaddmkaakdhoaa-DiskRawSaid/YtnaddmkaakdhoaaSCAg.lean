/-
  Texts of this claim, joined, without what the claim does not use: XDl XDe XDi XC XDf XDp XDn XDo XDg XDr
-/
import Derived.Laws.CopyRow
import Derived.Deep.RegionLaw
import Derived.Lib.Overlaps
import Derived.Laws.Externs
import Derived.Lib.AppendZerosOnto
import Derived.Lib.Bytealg
import Derived.Sort.Walk0
import Derived.Test.YtnaddmkaakdhoaaSCAf
section
namespace Go.Proofs.Ytnaddmkaakdhoaa.J
open Go.RowKit Go.Proofs.YtnaddmkaakdhoaaW.PrintWords Go.Proofs.YtnaddmkaakdhoaaW.PrintLast Go.Proofs.YtnaddmkaakdhoaaW.PrintMore
set_option linter.unusedVariables false
set_option linter.unusedSimpArgs false

def lay (arr : Array Value) (o : Nat) (cs : List Value) : Array Value := (arr.toList.take o ++ cs ++ arr.toList.drop (o + cs.length)).toArray
theorem lay_size (arr : Array Value) (o : Nat) (cs : List Value) (h : o + cs.length ≤ arr.size) : (lay arr o cs).size = arr.size := by
  simp [lay]; omega
theorem grownBy_setRow (w : World) (g : Nat) (arr : Array Value) : w.grownBy (w.setRow g arr) (some g) :=
  ⟨rfl, rfl, rfl, by simp [World.setRow], fun k _ hk => setRow_other w g k arr (fun e => hk (by rw [e]))⟩
section
variable {P : Program}
theorem run_copy_sz (w : World) (dT sT ty elem : TypeId) (g o dLen dCap : Nat) (a : Addr) (sLen sCap : Nat) (cur : Array Value) (t : TypeId) (cs : List Value) (i : TypeInfo)
    (hu : P.underlying dT = some (.slice elem)) (hq : P.info? elem = some i)
    (hg : w.heap[g]? = some (.cells cur t (0, 0))) (hn : cs.length = Nat.min sLen dLen * i.size)
    (hsrc : ∀ j v, cs[j]? = some v → w.cell? (a.add j) = some v) (hfit : o + cs.length ≤ cur.size) (h1 : ∀ v ∈ cs, v.oneCell' = true) :
    (Builtin.copy_ #[dT, sT] ty #[.slice (some ⟨g, o, none⟩) dLen dCap, .slice (some a) sLen sCap]).run P w = .ok (goInt (Nat.min sLen dLen)) (w.setRow g (lay cur o cs)) := by
  have hl := run_loadCells_list (P := P) w a cs hsrc
  have hst := run_storeCells_at P g o t cs 0 cur w hg (by simpa using hfit) h1
  simp [Builtin.copy_, run_underlying hu, Builtin.lenOf, Builtin.firstCells, sizeOf, typeInfo, hq, ← hn, hl, hst, lay]
theorem run_clear_sz (w : World) (t e ty : TypeId) (z : Value) (ht : P.underlying t = some (.slice e)) (hv : ∀ w, (zeroValue e).run P w = .ok z w) (h1 : ∀ u ∈ z.cells, u.oneCell' = true) (g o n c : Nat) (hn : 0 < n)
    (cur : Array Value) (t' : TypeId) (hg : w.heap[g]? = some (.cells cur t' (0, 0))) (hz0 : 0 < z.cells.size) (hfit : o + n * z.cells.size ≤ cur.size) :
    ∃ cs : List Value, cs.length = n * z.cells.size ∧ (Builtin.clear_ #[t] ty #[.slice (some ⟨g, o, none⟩) n c]).run P w = .ok (.tuple #[]) (w.setRow g (lay cur o cs)) := by
  refine ⟨(Builtin.zeroCells z.cells n).toList, by rw [Array.length_toList, size_zeroCells], ?_⟩
  have hst := run_storeCells_at P g o t' (Builtin.zeroCells z.cells n).toList 0 cur w hg (by rw [Array.length_toList, size_zeroCells]; simpa using hfit) (by
    intro u hu
    rw [Array.mem_toList_iff, Builtin.zeroCells, Array.mem_map] at hu
    obtain ⟨k, _, rfl⟩ := hu
    rw [getElem!_pos z.cells _ (Nat.mod_lt _ hz0)]
    exact h1 _ (Array.getElem_mem _))
  obtain ⟨m, rfl⟩ : ∃ m, n = m + 1 := ⟨n - 1, by omega⟩
  simp [Builtin.clear_, run_underlying ht, hv, hst, lay]
section
variable {ops : Array Oper} {rest : List Oper} {o : Oper} {a : Act} {Q : Exit → Act → World → Prop} {K : Act → World → Prop} {E : Prop} {w : World}
theorem step_copy_sz (hgd : o.guard = none) (d s : Operand) (dT sT : TypeId) (ho : o.op = .call { callee := .builtin .copy, args := #[d, s], argTypes := #[dT, sT] }) (elem : TypeId) (i : TypeInfo) (hu : P.underlying dT = some (.slice elem)) (hq : P.info? elem = some i)
    (g off dLen dCap : Nat) (ad : Addr) (sLen sCap : Nat) (hd : a.eval d = .slice (some ⟨g, off, none⟩) dLen dCap) (hs : a.eval s = .slice (some ad) sLen sCap)
    (cur : Array Value) (t : TypeId) (hg : w.heap[g]? = some (.cells cur t (0, 0))) (cs : List Value) (hn : cs.length = Nat.min sLen dLen * i.size)
    (hsrc : ∀ j v, cs[j]? = some v → w.cell? (ad.add j) = some v) (hfit : off + cs.length ≤ cur.size) (h1 : ∀ v ∈ cs, v.oneCell' = true)
    (h : ∀ w', Aside0 (w'.heap[g]? = some (.cells (lay cur off cs) t (0, 0))) → Aside0 (w.grownBy w' (some g)) → K (a.put o.dst (goInt (Nat.min sLen dLen))) w') : if Region.wanted o (yielded ops a.tmps) = true then Oper.wp P o a w K Q else E := by
  have hw : Region.wanted o (yielded ops a.tmps) = true := by simp [Region.wanted, hgd]
  rw [if_pos hw]
  have hrun := run_copy_sz (P := P) w dT sT o.type elem g off dLen dCap ad sLen sCap cur t cs i hu hq hg hn hsrc hfit h1
  unfold Oper.wp
  simp [execOp, ho, resolve, invoke, builtin, hd, hs, hrun, Result.andThen]
  exact h _ ⟨setRow_heap w g cur _ t _ hg⟩ ⟨grownBy_setRow w g _⟩
theorem run_append_sz (w : World) (t ty e : TypeId) (i : TypeInfo) (ht : P.underlying t = some (.slice e)) (hi : P.info? e = some i) (g n cap : Nat) (cur : Array Value) (t' : TypeId) (hg : w.heap[g]? = some (.cells cur t' (0, 0)))
    (ad : Addr) (m c : Nat) (news : List Value) (hl : news.length = m * i.size) (hnews : ∀ j u, news[j]? = some u → w.cell? (ad.add j) = some u) (h1 : ∀ u ∈ news, u.oneCell' = true) (hroom : n + m ≤ cap) (hfit : n * i.size + news.length ≤ cur.size) :
    (Builtin.append_ #[t, t] ty #[.slice (some ⟨g, 0, none⟩) n cap, .slice (some ad) m c]).run P w = .ok (.slice (some ⟨g, 0, none⟩) (n + m) cap) (w.setRow g (lay cur (n * i.size) news)) := by
  have hl2 := run_loadCells_list (P := P) w ad news hnews
  have hst := run_storeCells_at P g (n * i.size) t' news 0 cur w hg (by simpa using hfit) h1
  simp [Builtin.append_, run_underlying ht, sizeOf, typeInfo, hi, Builtin.lenOf, Builtin.firstCells, hroom, ← hl, hl2, hst, lay, Addr.add_lit]
theorem step_append_sz (hgd : o.guard = none) (s x : Operand) (t : TypeId) (ho : o.op = .call { callee := .builtin .append, args := #[s, x], argTypes := #[t, t] }) (e : TypeId) (i : TypeInfo) (ht : P.underlying t = some (.slice e)) (hi : P.info? e = some i)
    (g n cap : Nat) (hs : a.eval s = .slice (some ⟨g, 0, none⟩) n cap) (cur : Array Value) (t' : TypeId) (hg : w.heap[g]? = some (.cells cur t' (0, 0)))
    (ad : Addr) (m c : Nat) (hx : a.eval x = .slice (some ad) m c) (news : List Value) (hl : news.length = m * i.size) (hnews : ∀ j u, news[j]? = some u → w.cell? (ad.add j) = some u) (h1 : ∀ u ∈ news, u.oneCell' = true) (hroom : n + m ≤ cap) (hfit : n * i.size + news.length ≤ cur.size)
    (h : ∀ w', Aside0 (w'.heap[g]? = some (.cells (lay cur (n * i.size) news) t' (0, 0))) → Aside0 (w.grownBy w' (some g)) → K (a.put o.dst (.slice (some ⟨g, 0, none⟩) (n + m) cap)) w') : if Region.wanted o (yielded ops a.tmps) = true then Oper.wp P o a w K Q else E := by
  have hw : Region.wanted o (yielded ops a.tmps) = true := by simp [Region.wanted, hgd]
  rw [if_pos hw]
  have hrun := run_append_sz (P := P) w t o.type e i ht hi g n cap cur t' hg ad m c news hl hnews h1 hroom hfit
  unfold Oper.wp
  simp [execOp, ho, resolve, invoke, builtin, hs, hx, hrun, Result.andThen]
  exact h _ ⟨setRow_heap w g cur _ t' _ hg⟩ ⟨grownBy_setRow w g _⟩
end
end
end Go.Proofs.Ytnaddmkaakdhoaa.J

end
section
namespace Go.Proofs.Ytnaddmkaakdhoaa.J
open Go.RowKit Go.Proofs.YtnaddmkaakdhoaaW.PrintWords Go.Proofs.YtnaddmkaakdhoaaW.PrintLast Go.Proofs.YtnaddmkaakdhoaaW.PrintMore
set_option linter.unusedVariables false
set_option linter.unusedSimpArgs false

def cs69 : List S69 → List Value
  | [] => []
  | x :: l => .string x.f0 :: .int .i64 x.f1 :: cs69 l
theorem cs69_len : ∀ l, (cs69 l).length = l.length * 2
  | [] => rfl
  | x :: l => by simp [cs69, cs69_len l]; omega
theorem cs69_app : ∀ a b, cs69 (a ++ b) = cs69 a ++ cs69 b
  | [], b => rfl
  | x :: a, b => by simp [cs69, cs69_app a b]
theorem cs69_take : ∀ (l : List S69) (i : Nat), cs69 (l.take i) = (cs69 l).take (i * 2)
  | [], i => by simp [cs69]
  | x :: l, 0 => by simp [cs69]
  | x :: l, i + 1 => by rw [List.take_succ_cons, cs69, cs69_take l i, show (i + 1) * 2 = i * 2 + 1 + 1 by omega]; rfl
theorem cs69_drop : ∀ (l : List S69) (i : Nat), cs69 (l.drop i) = (cs69 l).drop (i * 2)
  | [], i => by simp [cs69]
  | x :: l, 0 => by simp [cs69]
  | x :: l, i + 1 => by rw [List.drop_succ_cons, cs69_drop l i, show (i + 1) * 2 = i * 2 + 1 + 1 by omega]; rfl
theorem cs69_one : ∀ (l : List S69), ∀ u ∈ cs69 l, u.oneCell' = true
  | [], u, h => by cases h
  | x :: l, u, h => by
    simp only [cs69, List.mem_cons] at h
    rcases h with rfl | rfl | h
    · rfl
    · rfl
    · exact cs69_one l u h
theorem reps69 {w : World} {T : Nat} {ok : Nat → Prop} : ∀ (l : List S69), Reps (k69.M w T ok) 2 l (cs69 l)
  | l => ⟨cs69_len l, fun j p hj => by
    have e : (cs69 l).drop (j * 2) = cs69 (l.drop j) := (cs69_drop l j).symm
    have e2 : (cs69 (l.drop j)).take (1 * 2) = cs69 ((l.drop j).take 1) := (cs69_take _ 1).symm
    have hl : j < l.length := (List.getElem?_eq_some_iff.1 hj).1
    have hp : l[j] = p := (List.getElem?_eq_some_iff.1 hj).2
    rw [e, show (2 : Nat) = 1 * 2 from rfl, e2, List.drop_eq_getElem_cons hl, hp]
    exact k69_mkM w T ok p⟩
theorem reps69_eq {w : World} {T : Nat} {ok : Nat → Prop} : ∀ (l : List S69) (cs : List Value), Reps (k69.M w T ok) 2 l cs → cs = cs69 l
  | [], cs, h => List.eq_nil_of_length_eq_zero (by simpa using h.1)
  | x :: l, cs, h => by
    have h0 := k69_openM (h.2 0 x rfl)
    simp only [Nat.zero_mul, List.drop_zero] at h0
    have h1 : Reps (k69.M w T ok) 2 l (cs.drop 2) := ⟨by rw [List.length_drop, h.1]; simp; omega, fun j p hj => by
      rw [List.drop_drop]
      have := h.2 (j + 1) p (by simpa using hj)
      rwa [show (j + 1) * 2 = 2 + j * 2 by omega] at this⟩
    have h2 := reps69_eq l _ h1
    rw [← List.take_append_drop 2 cs, h0, h2]
    rfl
theorem R69_own {w : World} {T : Nat} {P : Nat → Prop} {v : Value} {l : List S69} (h : Kd.R k69 69 w T P v l) : w.ownsRow T 69 2 v l.length (cs69 l) := by
  obtain ⟨_, inner, ho, hr⟩ := h
  rw [← reps69_eq l inner hr]
  exact ho
theorem R69_of {w : World} {T n : Nat} {P : Nat → Prop} {v : Value} {l : List S69} (h : w.ownsRow T 69 2 v n (cs69 l)) (hn : l.length = n) (hP : ∀ k, v.ownBlock = some k → P k) : Kd.R k69 69 w T P v l := by
  subst hn
  exact ⟨hP, cs69 l, h, reps69 l⟩

theorem take_lay {arr : Array Value} {o n : Nat} {cs pre : List Value} (hp : arr.toList.take o = pre) (ho : o ≤ arr.size) (hn : n = o + cs.length) : (lay arr o cs).toList.take n = pre ++ cs := by
  subst hn
  unfold lay
  simp only [hp]
  have hl : pre.length = o := by rw [← hp, List.length_take, Array.length_toList]; omega
  rw [show o + cs.length = (pre ++ cs).length by rw [List.length_append, hl]]
  exact List.take_left

theorem grownBy_undrew {w w1 : World} {r : Option Nat} (h : w.drew.grownBy w1 r) : w.grownBy w1 r := ⟨h.os, h.tape, h.output, h.size, h.block⟩
set_option maxHeartbeats 8000000 in
set_option maxRecDepth 100000 in
theorem delete_calls (T : Nat) (P : Nat → Prop) (v : Value) (l : List S69) (i j : Nat) (hi : i < l.length) (hj : j = i + 1) (w : World) (h : Kd.R k69 69 w T P v l) :
    Calls Try.prog 114 #[v, .int .i64 (i : Nat), .int .i64 (j : Nat)] w fun e w' => ∃ v', e = .returned v' ∧ Kd.R k69 69 w' T P v' (l.eraseIdx i) ∧ w.grownBy w' v.ownBlock ∧ v'.ownBlock = v.ownBlock := by
  have ho := R69_own h
  have hP := h.1
  obtain ⟨n, hn⟩ : ∃ n, n = l.length := ⟨_, rfl⟩
  rw [← hn] at ho hi
  rcases ho.2 with ⟨_, h0⟩ | ⟨g, cap, cur, rfl, hg, hh, hnc, hcm, hcs, htk⟩
  · omega
  have hcap : cap ≤ 9223372036854775807 := by simpa [maxLen] using hcm
  have hPg := Aside0.mk (hP g rfl)
  have HG := Aside0.mk hh
  have TK := Aside0.mk htk
  have HN := Aside0.mk hn
  have HT := Aside0.mk hg
  obtain ⟨i0, hi0, hz0⟩ : ∃ i0, Try.prog.info? 69 = some i0 ∧ i0.size = 2 := ⟨Try.t69, by kernel_rfl, rfl⟩
  have hi0' := Aside0.mk hi0
  have hz0' := Aside0.mk hz0
  have HJ := Aside0.mk hj
  -- the cells that move
  obtain ⟨news, hnews⟩ : ∃ news, news = cs69 (l.drop j) := ⟨_, rfl⟩
  have hnl : news.length = (n - j) * 2 := by rw [hnews, cs69_len, List.length_drop, hn]
  obtain ⟨A, hA, hsrc⟩ : ∃ A : Addr, (if cap = j then some (⟨g, 0, none⟩ : Addr) else some ⟨g, j * 2, none⟩) = some A ∧ ∀ t u, news[t]? = some u → w.cell? (A.add t) = some u := by
    by_cases hc : cap = j
    · refine ⟨_, by rw [if_pos hc], fun t u hu => ?_⟩
      rw [List.eq_nil_of_length_eq_zero (l := news) (by rw [hnl]; omega)] at hu
      cases hu
    · refine ⟨_, by rw [if_neg hc], fun t u hu => ?_⟩
      rw [Addr.add_lit, blk_cell hh, ← Array.getElem?_toList]
      rw [hnews, cs69_drop, ← htk, List.getElem?_drop, List.getElem?_take] at hu
      split at hu
      · exact hu
      · cases hu
  have SRC := Aside0.mk (fun t u hu => (show w.drew.cell? (A.add t) = some u from hsrc t u hu))
  have NL := Aside0.mk hnl
  have NE := Aside0.mk hnews
  have hlt : (i : Int) < (j : Int) := by omega
  have hne : ((i : Int) == (j : Int)) = false := by simp; omega
  have hic : i ≤ cap := by omega
  have hjc : j ≤ cap := by omega
  have hjn : j ≤ n := by omega
  have hij : i ≤ j := by omega
  obtain ⟨m, hm⟩ : ∃ m, i + (n - j) = m := ⟨_, rfl⟩
  have M1 := Aside0.mk (show m + 1 = n by omega)
  have hmn : m ≤ n := by omega
  have hmc : m ≤ cap := by omega
  have hcm2 : ¬ (cap = m) := by omega
  clear h ho hP hh htk hn hg hi0 hz0 hj hnews hnl hsrc
  go_enter Try.func114, Try.ntmps114
  go_wp2_with fail
  go_region_law (refine step_append_sz rfl (.tmp 22) (.tmp 25) 44 rfl 69 i0 Try.underlying44 hi0'.out g i cap (by simp [Act.eval, Act.put]) cur 69 HG.out A (n - j) (cap - j) (by simp [Act.eval, Act.put]) news (by rw [hz0'.out]; exact NL.out) SRC.out (by rw [NE.out]; exact cs69_one _) (by omega) (by rw [hz0'.out, NL.out, hcs]; have := HJ.out; omega) ?_; intro w1 hw1 hgr)
  obtain ⟨cs2, hc2, hcl⟩ := run_clear_sz (P := Try.prog) w1 44 69 0 (.agg #[.string ⟨#[]⟩, .int .i64 0]) Try.underlying44 Try.zeroValue69 (by simp [Value.cells, Value.oneCell']) g (m * 2) (n - m) (cap - m) (by have := M1.out; omega) (lay cur (i * i0.size) news) 69 hw1.out (by simp [Value.cells]) (by rw [lay_size _ _ _ (by rw [hz0'.out, NL.out, hcs]; have := HJ.out; omega), hcs]; simp [Value.cells]; have := M1.out; omega)
  have H2 := Aside0.mk (setRow_heap w1 g _ (lay (lay cur (i * i0.size) news) (m * 2) cs2) 69 (0, 0) hw1.out)
  have G2 := Aside0.mk (grownBy_setRow w1 g (lay (lay cur (i * i0.size) news) (m * 2) cs2))
  obtain ⟨w2, hw2⟩ : ∃ w2, w2 = w1.setRow g (lay (lay cur (i * i0.size) news) (m * 2) cs2) := ⟨_, rfl⟩
  rw [← hw2] at hcl H2 G2
  have C2 := Aside0.mk hc2
  clear hw2 hc2
  go_wp2
  go_ret
  have hsz : (lay cur (i * i0.size) news).size = cap * 2 := by rw [lay_size _ _ _ (by rw [hz0'.out, NL.out, hcs]; have := HJ.out; omega), hcs]
  have hc2 : cs2.length = (n - m) * 2 := C2.out
  refine ⟨_, rfl, R69_of (n := m) ⟨by rw [cs69_len, List.length_eraseIdx_of_lt (by have := HN.out; omega)]; have := HN.out; have := M1.out; omega, .inr ⟨g, cap, _, rfl, HT.out, H2.out, hmc, hcm, ?_, ?_⟩⟩ (by rw [List.length_eraseIdx_of_lt (by have := HN.out; omega)]; have := HN.out; have := M1.out; omega) (fun k hk => ?_), ?_, rfl⟩
  · rw [lay_size _ _ _ (by rw [hsz, hc2]; have := M1.out; omega), hsz]
  · have e1 : (lay (lay cur (i * i0.size) news) (m * 2) cs2).toList.take (m * 2) = (lay cur (i * i0.size) news).toList.take (m * 2) := by
      unfold lay
      simp only [List.append_assoc]
      rw [List.take_append_of_le_length (by rw [List.length_take]; simp; have := hsz; unfold lay at this; simp at this; omega), List.take_take, Nat.min_self]
    rw [e1, hz0'.out, take_lay (pre := cs69 (l.take i)) ?_ (by omega) (by rw [NL.out]; have := M1.out; omega), NE.out, ← cs69_app]
    · congr 1
      rw [List.eraseIdx_eq_take_drop_succ, HJ.out]
    · rw [cs69_take, ← TK.out, List.take_take]
      congr 1
      have := HJ.out
      omega
  · injection hk with hk
    exact hk ▸ hPg.out
  · exact World.grownBy.trans (grownBy_undrew hgr.out) G2.out
end Go.Proofs.Ytnaddmkaakdhoaa.J

end
section
namespace Go.Proofs.Ytnaddmkaakdhoaa.J
open Go.RowKit Go.Proofs.YtnaddmkaakdhoaaW.PrintWords Go.Proofs.YtnaddmkaakdhoaaW.PrintLast Go.Proofs.YtnaddmkaakdhoaaW.PrintMore
set_option linter.unusedVariables false
set_option linter.unusedSimpArgs false

theorem C69_one {w : World} {vb : Nat} {x : S69} (h : w.heap[vb]? = some (.cells #[.string x.f0, .int .i64 x.f1] 69 (0, 0))) : Kd.C k69 w (some ⟨vb, 0, none⟩) 1 [x] :=
  ⟨rfl, by omega, fun _ => ⟨_, rfl, fun j p hj => by
    obtain rfl : j = 0 := by have := (List.getElem?_eq_some_iff.1 hj).1; simp at this; exact this
    obtain rfl : x = p := by simpa using hj
    refine ⟨_, rfl, k69_mk w x, fun i u hu => ?_⟩
    rw [Addr.add_lit, blk_cell h]
    match i, hu with
    | 0, hu => simpa using hu
    | 1, hu => simpa using hu
    | k + 2, hu => simp at hu⟩⟩

def Ins (w : World) (T : Nat) (P : Nat → Prop) (v : Value) (l' : List S69) (e : Ending) (w' : World) : Prop :=
  ∃ v', e = .returned v' ∧ Kd.R k69 69 w' T (fun k => P k ∨ w.heap.size ≤ k) v' l' ∧ w.grownBy w' v.ownBlock ∧ (v'.ownBlock = v.ownBlock ∨ ∃ b, v'.ownBlock = some b ∧ w.heap.size ≤ b)

set_option maxHeartbeats 8000000 in
set_option maxRecDepth 100000 in
theorem insert_end (T : Nat) (P : Nat → Prop) (v : Value) (l : List S69) (x : S69) (vb : Nat) (w : World) (h : Kd.R k69 69 w T P v l) (hT : T ≤ w.heap.size) (hm : l.length ≤ 1000000)
    (hv : w.heap[vb]? = some (.cells #[.string x.f0, .int .i64 x.f1] 69 (0, 0))) :
    Calls Try.prog 113 #[v, .int .i64 (l.length : Nat), .slice (some ⟨vb, 0, none⟩) 1 1] w (Ins w T P v (l ++ [x])) := by
  have H := Aside0.mk (Kd.R_mono h (ok' := fun k => P k ∨ w.heap.size ≤ k) (fun _ hk => .inl hk))
  have C := Aside0.mk (C69_one hv)
  obtain ⟨A, c, rfl, hlc, hrd⟩ := Kd.R_reads h
  have hcap : c ≤ 9223372036854775807 := by
    have := R69_own h
    rcases this.2 with ⟨e, _⟩ | ⟨g, cap, cur, e, hg, hh, hnc, hcm, _⟩
    · injection e with _ _ e; omega
    · injection e with _ _ e; rw [e]; simpa [maxLen] using hcm
  clear h hv hrd
  go_enter Try.func113, Try.ntmps113
  go_wp2_with (at_builtin; go_loud (refine Kd.R_append_rows k69 (Rr := k69.K _) (w0 := w) T rfl _ _ 44 69 (.agg #[.string ⟨#[]⟩, .int .i64 0]) 24 rfl Try.underlying44 info69 rfl (by decide) (by decide) (.slice A l.length c) l [x] (some ⟨vb, 0, none⟩) 1 1 (fun k => P k ∨ w.heap.size ≤ k) (fun _ => False) rfl rfl H.out C.out ?q2 ?q3 ?q4 (Below.refl _ _) hT ?q7 ?_); (case q2 => intro y cs h; obtain rfl := k69_open h; exact k69_mkM _ _ _ _); (case q3 => intro k h; exact h.elim); (case q4 => intro k hk; exact .inr hk); (case q7 => omega); intro v1 w1 h1 h2 h3 h4; have H1 := Aside0.mk h1; have H3 := Aside0.mk h3; have H4 := Aside0.mk h4; clear h1 h2 h3 h4)
  all_goals (go_ret; refine ⟨_, rfl, H1.out, ?_, ?_⟩)
  all_goals (first | exact H3.out | exact H4.out | (cases A <;> exact H3.out) | (cases A <;> exact H4.out))
set_option maxHeartbeats 8000000 in
set_option maxRecDepth 100000 in
theorem insert_room (T : Nat) (P : Nat → Prop) (l : List S69) (i n g cap : Nat) (cur : Array Value) (x : S69) (vb : Nat) (w : World) (hi : i < n) (hn : n = l.length) (hroom : n + 1 ≤ cap) (hcm : cap ≤ maxLen) (hm : l.length ≤ 1000000) (hTg : T ≤ g) (hP : P g)
    (hh : w.heap[g]? = some (.cells cur 69 (0, 0))) (hcs : cur.size = cap * 2) (htk : cur.toList.take (n * 2) = cs69 l)
    (hv : w.heap[vb]? = some (.cells #[.string x.f0, .int .i64 x.f1] 69 (0, 0))) (hne : vb ≠ g) :
    Calls Try.prog 113 #[.slice (some ⟨g, 0, none⟩) n cap, .int .i64 (i : Nat), .slice (some ⟨vb, 0, none⟩) 1 1] w (Ins w T P (.slice (some ⟨g, 0, none⟩) n cap) (l.take i ++ x :: l.drop i)) := by
  have hov : ∀ lb cb, (callFunc 117 #[.slice (some ⟨vb, 0, none⟩) 1 1, .slice (some ⟨g, (i + 1) * 2, none⟩) lb cb]).run Try.prog w = .ok (.value (.bool false)) w := fun lb cb => by
    rw [run_callFunc_extern Try.func117 (by kernel_rfl) (by kernel_rfl) (by kernel_rfl) (e := Extern.SlicesOverlaps.overlaps #[44, 44] #[4]) (by kernel_rfl),
      Lib.run_overlaps_apart w 44 4 69 Try.underlying44 2 Try.sizeOf69 ⟨vb, 0, none⟩ ⟨g, (i + 1) * 2, none⟩ 1 1 lb cb hne 69 69 2 (cap * 2) (by simp [World.shape?, hv]) (by simp [World.shape?, hh, hcs]) (by omega) (by simp [World.frozen?, hv]) (by simp [World.frozen?, hv])]
    rfl
  obtain ⟨i0, hi0, hz0⟩ : ∃ i0, Try.prog.info? 69 = some i0 ∧ i0.size = 2 := ⟨Try.t69, by kernel_rfl, rfl⟩
  have hi0' := Aside0.mk hi0
  have hz0' := Aside0.mk hz0
  have HG := Aside0.mk hh
  have HV := Aside0.mk hv
  have TK := Aside0.mk htk
  have HN := Aside0.mk hn
  have HTg := Aside0.mk hTg
  have HPg := Aside0.mk hP
  have hcap : cap ≤ 9223372036854775807 := by simpa [maxLen] using hcm
  have hz1 : ¬ ((i : Int) = (n : Int)) := by omega
  have hin : i ≤ n := by omega
  have hnc : n ≤ cap := by omega
  -- the two pieces that are laid
  obtain ⟨news, hnews⟩ : ∃ news, news = cs69 (l.drop i) := ⟨_, rfl⟩
  have hnl : news.length = (n - i) * 2 := by rw [hnews, cs69_len, List.length_drop, hn]
  have NE := Aside0.mk hnews
  have NL := Aside0.mk hnl
  have SRC := Aside0.mk (fun t u (hu : news[t]? = some u) => (show w.drew.cell? ((⟨g, i * 2, none⟩ : Addr).add t) = some u from by
      rw [Addr.add_lit]
      show w.cell? _ = _
      rw [blk_cell hh, ← Array.getElem?_toList]
      rw [hnews, cs69_drop, ← htk, List.getElem?_drop, List.getElem?_take] at hu
      split at hu
      · exact hu
      · cases hu))
  have hw1 : IntKind.i64.wrap ((i : Int) + 1) = (i : Int) + 1 := by rw [IntKind.wrap_i64]; omega
  have hb1 : (0 : Int) ≤ (i : Int) + 1 := by omega
  have htn : ((i : Int) + 1).toNat = i + 1 := by omega
  have hb2 : ¬ (cap = i + 1) := by omega
  have hb3 : (i : Int) ≤ (n : Int) + 1 := by omega
  have hb4 : ¬ (cap = i) := by omega
  have hb5 : (i : Int) + 1 ≤ (n : Int) + 1 := by omega
  have hn6 : n ≤ 1000000 := by omega
  clear hh hv htk hi0 hz0 hTg hP hn hnews hnl hm
  go_enter Try.func113, Try.ntmps113
  go_wp2_with (simp only [hov])
  go_region_law (go_loud (refine step_copy_sz rfl (.tmp 73) (.tmp 76) 44 44 rfl 69 i0 Try.underlying44 hi0'.out g ((i + 1) * 2) (n + 1 - (i + 1)) (cap - (i + 1)) ⟨g, i * 2, none⟩ (n + 1 - i) (cap - i) (by simp [Act.eval, Act.put]) (by simp [Act.eval, Act.put]) cur 69 HG.out news (by rw [hz0'.out, NL.out]; simp only [Nat.min_def]; split <;> omega) SRC.out (by rw [NL.out, hcs]; omega) (by rw [NE.out]; exact cs69_one _) ?_); intro w1 hw1 hgr)
  have HV1 := Aside0.mk (show w1.heap[vb]? = some (.cells #[.string x.f0, .int .i64 x.f1] 69 (0, 0)) from (hgr.out.block vb (blk_lt (o := .cells #[.string x.f0, .int .i64 x.f1] 69 (0, 0)) HV.out) (fun e => hne (Option.some.inj e))).trans HV.out)
  have hs1 := Aside0.mk (show (lay cur ((i + 1) * 2) news).size = cap * 2 by rw [lay_size _ _ _ (by rw [NL.out, hcs]; omega), hcs])
  have hcp := run_copy_sz (P := Try.prog) w1 44 44 3 69 g (i * 2) (n + 1 - i) (cap - i) ⟨vb, 0, none⟩ 1 1 (lay cur ((i + 1) * 2) news) 69 [.string x.f0, .int .i64 x.f1] i0 Try.underlying44 hi0'.out hw1.out (by rw [hz0'.out]; simp only [List.length_cons, List.length_nil, Nat.min_def]; split <;> omega) (by
    intro t u hu
    rw [Addr.add_lit, blk_cell HV1.out]
    match t, hu with
    | 0, hu => simpa using hu
    | 1, hu => simpa using hu
    | k + 2, hu => simp at hu) (by rw [hs1.out]; simp; omega) (by intro u hu; simp at hu; rcases hu with rfl | rfl <;> rfl)
  have hw2 := Aside0.mk (setRow_heap w1 g _ (lay (lay cur ((i + 1) * 2) news) (i * 2) [.string x.f0, .int .i64 x.f1]) 69 (0, 0) hw1.out)
  have hgr2 := Aside0.mk (grownBy_setRow w1 g (lay (lay cur ((i + 1) * 2) news) (i * 2) [.string x.f0, .int .i64 x.f1]))
  obtain ⟨w2, hw2e⟩ : ∃ w2, w2 = w1.setRow g (lay (lay cur ((i + 1) * 2) news) (i * 2) [.string x.f0, .int .i64 x.f1]) := ⟨_, rfl⟩
  rw [← hw2e] at hcp hw2 hgr2
  clear hw2e
  go_wp2
  go_ret
  have e2 : (lay cur ((i + 1) * 2) news).toList = cur.toList.take ((i + 1) * 2) ++ cs69 (l.drop i) ++ cur.toList.drop ((i + 1) * 2 + (cs69 (l.drop i)).length) := by rw [← NE.out]; rfl
  have e3 : cur.toList.take (i * 2) = cs69 (l.take i) := by rw [cs69_take, ← TK.out, List.take_take]; congr 1; omega
  have hl1 : ((cur.toList.take ((i + 1) * 2))).length = (i + 1) * 2 := by rw [List.length_take, Array.length_toList, hcs]; omega
  refine ⟨_, rfl, R69_of (n := n + 1) ⟨?_, .inr ⟨g, cap, _, rfl, HTg.out, hw2.out, hroom, hcm, ?_, ?_⟩⟩ ?_ (fun k hk => ?_), ?_, .inl rfl⟩
  · rw [cs69_len, List.length_append, List.length_take, List.length_cons, List.length_drop]; have := HN.out; omega
  · rw [lay_size _ _ _ (by rw [hs1.out]; simp; omega), hs1.out]
  · have e4 : (lay (lay cur ((i + 1) * 2) news) (i * 2) [.string x.f0, .int .i64 x.f1]).toList = (lay cur ((i + 1) * 2) news).toList.take (i * 2) ++ [.string x.f0, .int .i64 x.f1] ++ (lay cur ((i + 1) * 2) news).toList.drop ((i + 1) * 2) := by
      unfold lay
      simp only [List.length_cons, List.length_nil]
      rw [show i * 2 + (0 + 1 + 1) = (i + 1) * 2 by omega]
    have e5 : (lay cur ((i + 1) * 2) news).toList.take (i * 2) = cs69 (l.take i) := by
      rw [e2, List.append_assoc, List.take_append_of_le_length (by omega), List.take_take, ← e3]
      congr 1
      omega
    have e6 : (lay cur ((i + 1) * 2) news).toList.drop ((i + 1) * 2) = cs69 (l.drop i) ++ cur.toList.drop ((i + 1) * 2 + (cs69 (l.drop i)).length) := by
      rw [e2, List.append_assoc, List.drop_append_of_le_length (by omega), List.drop_eq_nil_of_le (by omega), List.nil_append]
    rw [e4, e5, e6, cs69_app, ← List.append_assoc, show cs69 (x :: l.drop i) = [Value.string x.f0, Value.int .i64 x.f1] ++ cs69 (l.drop i) from rfl, ← List.append_assoc]
    have hlen : (cs69 (l.take i) ++ [Value.string x.f0, Value.int .i64 x.f1] ++ cs69 (l.drop i)).length = (n + 1) * 2 := by
      rw [List.length_append, List.length_append, cs69_len, cs69_len, List.length_take, List.length_drop]; have := HN.out; simp; omega
    rw [← hlen]
    exact List.take_left
  · rw [List.length_append, List.length_take, List.length_cons, List.length_drop]; have := HN.out; omega
  · injection hk with hk
    exact .inl (hk ▸ HPg.out)
  · exact World.grownBy.trans (grownBy_undrew hgr.out) hgr2.out
theorem lay_ins (cur : Array Value) (cap i n : Nat) (l : List S69) (x : S69) (hi : i ≤ n) (hn : n = l.length) (hc : n + 1 ≤ cap) (hs : cur.size = cap * 2) (h0 : cur.toList.take (i * 2) = cs69 (l.take i)) :
    (lay (lay cur (i * 2) [Value.string x.f0, Value.int .i64 x.f1]) ((i + 1) * 2) (cs69 (l.drop i))).toList.take ((n + 1) * 2) = cs69 (l.take i ++ x :: l.drop i) := by
  have hd : (cs69 (l.drop i)).length = (n - i) * 2 := by rw [cs69_len, List.length_drop, hn]
  have e1 : (lay cur (i * 2) [Value.string x.f0, Value.int .i64 x.f1]).toList.take ((i + 1) * 2) = cs69 (l.take i) ++ [Value.string x.f0, Value.int .i64 x.f1] :=
    take_lay h0 (by omega) (by simp; omega)
  rw [take_lay e1 (by rw [lay_size _ _ _ (by simp; omega)]; omega) (by rw [hd]; omega), cs69_app, List.append_assoc]
  rfl
set_option maxHeartbeats 8000000 in
set_option maxRecDepth 100000 in
theorem insert_grow (T : Nat) (P : Nat → Prop) (l : List S69) (i n g cap : Nat) (cur : Array Value) (x : S69) (vb : Nat) (w : World) (hi : i < n) (hn : n = l.length) (hroom : cap < n + 1) (hnc : n ≤ cap) (hm : l.length ≤ 1000000) (hT : T ≤ w.heap.size)
    (hh : w.heap[g]? = some (.cells cur 69 (0, 0))) (hcs : cur.size = cap * 2) (htk : cur.toList.take (n * 2) = cs69 l)
    (hv : w.heap[vb]? = some (.cells #[.string x.f0, .int .i64 x.f1] 69 (0, 0))) :
    Calls Try.prog 113 #[.slice (some ⟨g, 0, none⟩) n cap, .int .i64 (i : Nat), .slice (some ⟨vb, 0, none⟩) 1 1] w (Ins w T P (.slice (some ⟨g, 0, none⟩) n cap) (l.take i ++ x :: l.drop i)) := by
  obtain ⟨i0, hi0, hz0, hzb, hzz⟩ : ∃ i0, Try.prog.info? 69 = some i0 ∧ i0.size = 2 ∧ i0.bytes = 24 ∧ i0.zero = some (.agg #[.string ⟨#[]⟩, .int .i64 0]) := ⟨Try.t69, by kernel_rfl, rfl, rfl, rfl⟩
  have hgw := blk_lt hh
  have hvw := blk_lt hv
  obtain ⟨k, hk⟩ : ∃ k, n + 1 - i = k := ⟨_, rfl⟩
  have hkk : (n : Int) + 1 - (i : Int) = (k : Int) := by omega
  have hik : i + k = n + 1 := by omega
  have hold : (Builtin.firstCells i0.size i (.slice (some ⟨g, 0, none⟩) i cap)).run Try.prog w.drew = .ok (cs69 (l.take i)).toArray w.drew := by
    rw [hz0]
    exact run_firstCells_some w.drew 2 i ⟨g, 0, none⟩ i cap (cs69 (l.take i)) (by rw [cs69_len, List.length_take]; omega) (fun j v hj => by
      rw [Addr.add_lit, Nat.zero_add]
      show w.cell? _ = _
      rw [blk_cell hh, ← Array.getElem?_toList]
      rw [cs69_take, ← htk, List.take_take, List.getElem?_take] at hj
      split at hj
      · exact hj
      · cases hj)
  have hrz := fun ty => Lib.run_append_grow_zeros (P := Try.prog) w 44 3 ty 69 i0 _ .i64 .i64 Try.underlying44 Try.underlying3 hi0 hzz (some ⟨g, 0, none⟩) i cap (cs69 (l.take i)) hold k (by omega) (by omega) (by omega) (by omega) (by rw [hzb]; omega) (by rw [hzb, hik]; exact growslice_fits (by omega) (by omega))
  rw [hik] at hrz
  obtain ⟨G, hG⟩ : ∃ G, G = grownCap w (n + 1) cap 69 := ⟨_, rfl⟩
  have hGn : n + 1 ≤ G := by rw [hG]; exact grownCap_ge w _ _ _
  have hGm : G ≤ maxLen := by rw [hG]; exact grownCap_le_maxLen w (n + 1) cap 69 (by unfold maxLen; omega)
  have hG63 : G ≤ 9223372036854775807 := by simpa [maxLen] using hGm
  rw [← hG] at hrz
  obtain ⟨N, hN⟩ : ∃ N, N = w.heap.size := ⟨_, rfl⟩
  rw [← hN] at hrz
  obtain ⟨ROW, hROW⟩ : ∃ ROW : Array Value, ROW = (cs69 (l.take i)).toArray ++ Builtin.zeroCells (Value.agg #[Value.string { data := #[] }, Value.int IntKind.i64 0]).cells k ++ Builtin.zeroCells (Value.agg #[Value.string { data := #[] }, Value.int IntKind.i64 0]).cells (G - (n + 1)) := ⟨_, rfl⟩
  rw [← hROW] at hrz
  have hRs : ROW.size = G * 2 := by
    rw [hROW, Array.size_append, Array.size_append, size_zeroCells, size_zeroCells, List.size_toArray, cs69_len, List.length_take, show (Value.agg #[Value.string { data := #[] }, Value.int IntKind.i64 0]).cells.size = 2 from rfl]
    omega
  have hRt : ROW.toList.take (i * 2) = cs69 (l.take i) := by
    have hl : (cs69 (l.take i)).length = i * 2 := by rw [cs69_len, List.length_take]; omega
    rw [hROW, Array.toList_append, Array.toList_append, List.append_assoc, ← hl]
    exact List.take_left
  obtain ⟨W1, hW1⟩ : ∃ W1, W1 = w.drew.alloc (.cells ROW 69) := ⟨_, rfl⟩
  rw [← hW1] at hrz
  have hb1 : W1.heap[N]? = some (.cells ROW 69 (0, 0)) := by rw [hW1, hN]; exact heap_alloc_new w.drew _
  have hg1 : w.grownBy W1 none := by rw [hW1]; exact grownBy_undrew (World.grownBy_alloc w.drew _ _)
  have hgv : W1.heap[vb]? = some (.cells #[.string x.f0, .int .i64 x.f1] 69 (0, 0)) := (hg1.block vb hvw (by simp)).trans hv
  have hgg : W1.heap[g]? = some (.cells cur 69 (0, 0)) := (hg1.block g hgw (by simp)).trans hh
  -- v goes over
  have hcp := run_copy_sz (P := Try.prog) W1 44 44 3 69 N (i * 2) (n + 1 - i) (G - i) ⟨vb, 0, none⟩ 1 1 ROW 69 [.string x.f0, .int .i64 x.f1] i0 Try.underlying44 hi0 hb1 (by rw [hz0]; simp only [List.length_cons, List.length_nil, Nat.min_def]; split <;> omega) (by
    intro t u hu
    rw [Addr.add_lit, blk_cell hgv]
    match t, hu with
    | 0, hu => simpa using hu
    | 1, hu => simpa using hu
    | k + 2, hu => simp at hu) (by rw [hRs]; simp; omega) (by intro u hu; simp at hu; rcases hu with rfl | rfl <;> rfl)
  obtain ⟨W2, hW2⟩ : ∃ W2, W2 = W1.setRow N (lay ROW (i * 2) [.string x.f0, .int .i64 x.f1]) := ⟨_, rfl⟩
  have hb2 : W2.heap[N]? = some (.cells (lay ROW (i * 2) [.string x.f0, .int .i64 x.f1]) 69 (0, 0)) := by rw [hW2]; exact setRow_heap W1 N _ _ 69 (0, 0) hb1
  have hg2 : W1.grownBy W2 (some N) := by rw [hW2]; exact grownBy_setRow W1 N _
  rw [← hW2] at hcp
  have hgg2 : W2.heap[g]? = some (.cells cur 69 (0, 0)) := (hg2.block g (blk_lt hgg) (by rw [hN]; intro e; injection e with e; omega)).trans hgg
  obtain ⟨news, hnews⟩ : ∃ news, news = cs69 (l.drop i) := ⟨_, rfl⟩
  have hnl : news.length = (n - i) * 2 := by rw [hnews, cs69_len, List.length_drop, hn]
  have NE := Aside0.mk hnews
  have NL := Aside0.mk hnl
  have SRC := Aside0.mk (fun t u (hu : news[t]? = some u) => (show W2.drew.cell? ((⟨g, i * 2, none⟩ : Addr).add t) = some u from by
      rw [Addr.add_lit]
      show W2.cell? _ = _
      rw [blk_cell hgg2, ← Array.getElem?_toList]
      rw [hnews, cs69_drop, ← htk, List.getElem?_drop, List.getElem?_take] at hu
      split at hu
      · exact hu
      · cases hu))
  have hi0' := Aside0.mk hi0
  have hz0' := Aside0.mk hz0
  have B2 := Aside0.mk hb2
  have G1 := Aside0.mk hg1
  have G2 := Aside0.mk hg2
  have HN := Aside0.mk hn
  have HNN := Aside0.mk hN
  have RS := Aside0.mk hRs
  have RT := Aside0.mk hRt
  have hTN := Aside0.mk (show T ≤ N by omega)
  have hz1 : ¬ ((i : Int) = (n : Int)) := by omega
  have hw1 : IntKind.i64.wrap ((i : Int) + 1) = (i : Int) + 1 := by rw [IntKind.wrap_i64]; omega
  have hp1 : (0 : Int) ≤ (i : Int) + 1 := by omega
  have htn : ((i : Int) + 1).toNat = i + 1 := by omega
  have hp2 : ¬ (G = i + 1) := by omega
  have hp3 : (i : Int) + 1 ≤ (n : Int) + 1 := by omega
  have hp4 : ¬ (cap = i) := by omega
  have hp5 : ¬ (G = i) := by omega
  have hp6 : (cap : Int) < (n : Int) + 1 := by omega
  have hin : i ≤ n := by omega
  have hic : i ≤ cap := by omega
  have hiG : i ≤ G := by omega
  have hn6 : n ≤ 1000000 := by omega
  clear hh hv htk hi0 hz0 hzb hzz hold hG hN hROW hRs hRt hW1 hb1 hg1 hgv hgg hW2 hb2 hg2 hgg2 hnews hnl hn hm hT hgw hvw hik hGm hk
  go_enter Try.func113, Try.ntmps113
  go_wp2_with (at_builtin; go_loud (refine Lib.wpList_append_run _ rfl _ _ _ _ rfl _ _ rfl rfl _ _ (hrz _) ?_))
  have hs1 := Aside0.mk (show (lay ROW (i * 2) [Value.string x.f0, Value.int IntKind.i64 x.f1]).size = G * 2 by rw [lay_size _ _ _ (by rw [RS.out]; simp; omega), RS.out])
  go_region_law (go_loud (refine step_copy_sz rfl (.tmp 50) (.tmp 53) 44 44 rfl 69 i0 Try.underlying44 hi0'.out N ((i + 1) * 2) (n + 1 - (i + 1)) (G - (i + 1)) ⟨g, i * 2, none⟩ (n - i) (cap - i) (by simp [Act.eval, Act.put]) (by simp [Act.eval, Act.put]) (lay ROW (i * 2) [Value.string x.f0, Value.int IntKind.i64 x.f1]) 69 B2.out news (by rw [hz0'.out, NL.out]; simp only [Nat.min_def]; split <;> omega) SRC.out (by rw [NL.out, hs1.out]; omega) (by rw [NE.out]; exact cs69_one _) ?_); intro w3 hw3 hgr)
  go_wp2
  go_ret
  refine ⟨_, rfl, R69_of (n := n + 1) ⟨?_, .inr ⟨N, G, _, rfl, hTN.out, hw3.out, hGn, by simpa [maxLen] using hG63, ?_, ?_⟩⟩ ?_ (fun q hq => ?_), ?_, .inr ⟨N, rfl, by have := HNN.out; omega⟩⟩
  · rw [cs69_len, List.length_append, List.length_take, List.length_cons, List.length_drop]; have := HN.out; omega
  · rw [lay_size _ _ _ (by rw [NL.out, hs1.out]; omega), hs1.out]
  · rw [NE.out]
    exact lay_ins ROW G i n l x hin HN.out hGn RS.out RT.out
  · rw [List.length_append, List.length_take, List.length_cons, List.length_drop]; have := HN.out; omega
  · injection hq with hq
    have hq2 : N = q := hq
    exact .inr (by have := HNN.out; omega)
  · have h3 := grownBy_undrew hgr.out
    refine ⟨h3.os.trans (G2.out.os.trans G1.out.os), h3.tape.trans (G2.out.tape.trans G1.out.tape), h3.output.trans (G2.out.output.trans G1.out.output), Nat.le_trans G1.out.size (Nat.le_trans G2.out.size h3.size), fun q hq _ => ?_⟩
    have hqN : some q ≠ some N := fun e => by injection e with e; have := HNN.out; omega
    exact (h3.block q (Nat.lt_of_lt_of_le hq (Nat.le_trans G1.out.size G2.out.size)) hqN).trans ((G2.out.block q (Nat.lt_of_lt_of_le hq G1.out.size) hqN).trans (G1.out.block q hq (by simp)))
theorem insert_calls (T : Nat) (P : Nat → Prop) (v : Value) (l : List S69) (i : Nat) (x : S69) (vb : Nat) (w : World) (hi : i ≤ l.length) (hm : l.length ≤ 1000000) (hT : T ≤ w.heap.size) (h : Kd.R k69 69 w T P v l)
    (hv : w.heap[vb]? = some (.cells #[.string x.f0, .int .i64 x.f1] 69 (0, 0))) (hne : some vb ≠ v.ownBlock) :
    Calls Try.prog 113 #[v, .int .i64 (i : Nat), .slice (some ⟨vb, 0, none⟩) 1 1] w (Ins w T P v (l.take i ++ x :: l.drop i)) := by
  rcases Nat.lt_or_ge i l.length with hlt | hge
  · have ho := R69_own h
    have hP := h.1
    rcases ho.2 with ⟨_, h0⟩ | ⟨g, cap, cur, rfl, hg, hh, hnc, hcm, hcs, htk⟩
    · omega
    · rcases Nat.lt_or_ge cap (l.length + 1) with hr | hr
      · exact insert_grow T P l i l.length g cap cur x vb w hlt rfl hr hnc hm hT hh hcs htk hv
      · exact insert_room T P l i l.length g cap cur x vb w hlt rfl hr hcm hm hg (hP g rfl) hh hcs htk hv (fun e => hne (by rw [e]; rfl))
  · obtain rfl : i = l.length := by omega
    rw [List.take_length, List.drop_length]
    exact insert_end T P v l x vb w h hT hm hv
end Go.Proofs.Ytnaddmkaakdhoaa.J

end
section
namespace Go.Proofs.Ytnaddmkaakdhoaa.J
open Go.RowKit Go.Proofs.YtnaddmkaakdhoaaW.PrintWords Go.Proofs.YtnaddmkaakdhoaaW.PrintLast Go.Proofs.YtnaddmkaakdhoaaW.PrintMore
set_option linter.unusedVariables false
set_option linter.unusedSimpArgs false

set_option maxRecDepth 100000 in
theorem cmp104_calls (a b : ByteArray) (w : World) : Calls Try.prog 104 #[.string a, .string b] w fun e w' => e = .returned (.int .i64 (Lib.compareBytes a.data.toList b.data.toList)) ∧ w' = w := by
  go_enter Try.func104, Try.ntmps104
  go_wp2
  rw [run_callFunc_extern Try.func112 (by kernel_rfl) (by kernel_rfl) (by kernel_rfl) (e := Extern.BytealgCompare.compare) (by kernel_rfl), Lib.run_compareString]
  simp only [Result.andThen]
  rw [Oper.upon_value]
  go_wp2
  go_ret
  exact ⟨rfl, rfl⟩
theorem cmp87_calls (a b : ByteArray) (w : World) : Calls Try.prog 87 #[.string a, .string b] w fun e w' => e = .returned (.int .i64 (Lib.compareBytes a.data.toList b.data.toList)) ∧ w' = w := by
  go_enter Try.func87, Try.ntmps87
  go_wp2_with fail
  refine (cmp104_calls _ _ _).mono ?_
  rintro e w' ⟨rfl, rfl⟩
  go_wp2
  go_ret
  exact ⟨rfl, rfl⟩
set_option maxRecDepth 100000 in
theorem cmp86_calls (x : S69) (s : ByteArray) (w : World) : Calls Try.prog 86 #[.agg #[.string x.f0, .int .i64 x.f1], .string s] w fun e w' => e = .returned (.int .i64 (Lib.compareBytes x.f0.data.toList s.data.toList)) ∧ Below w.heap.size w w' := by
  go_enter Try.func86, Try.ntmps86
  go_wp2_with fail
  refine (cmp87_calls _ _ _).mono ?_
  rintro e w' ⟨rfl, rfl⟩
  go_wp2
  go_ret
  exact ⟨rfl, (Below.refl _ _).alloc (Nat.le_refl _) _⟩
end Go.Proofs.Ytnaddmkaakdhoaa.J

end
section
namespace Go.Proofs.Ytnaddmkaakdhoaa.J
open Go.RowKit Go.Proofs.YtnaddmkaakdhoaaW.PrintWords Go.Proofs.YtnaddmkaakdhoaaW.PrintLast Go.Proofs.YtnaddmkaakdhoaaW.PrintMore
open Dk
set_option linter.unusedVariables false
set_option linter.unusedSimpArgs false
theorem half_eq (lo hi m : Nat) (hm : m = (lo + hi) / 2) (h : lo + hi < 18446744073709551616) : wrap64 (IntKind.u64.wrap (wrap64 ((lo : Int) + (hi : Int))) / 2) = (m : Int) := by
  have e : IntKind.u64.wrap (wrap64 ((lo : Int) + (hi : Int))) = ((lo + hi : Nat) : Int) := by
    rw [IntKind.wrap_u64]
    unfold wrap64
    rw [Int.sub_emod, Int.emod_emod_of_dvd _ (Int.dvd_refl _), ← Int.sub_emod, Int.add_sub_cancel, Int.emod_eq_of_lt (by omega) (by omega)]
    omega
  rw [e, show ((lo + hi : Nat) : Int) / 2 = (m : Int) by omega]
  unfold wrap64
  rw [Int.emod_eq_of_lt (by omega) (by omega)]
  omega
set_option maxHeartbeats 8000000 in
set_option maxRecDepth 100000 in
theorem search_calls (A : Option Addr) (c : Nat) (l : List S69) (s : ByteArray) (hs : Srt l) (w : World) (hr : Kd.C k69 w A l.length l) (hc : l.length ≤ c) :
    Calls Try.prog 85 #[.slice A l.length c, .string s, .func (.func 86) #[] #[]] w fun e w' => e = .returned (.tuple #[.int .i64 (pos l s : Nat), .bool (has l s)]) ∧ Below w.heap.size w w' := by
  have HR := Aside0.mk hr
  have hlen : l.length ≤ 9223372036854775807 := HR.out.2.1
  obtain ⟨n, hn⟩ : ∃ n, n = l.length := ⟨_, rfl⟩
  have HN := Aside0.mk hn
  have HS := Aside0.mk hs
  have HB := Aside0.mk (Below.refl w.heap.size w)
  obtain ⟨P, hP⟩ : ∃ P, P = pos l s := ⟨_, rfl⟩
  obtain ⟨B, hB⟩ : ∃ B, B = has l s := ⟨_, rfl⟩
  rw [← hP, ← hB]
  have HP := Aside0.mk hP
  have HH := Aside0.mk hB
  clear hP hB hs
  rw [← hn] at hlen hc ⊢
  clear hr hn
  go_enter Try.func85, Try.ntmps85
  go_wp2
  go_loopg [9, 10] n (fun kx s9 s10 wr => ∃ lo hi : Nat, s9 = .int .i64 lo ∧ s10 = .int .i64 hi ∧ lo ≤ hi ∧ hi ≤ n ∧ hi - lo ≤ kx ∧ Aside0 (Below w.heap.size w wr) ∧
    Aside0 ((∀ t, t < lo → nk (l.getD t z69).f0 < nk s) ∧ (∀ t, hi ≤ t → t < n → ¬ nk (l.getD t z69).f0 < nk s)))
  case atStart => exact ⟨0, n, rfl, rfl, Nat.zero_le _, Nat.le_refl _, by omega, HB, ⟨fun t ht => absurd ht (Nat.not_lt_zero _), fun t h1 h2 => by omega⟩⟩
  case round =>
    clear HB
    obtain ⟨lo, hi, rfl, rfl, hlh, hin, hg, HB, I⟩ := hrel
    by_cases hlt : lo < hi
    · obtain ⟨m, hm⟩ : ∃ m, m = (lo + hi) / 2 := ⟨_, rfl⟩
      have hE : wrap64 (IntKind.u64.wrap (wrap64 ((lo : Int) + (hi : Int))) / 2) = (m : Int) := by
        exact half_eq lo hi m hm (by omega)
      have hml : m < n := by omega
      have hm0 : lo ≤ m := by omega
      have hm1 : m < hi := by omega
      clear hm
      obtain ⟨ad, ea, hx0, hx1⟩ := at_T69 HR.out (m : Int) (by omega) (by have := HN.out; omega)
      cases ea
      replace hx0 := (HB.out.cell (World.block_lt_of_cell? w _ hx0)).trans hx0
      replace hx1 := (HB.out.cell (World.block_lt_of_cell? w _ hx1)).trans hx1
      obtain ⟨y, hy⟩ : ∃ y, y = rd_T69 l (m : Int) := ⟨_, rfl⟩
      rw [← hy] at hx0 hx1
      replace hx0 : wr.cell? (ad.add (m * 2)) = some (.string y.f0) := hx0
      replace hx1 : wr.cell? ⟨(ad.add (m * 2)).block, (ad.add (m * 2)).off + 1, none⟩ = some (.int .i64 y.f1) := hx1
      have Y := Aside0.mk (show l.getD m z69 = y from by rw [hy]; rfl)
      clear hy
      by_cases hyx : Lib.compareBytes y.f0.data.toList s.data.toList < 0
      · go_wp2_with (refine (cmp86_calls y s _).mono ?_; rintro e w' ⟨rfl, hb⟩; have HB2 := Aside0.mk (HB.out.trans (hb.mono HB.out.size)); clear HB hb)
        go_roundg (hi - (m + 1))
        case measure => omega
        case rel =>
          exact ⟨m + 1, hi, by rw [show (m : Int) + 1 = ((m + 1 : Nat) : Int) by omega], rfl, by omega, hin, Nat.le_refl _, HB2, ⟨fun t ht => by
            rcases Nat.lt_or_ge t m with h | h
            · exact lt_trans (HS.out.lt h (by have := HN.out; omega)) (by rw [Y.out]; exact (cmp_lt _ _).1 hyx)
            · rw [show t = m by omega, Y.out]; exact (cmp_lt _ _).1 hyx, I.out.2⟩⟩
      · go_wp2_with (refine (cmp86_calls y s _).mono ?_; rintro e w' ⟨rfl, hb⟩; have HB2 := Aside0.mk (HB.out.trans (hb.mono HB.out.size)); clear HB hb)
        go_roundg (m - lo)
        case measure => omega
        case rel =>
          exact ⟨lo, m, rfl, rfl, by omega, by omega, Nat.le_refl _, HB2, ⟨I.out.1, fun t ht htn hh => by
            rcases Nat.lt_or_ge m t with h | h
            · exact absurd hyx (Int.not_le.2 <| (cmp_lt _ _).2 (by have := lt_trans (HS.out.lt h (by have := HN.out; omega)) hh; rwa [Y.out] at this))
            · rw [show t = m by omega, Y.out] at hh; exact absurd hyx (Int.not_le.2 <| (cmp_lt _ _).2 hh)⟩⟩
    · obtain rfl : hi = lo := by omega
      have hp : P = hi := by
        rw [HP.out]
        exact pos_of l s hi (by have := HN.out; omega) I.out.1 (fun t h1 h2 => I.out.2 t h1 (by have := HN.out; omega))
      have hh := HH.out
      rw [has_pos HS.out, ← HP.out, hp] at hh
      by_cases hn : hi < n
      · obtain ⟨ad, ea, hx0, hx1⟩ := at_T69 HR.out (hi : Int) (by omega) (by have := HN.out; omega)
        cases ea
        replace hx0 := (HB.out.cell (World.block_lt_of_cell? w _ hx0)).trans hx0
        replace hx1 := (HB.out.cell (World.block_lt_of_cell? w _ hx1)).trans hx1
        obtain ⟨y, hy⟩ : ∃ y, y = rd_T69 l (hi : Int) := ⟨_, rfl⟩
        rw [← hy] at hx0 hx1
        replace hx0 : wr.cell? (ad.add (hi * 2)) = some (.string y.f0) := hx0
        replace hx1 : wr.cell? ⟨(ad.add (hi * 2)).block, (ad.add (hi * 2)).off + 1, none⟩ = some (.int .i64 y.f1) := hx1
        rw [show l.getD hi z69 = y from by rw [hy]; rfl] at hh
        have hq : B = decide (Lib.compareBytes y.f0.data.toList s.data.toList = 0) := by
          rw [hh]
          have := HN.out
          simp only [show hi < l.length by omega, decide_true, Bool.true_and]
          exact decide_eq_decide.2 (cmp_eq0 _ _).symm
        clear hh hy HH
        subst hq
        clear HP
        subst hp
        go_wp2_with (refine (cmp86_calls y s _).mono ?_; rintro e w' ⟨rfl, hb⟩; have HB2 := Aside0.mk (HB.out.trans (hb.mono HB.out.size)); clear HB hb)
        go_ret2
        refine ⟨?_, HB2.out⟩
        first | rfl | (simp; done)
      · have hq : B = false := by
          rw [hh]
          have := HN.out
          simp [show ¬ hi < l.length by omega]
        clear hh HH HP
        subst hq
        subst hp
        go_wp2
        go_ret2
        exact ⟨rfl, HB.out⟩
set_option maxHeartbeats 4000000 in
set_option maxRecDepth 100000 in
theorem find_calls (A : Option Addr) (c : Nat) (l : List S69) (s : ByteArray) (hs : Srt l) (w : World) (hr : Kd.C k69 w A l.length l) (hc : l.length ≤ c) :
    Calls Try.prog 60 #[.slice A l.length c, .string s] w fun e w' => e = .returned (.tuple #[.int .i64 (pos l s : Nat), .bool (has l s)]) ∧ Below w.heap.size w w' := by
  have HX := Aside0.mk (fun w' => search_calls A c l s hs w')
  have HR := Aside0.mk hr
  clear hs hr
  go_enter Try.func60, Try.ntmps60
  go_wp2_with (refine (HX.out _ HR.out hc).mono ?_; rintro e w' ⟨rfl, hb⟩; have HB := Aside0.mk hb; clear hb)
  go_ret2
  exact ⟨rfl, HB.out⟩
end Go.Proofs.Ytnaddmkaakdhoaa.J

end
section
namespace Go.Proofs.Ytnaddmkaakdhoaa.Dk
open J
def put (l : List S69) (x : S69) : List S69 := l.take (pos l x.f0) ++ x :: l.drop (pos l x.f0)
def drop (l : List S69) (s : ByteArray) : List S69 := if has l s = true then l.eraseIdx (pos l s) else l
end Go.Proofs.Ytnaddmkaakdhoaa.Dk
namespace Go.Proofs.Ytnaddmkaakdhoaa.J
open Go.RowKit Go.Proofs.YtnaddmkaakdhoaaW.PrintWords Go.Proofs.YtnaddmkaakdhoaaW.PrintLast Go.Proofs.YtnaddmkaakdhoaaW.PrintMore
open Dk (Srt pos has)
set_option linter.unusedVariables false
set_option linter.unusedSimpArgs false

theorem grown_after {w w1 w2 : World} {r : Option Nat} (hb : Below w.heap.size w w1) (hg : w1.grownBy w2 r) : w.grownBy w2 r :=
  ⟨hg.os.trans hb.os, hg.tape.trans hb.tape, hg.output.trans hb.output, Nat.le_trans hb.size hg.size, fun k hk hr => (hg.block k (Nat.lt_of_lt_of_le hk hb.size) hr).trans (hb.block k hk)⟩
theorem Ins.after {w w1 : World} {T : Nat} {P : Nat → Prop} {v : Value} {l : List S69} {e : Ending} {w2 : World} (hb : Below w.heap.size w w1) (h : Ins w1 T P v l e w2) : Ins w T P v l e w2 := by
  obtain ⟨v', he, hr, hg, ha⟩ := h
  refine ⟨v', he, Kd.R_mono hr (fun k hk => hk.imp id (fun h => Nat.le_trans hb.size h)), grown_after hb hg, ha.imp id ?_⟩
  rintro ⟨b, e1, e2⟩
  exact ⟨b, e1, Nat.le_trans hb.size e2⟩
set_option maxHeartbeats 8000000 in
set_option maxRecDepth 100000 in
theorem put_calls (T : Nat) (P : Nat → Prop) (v : Value) (l : List S69) (x : S69) (w : World) (hs : Srt l) (hm : l.length ≤ 1000000) (hT : T ≤ w.heap.size) (h : Kd.R k69 69 w T P v l) :
    Calls Try.prog 105 #[v, .agg #[.string x.f0, .int .i64 x.f1]] w (Ins w T P v (Dk.put l x)) := by
  obtain ⟨A, c, rfl, hlc, hrd⟩ := Kd.R_reads h
  have H := Aside0.mk h
  have C := Aside0.mk hrd
  have S := Aside0.mk hs
  clear h hrd hs
  go_enter Try.func105, Try.ntmps105
  go_wp2_with fail
  refine (find_calls A c l x.f0 S.out _ (Kd.C_below C.out ((Below.refl _ _).alloc (Nat.le_refl _) _)) hlc).mono ?_
  rintro e w1 ⟨rfl, hb⟩
  have K1 := Aside0.mk (blk_below (blk_new w (.cells #[.string x.f0, .int .i64 x.f1] 69)) hb)
  have HB := Aside0.mk (below_step ((Below.refl w.heap.size w).alloc (Nat.le_refl _) _) hb)
  have z0 : w1.cell? ⟨w.heap.size, 0, none⟩ = some (.string x.f0) := (blk_cell K1.out 0).trans rfl
  have z1 : w1.cell? ⟨w.heap.size, 1, none⟩ = some (.int .i64 x.f1) := (blk_cell K1.out 1).trans rfl
  clear hb
  go_wp2_with fail
  have hB2 := (Below.refl w1.heap.size w1).alloc (Nat.le_refl _) (.cells #[.string x.f0, .int .i64 x.f1] 69)
  have H2 := Kd.R_below (Kd.R_below H.out HB.out) hB2
  have e1 : w1.heap.size ≤ (w1.alloc (.cells #[.string x.f0, .int .i64 x.f1] 69)).heap.size := hB2.size
  refine (insert_calls T P (.slice A l.length c) l (pos l x.f0) x w1.heap.size _ (Dk.pos_le _ _) hm (Nat.le_trans hT (Nat.le_trans HB.out.size e1)) H2 (blk_new w1 _) (fun he => ?_)).mono ?_
  · have ho := R69_own H.out
    have := own_lt ho _ he.symm
    have := HB.out.size
    omega
  rintro e w2 hi
  have HI := Aside0.mk (Ins.after HB.out (Ins.after hB2 hi))
  clear hi H2 hB2 e1
  obtain ⟨v', rfl, h1, h2, h3⟩ := HI.out
  go_wp2
  go_ret
  exact ⟨v', rfl, h1, h2, h3⟩
set_option maxHeartbeats 8000000 in
set_option maxRecDepth 100000 in
theorem drop_calls (T : Nat) (P : Nat → Prop) (v : Value) (l : List S69) (s : ByteArray) (w : World) (hs : Srt l) (h : Kd.R k69 69 w T P v l) :
    Calls Try.prog 106 #[v, .string s] w fun e w' => ∃ v', e = .returned v' ∧ Kd.R k69 69 w' T P v' (Dk.drop l s) ∧ w.grownBy w' v.ownBlock ∧ v'.ownBlock = v.ownBlock := by
  obtain ⟨A, c, rfl, hlc, hrd⟩ := Kd.R_reads h
  have H := Aside0.mk h
  have C := Aside0.mk hrd
  have S := Aside0.mk hs
  clear h hrd hs
  obtain ⟨b, hb⟩ : ∃ b, b = has l s := ⟨_, rfl⟩
  have hpl : has l s = true → pos l s < l.length := fun h => by
    rw [Dk.has_pos S.out] at h
    simp at h
    exact h.1
  have FC := Aside0.mk (fun w' hC => (find_calls A c l s S.out w' hC hlc))
  by_cases hh : has l s = true
  · have hlt := hpl hh
    rw [hh] at FC
    have E := Aside0.mk (show Dk.drop l s = l.eraseIdx (pos l s) from if_pos hh)
    clear hpl hh hb
    have hlen : l.length ≤ 9223372036854775807 := C.out.2.1
    obtain ⟨p, hp⟩ : ∃ p, p = pos l s := ⟨_, rfl⟩
    obtain ⟨q, hq⟩ : ∃ q, q = p + 1 := ⟨_, rfl⟩
    rw [← hp] at FC hlt E
    have hp1 : (p : Int) + 1 = (q : Int) := by omega
    have Q := Aside0.mk hq
    clear hp hq
    go_enter Try.func106, Try.ntmps106
    go_wp2_with fail
    refine (FC.out _ C.out).mono ?_
    rintro e w1 ⟨rfl, hb⟩
    have HB := Aside0.mk hb
    clear hb
    go_wp2_with fail
    refine (delete_calls T P (.slice A l.length c) l p q hlt Q.out w1 (Kd.R_below H.out HB.out)).mono ?_
    rintro e w2 ⟨v', rfl, h1, h2, h3⟩
    have H1 := Aside0.mk h1
    have H2 := Aside0.mk (grown_after HB.out h2)
    have H3 := Aside0.mk h3
    clear h1 h2 h3
    go_wp2
    go_ret
    exact ⟨v', rfl, by rw [E.out]; exact H1.out, H2.out, H3.out⟩
  · have hf : has l s = false := by simpa using hh
    rw [hf] at FC
    have E := Aside0.mk (show Dk.drop l s = l from if_neg hh)
    clear hpl hh hb hf
    go_enter Try.func106, Try.ntmps106
    go_wp2_with fail
    refine (FC.out _ C.out).mono ?_
    rintro e w1 ⟨rfl, hb⟩
    have HB := Aside0.mk hb
    clear hb
    go_wp2
    go_ret
    exact ⟨_, rfl, by rw [E.out]; exact Kd.R_below H.out HB.out, grown_after HB.out (World.grownBy.refl _ _), rfl⟩
end Go.Proofs.Ytnaddmkaakdhoaa.J

end
section
namespace Go.Proofs.Ytnaddmkaakdhoaa.Dk
open Go.Proofs.YtnaddmkaakdhoaaW.PrintWords
def okc (c : Int) : Bool := decide (65 ≤ c ∧ c ≤ 90 ∨ 97 ≤ c ∧ c ≤ 122 ∨ 48 ≤ c ∧ c ≤ 57 ∨ c = 46 ∨ c = 45 ∨ c = 95)
def vname (s : ByteArray) : Bool := decide (1 ≤ s.size) && decide (s.size ≤ 40) && (List.range s.size).all (fun i => okc (bt s i))
theorem vname_true {s : ByteArray} (h1 : 1 ≤ s.size) (h2 : s.size ≤ 40) (h : ∀ j, j < s.size → okc (bt s (j : Nat)) = true) : vname s = true := by
  simp only [vname, h1, h2, decide_true, Bool.true_and, List.all_eq_true, List.mem_range]
  exact h
theorem vname_byte {s : ByteArray} {i : Nat} (hi : i < s.size) (h : okc (bt s i) = false) : vname s = false := by
  rw [Bool.eq_false_iff]
  intro k
  simp only [vname, Bool.and_eq_true, List.all_eq_true, List.mem_range] at k
  rw [k.2 i hi] at h
  cases h
theorem vname_size {s : ByteArray} (h : ¬ (1 ≤ s.size ∧ s.size ≤ 40)) : vname s = false := by
  rw [Bool.eq_false_iff]
  intro k
  simp only [vname, Bool.and_eq_true, decide_eq_true_eq] at k
  exact h k.1
end Go.Proofs.Ytnaddmkaakdhoaa.Dk
namespace Go.Proofs.Ytnaddmkaakdhoaa.J
open Go.RowKit Go.Proofs.YtnaddmkaakdhoaaW.PrintWords Go.Proofs.YtnaddmkaakdhoaaW.PrintLast Go.Proofs.YtnaddmkaakdhoaaW.PrintMore
open Dk (vname okc)
set_option linter.unusedVariables false
set_option linter.unusedSimpArgs false

set_option maxHeartbeats 8000000 in
set_option maxRecDepth 100000 in
theorem vname88_quiet (s : ByteArray) (w : World) : Calls Try.prog 88 #[.string s] w fun e w' => e = .returned (.bool (vname s)) ∧ Drawn0 w w' := by
  by_cases hs : 1 ≤ s.size ∧ s.size ≤ 40
  · obtain ⟨r, hr⟩ : ∃ r, r = vname s := ⟨_, rfl⟩
    rw [← hr]
    have HR := Aside0.mk hr
    obtain ⟨h1, h2⟩ := hs
    clear hr
    go_enter Try.func88, Try.ntmps88
    go_wp2
    go_loopg [3] s.size (fun kx s3 wr => ∃ i : Nat, s3 = .int .i64 i ∧ i ≤ s.size ∧ s.size - i ≤ kx ∧ Aside0 (∀ j, j < i → okc (bt s (j : Nat)) = true) ∧ Drawn0 w wr)
    case atStart => exact ⟨0, rfl, Nat.zero_le _, by omega, ⟨fun j hj => absurd hj (Nat.not_lt_zero _)⟩, Drawn0.refl _⟩
    case round =>
      obtain ⟨i, rfl, hi, hk, hA, ⟨m, rfl⟩⟩ := hrel
      by_cases hlt : i < s.size
      · have hx : ∀ h : i < s.size, ((s[i]'h).toNat : Int) = bt s i := fun h => bt_at s i h
        obtain ⟨y, hy⟩ : ∃ y, y = bt s i := ⟨_, rfl⟩
        have Y := Aside0.mk hy
        rw [← hy] at hx
        clear hy
        go_wp2
        all_goals first
          | (have ho : okc y = true := by
              clear hx
              simp only [okc, decide_eq_true_eq]
              try simp only [Bool.not_eq_eq_eq_not, Bool.not_true, Bool.not_false, decide_eq_true_eq, decide_eq_false_iff_not, beq_iff_eq, beq_eq_false_iff_ne] at *
              omega
             go_roundg (s.size - i - 1)
             case measure => omega
             case rel => exact ⟨i + 1, by first | rfl | (simp; done), hlt, by omega, ⟨fun j hj => by
                rcases Nat.lt_or_ge j i with h | h
                · exact hA.out j h
                · rw [show j = i by omega, ← Y.out]; exact ho⟩, by repeat (first | exact Drawn0.refl _ | apply Drawn0.step)⟩)
          | (have ho : okc y = false := by
              clear hx
              simp only [okc, decide_eq_false_iff_not]
              try simp only [Bool.not_eq_eq_eq_not, Bool.not_true, Bool.not_false, decide_eq_true_eq, decide_eq_false_iff_not, beq_iff_eq, beq_eq_false_iff_ne] at *
              omega
             go_ret
             exact ⟨by rw [HR.out, Dk.vname_byte hlt (by rw [← Y.out]; exact ho)]; first | rfl | (simp; done), ⟨m, rfl⟩⟩)
      · have ht : r = true := by rw [HR.out]; exact Dk.vname_true h1 h2 (fun j hj => hA.out j (by omega))
        subst ht
        clear HR hA
        go_wp2
        go_ret
        exact ⟨rfl, ⟨m, rfl⟩⟩
  · rw [Dk.vname_size hs]
    have hs' : s.size < 1 ∨ 40 < s.size := by omega
    rcases hs' with h | h
    · go_enter Try.func88, Try.ntmps88
      go_wp2
      all_goals (go_ret; exact ⟨by first | rfl | (simp; done), by repeat (first | exact Drawn0.refl _ | apply Drawn0.step)⟩)
    · have h' : ¬ s.size < 1 := by omega
      go_enter Try.func88, Try.ntmps88
      go_wp2
      all_goals (go_ret; exact ⟨by first | rfl | (simp; done), by repeat (first | exact Drawn0.refl _ | apply Drawn0.step)⟩)
theorem vname88_calls (s : ByteArray) (w : World) : Calls Try.prog 88 #[.string s] w fun e w' => e = .returned (.bool (vname s)) ∧ Below w.heap.size w w' := by
  refine (vname88_quiet s w).mono ?_
  rintro e w' ⟨rfl, ⟨m, rfl⟩⟩
  exact ⟨rfl, pw_below_drewN (Below.refl _ _) m⟩

set_option maxHeartbeats 8000000 in
set_option maxRecDepth 100000 in
theorem vname82_quiet (s : ByteArray) (w : World) : Calls Try.prog 82 #[.string s] w fun e w' => e = .returned (.bool (vname s)) ∧ Drawn0 w w' := by
  by_cases hs : 1 ≤ s.size ∧ s.size ≤ 40
  · obtain ⟨r, hr⟩ : ∃ r, r = vname s := ⟨_, rfl⟩
    rw [← hr]
    have HR := Aside0.mk hr
    obtain ⟨h1, h2⟩ := hs
    clear hr
    go_enter Try.func82, Try.ntmps82
    go_wp2
    go_loopg [3] s.size (fun kx s3 wr => ∃ i : Nat, s3 = .int .i64 i ∧ i ≤ s.size ∧ s.size - i ≤ kx ∧ Aside0 (∀ j, j < i → okc (bt s (j : Nat)) = true) ∧ Drawn0 w wr)
    case atStart => exact ⟨0, rfl, Nat.zero_le _, by omega, ⟨fun j hj => absurd hj (Nat.not_lt_zero _)⟩, Drawn0.refl _⟩
    case round =>
      obtain ⟨i, rfl, hi, hk, hA, ⟨m, rfl⟩⟩ := hrel
      by_cases hlt : i < s.size
      · have hx : ∀ h : i < s.size, ((s[i]'h).toNat : Int) = bt s i := fun h => bt_at s i h
        obtain ⟨y, hy⟩ : ∃ y, y = bt s i := ⟨_, rfl⟩
        have Y := Aside0.mk hy
        rw [← hy] at hx
        clear hy
        go_wp2
        all_goals first
          | (have ho : okc y = true := by
              clear hx
              simp only [okc, decide_eq_true_eq]
              try simp only [Bool.not_eq_eq_eq_not, Bool.not_true, Bool.not_false, decide_eq_true_eq, decide_eq_false_iff_not, beq_iff_eq, beq_eq_false_iff_ne] at *
              omega
             go_roundg (s.size - i - 1)
             case measure => omega
             case rel => exact ⟨i + 1, by first | rfl | (simp; done), hlt, by omega, ⟨fun j hj => by
                rcases Nat.lt_or_ge j i with h | h
                · exact hA.out j h
                · rw [show j = i by omega, ← Y.out]; exact ho⟩, by repeat (first | exact Drawn0.refl _ | apply Drawn0.step)⟩)
          | (have ho : okc y = false := by
              clear hx
              simp only [okc, decide_eq_false_iff_not]
              try simp only [Bool.not_eq_eq_eq_not, Bool.not_true, Bool.not_false, decide_eq_true_eq, decide_eq_false_iff_not, beq_iff_eq, beq_eq_false_iff_ne] at *
              omega
             go_ret
             exact ⟨by rw [HR.out, Dk.vname_byte hlt (by rw [← Y.out]; exact ho)]; first | rfl | (simp; done), ⟨m, rfl⟩⟩)
      · have ht : r = true := by rw [HR.out]; exact Dk.vname_true h1 h2 (fun j hj => hA.out j (by omega))
        subst ht
        clear HR hA
        go_wp2
        go_ret
        exact ⟨rfl, ⟨m, rfl⟩⟩
  · rw [Dk.vname_size hs]
    have hs' : s.size < 1 ∨ 40 < s.size := by omega
    rcases hs' with h | h
    · go_enter Try.func82, Try.ntmps82
      go_wp2
      all_goals (go_ret; exact ⟨by first | rfl | (simp; done), by repeat (first | exact Drawn0.refl _ | apply Drawn0.step)⟩)
    · have h' : ¬ s.size < 1 := by omega
      go_enter Try.func82, Try.ntmps82
      go_wp2
      all_goals (go_ret; exact ⟨by first | rfl | (simp; done), by repeat (first | exact Drawn0.refl _ | apply Drawn0.step)⟩)
theorem vname82_calls (s : ByteArray) (w : World) : Calls Try.prog 82 #[.string s] w fun e w' => e = .returned (.bool (vname s)) ∧ Below w.heap.size w w' := by
  refine (vname82_quiet s w).mono ?_
  rintro e w' ⟨rfl, ⟨m, rfl⟩⟩
  exact ⟨rfl, pw_below_drewN (Below.refl _ _) m⟩
end Go.Proofs.Ytnaddmkaakdhoaa.J

end
section
namespace Go.Proofs.Ytnaddmkaakdhoaa.Dk
open J
def em (s : ByteArray) : Bool := s.toList.isEmpty
def fieldsOK (o : S49) : Bool :=
  if o.f0 = 1 ∨ o.f0 = 3 ∨ o.f0 = 5 then em o.f2 && em o.f3 else if o.f0 = 2 then em o.f2 else if o.f0 = 4 then em o.f3 else if o.f0 = 6 then em o.f1 && em o.f2 && em o.f3 else false
def crt (l : List S49) : Nat := l.countP (fun o => decide (o.f0 = 1))
end Go.Proofs.Ytnaddmkaakdhoaa.Dk
namespace Go.Proofs.Ytnaddmkaakdhoaa.J
open Go.RowKit Go.Proofs.YtnaddmkaakdhoaaW.PrintWords Go.Proofs.YtnaddmkaakdhoaaW.PrintLast Go.Proofs.YtnaddmkaakdhoaaW.PrintMore
open Dk (fieldsOK em crt)
set_option linter.unusedVariables false
set_option linter.unusedSimpArgs false
set_option maxHeartbeats 8000000 in
set_option maxRecDepth 100000 in
theorem fields_calls (o : S49) (w : World) : Calls Try.prog 91 #[.agg #[.int .i64 o.f0, .string o.f1, .string o.f2, .string o.f3]] w fun e w' => e = .returned (.bool (fieldsOK o)) ∧ Below w.heap.size w w' := by
  obtain ⟨k, n, t, d⟩ := o
  obtain ⟨r, hr⟩ : ∃ r, r = fieldsOK ⟨k, n, t, d⟩ := ⟨_, rfl⟩
  rw [← hr]
  have HR := Aside0.mk hr
  clear hr
  simp only
  go_enter Try.func91, Try.ntmps91
  go_wp2
  all_goals
    go_ret
    refine ⟨?_, (Below.refl _ _).alloc (Nat.le_refl _) _⟩
    have e := HR.out
    clear HR
    simp only [beq_iff_eq, beq_eq_false_iff_ne] at *
    subst e
    simp [fieldsOK, em, *]
set_option maxHeartbeats 8000000 in
set_option maxRecDepth 100000 in
theorem created_calls (A : Option Addr) (c : Nat) (l : List S49) (w : World) (hr : Kd.C k49 w A l.length l) (hc : l.length ≤ c) :
    Calls Try.prog 62 #[.slice A l.length c] w fun e w' => e = .returned (.int .i64 (crt l : Nat)) ∧ Below w.heap.size w w' := by
  have HR := Aside0.mk hr
  have hlen : l.length ≤ 9223372036854775807 := HR.out.2.1
  obtain ⟨n, hn⟩ : ∃ n, n = l.length := ⟨_, rfl⟩
  obtain ⟨r, hr⟩ : ∃ r, r = crt l := ⟨_, rfl⟩
  rw [← hr]
  have HN := Aside0.mk hn
  have HC := Aside0.mk hr
  have HB := Aside0.mk (Below.refl w.heap.size w)
  rw [← hn] at hlen hc ⊢
  clear hr hn
  go_enter Try.func62, Try.ntmps62
  go_wp2_with fail
  go_loopg [3, 8] n (fun kx s3 s8 wr => ∃ q i : Nat, s3 = .int .i64 q ∧ s8 = .int .i64 i ∧ i ≤ n ∧ q ≤ i ∧ n - i ≤ kx ∧ Aside0 (q = crt (l.take i)) ∧ Aside0 (Below w.heap.size w wr))
  case atStart => exact ⟨0, 0, rfl, rfl, Nat.zero_le _, Nat.le_refl _, by omega, ⟨rfl⟩, HB⟩
  case round =>
    clear HB
    obtain ⟨q, i, rfl, rfl, hi, hq, hk, hQ, HB⟩ := hrel
    by_cases hlt : i < n
    · obtain ⟨ad, ea, hx0, hx1, hx2, hx3⟩ := at_T49 HR.out (i : Int) (by omega) (by have := HN.out; omega)
      cases ea
      obtain ⟨y, hy⟩ : ∃ y, y = rd_T49 l (i : Int) := ⟨_, rfl⟩
      rw [← hy] at hx0 hx1 hx2 hx3
      have hy2 : l[i]? = some y := by
        have : i < l.length := by have := HN.out; omega
        rw [List.getElem?_eq_getElem this, hy]
        show some _ = some (l.getD i z49)
        rw [List.getD_eq_getElem?_getD, List.getElem?_eq_getElem this]
        rfl
      have Y := Aside0.mk hy2
      clear hy hy2
      replace hx0 : wr.cell? (ad.add (i * 4)) = some (.int .i64 y.f0) := (HB.out.cell (World.block_lt_of_cell? w _ hx0)).trans hx0
      replace hx1 : wr.cell? ⟨(ad.add (i * 4)).block, (ad.add (i * 4)).off + 1, none⟩ = some (.string y.f1) := (HB.out.cell (World.block_lt_of_cell? w _ hx1)).trans hx1
      replace hx2 : wr.cell? ⟨(ad.add (i * 4)).block, (ad.add (i * 4)).off + 2, none⟩ = some (.string y.f2) := (HB.out.cell (World.block_lt_of_cell? w _ hx2)).trans hx2
      replace hx3 : wr.cell? ⟨(ad.add (i * 4)).block, (ad.add (i * 4)).off + 3, none⟩ = some (.string y.f3) := (HB.out.cell (World.block_lt_of_cell? w _ hx3)).trans hx3
      have hT : crt (l.take (i + 1)) = crt (l.take i) + (if y.f0 = 1 then 1 else 0) := by
        unfold Dk.crt
        rw [List.take_add_one, Y.out, List.countP_append]
        by_cases h : y.f0 = 1 <;> simp [h]
      have HT := Aside0.mk hT
      clear hT
      by_cases h1 : y.f0 = 1
      · go_wp2
        go_roundg (n - i - 1)
        case measure => omega
        case rel => exact ⟨q + 1, i + 1, by first | rfl | (simp; done), by first | rfl | (simp; done), by omega, by omega, by omega, ⟨by rw [HT.out, hQ.out, if_pos h1]⟩, ⟨by repeat (first | exact HB.out | (apply Below.setCell _ HB.out.size) | (apply below_alloc))⟩⟩
      · go_wp2
        go_roundg (n - i - 1)
        case measure => omega
        case rel => exact ⟨q, i + 1, by first | rfl | (simp; done), by first | rfl | (simp; done), by omega, by omega, by omega, ⟨by rw [HT.out, hQ.out, if_neg h1]; rfl⟩, ⟨by repeat (first | exact HB.out | (apply Below.setCell _ HB.out.size) | (apply below_alloc))⟩⟩
    · have e : r = q := by rw [HC.out, hQ.out, List.take_of_length_le (by have := HN.out; omega)]
      subst e
      go_wp2
      go_ret
      exact ⟨rfl, HB.out⟩
set_option maxHeartbeats 8000000 in
set_option maxRecDepth 100000 in
theorem creates_calls (A : Option Addr) (c : Nat) (l : List S49) (w : World) (hr : Kd.C k49 w A l.length l) (hc : l.length ≤ c) :
    Calls Try.prog 67 #[.slice A l.length c] w fun e w' => e = .returned (.int .i64 (crt l : Nat)) ∧ Below w.heap.size w w' := by
  have HR := Aside0.mk hr
  have hlen : l.length ≤ 9223372036854775807 := HR.out.2.1
  obtain ⟨n, hn⟩ : ∃ n, n = l.length := ⟨_, rfl⟩
  obtain ⟨r, hr⟩ : ∃ r, r = crt l := ⟨_, rfl⟩
  rw [← hr]
  have HN := Aside0.mk hn
  have HC := Aside0.mk hr
  have HB := Aside0.mk (Below.refl w.heap.size w)
  rw [← hn] at hlen hc ⊢
  clear hr hn
  go_enter Try.func67, Try.ntmps67
  go_wp2_with fail
  go_loopg [3, 8] n (fun kx s3 s8 wr => ∃ q i : Nat, s3 = .int .i64 q ∧ s8 = .int .i64 i ∧ i ≤ n ∧ q ≤ i ∧ n - i ≤ kx ∧ Aside0 (q = crt (l.take i)) ∧ Aside0 (Below w.heap.size w wr))
  case atStart => exact ⟨0, 0, rfl, rfl, Nat.zero_le _, Nat.le_refl _, by omega, ⟨rfl⟩, HB⟩
  case round =>
    clear HB
    obtain ⟨q, i, rfl, rfl, hi, hq, hk, hQ, HB⟩ := hrel
    by_cases hlt : i < n
    · obtain ⟨ad, ea, hx0, hx1, hx2, hx3⟩ := at_T49 HR.out (i : Int) (by omega) (by have := HN.out; omega)
      cases ea
      obtain ⟨y, hy⟩ : ∃ y, y = rd_T49 l (i : Int) := ⟨_, rfl⟩
      rw [← hy] at hx0 hx1 hx2 hx3
      have hy2 : l[i]? = some y := by
        have : i < l.length := by have := HN.out; omega
        rw [List.getElem?_eq_getElem this, hy]
        show some _ = some (l.getD i z49)
        rw [List.getD_eq_getElem?_getD, List.getElem?_eq_getElem this]
        rfl
      have Y := Aside0.mk hy2
      clear hy hy2
      replace hx0 : wr.cell? (ad.add (i * 4)) = some (.int .i64 y.f0) := (HB.out.cell (World.block_lt_of_cell? w _ hx0)).trans hx0
      replace hx1 : wr.cell? ⟨(ad.add (i * 4)).block, (ad.add (i * 4)).off + 1, none⟩ = some (.string y.f1) := (HB.out.cell (World.block_lt_of_cell? w _ hx1)).trans hx1
      replace hx2 : wr.cell? ⟨(ad.add (i * 4)).block, (ad.add (i * 4)).off + 2, none⟩ = some (.string y.f2) := (HB.out.cell (World.block_lt_of_cell? w _ hx2)).trans hx2
      replace hx3 : wr.cell? ⟨(ad.add (i * 4)).block, (ad.add (i * 4)).off + 3, none⟩ = some (.string y.f3) := (HB.out.cell (World.block_lt_of_cell? w _ hx3)).trans hx3
      have hT : crt (l.take (i + 1)) = crt (l.take i) + (if y.f0 = 1 then 1 else 0) := by
        unfold Dk.crt
        rw [List.take_add_one, Y.out, List.countP_append]
        by_cases h : y.f0 = 1 <;> simp [h]
      have HT := Aside0.mk hT
      clear hT
      by_cases h1 : y.f0 = 1
      · go_wp2
        go_roundg (n - i - 1)
        case measure => omega
        case rel => exact ⟨q + 1, i + 1, by first | rfl | (simp; done), by first | rfl | (simp; done), by omega, by omega, by omega, ⟨by rw [HT.out, hQ.out, if_pos h1]⟩, ⟨by repeat (first | exact HB.out | (apply Below.setCell _ HB.out.size) | (apply below_alloc))⟩⟩
      · go_wp2
        go_roundg (n - i - 1)
        case measure => omega
        case rel => exact ⟨q, i + 1, by first | rfl | (simp; done), by first | rfl | (simp; done), by omega, by omega, by omega, ⟨by rw [HT.out, hQ.out, if_neg h1]; rfl⟩, ⟨by repeat (first | exact HB.out | (apply Below.setCell _ HB.out.size) | (apply below_alloc))⟩⟩
    · have e : r = q := by rw [HC.out, hQ.out, List.take_of_length_le (by have := HN.out; omega)]
      subst e
      go_wp2
      go_ret
      exact ⟨rfl, HB.out⟩
end Go.Proofs.Ytnaddmkaakdhoaa.J

end
section
namespace Go.Proofs.Ytnaddmkaakdhoaa.Dk
open J
theorem Srt.erase {l : List S69} (h : Srt l) (i : Nat) : Srt (l.eraseIdx i) := List.Pairwise.sublist (List.eraseIdx_sublist l i) h
theorem Srt.drop {l : List S69} (h : Srt l) (s : ByteArray) : Srt (Dk.drop l s) := by
  unfold Dk.drop
  split
  · exact h.erase _
  · exact h
theorem drop_length (l : List S69) (s : ByteArray) : (Dk.drop l s).length ≤ l.length := by
  unfold Dk.drop
  split
  · exact (List.eraseIdx_sublist l _).length_le
  · exact Nat.le_refl _
def chg (l : List S69) (o : S49) (ino : Int) : List S69 × Int :=
  if o.f0 = 1 then (if vname o.f1 = true then (if has l o.f1 = true then ([], 5) else (put l ⟨o.f1, ino⟩, 0)) else ([], 4))
  else if o.f0 = 4 then (if has l o.f1 = true then (if vname o.f2 = true then (if o.f2.toList = o.f1.toList then ([], 1) else (put (Dk.drop (Dk.drop l o.f1) o.f2) ⟨o.f2, (l.getD (pos l o.f1) z69).f1⟩, 0)) else ([], 4)) else ([], 11))
  else if has l o.f1 = true then (Dk.drop l o.f1, 0) else ([], 11)
end Go.Proofs.Ytnaddmkaakdhoaa.Dk
namespace Go.Proofs.Ytnaddmkaakdhoaa.J
open Go.RowKit Go.Proofs.YtnaddmkaakdhoaaW.PrintWords Go.Proofs.YtnaddmkaakdhoaaW.PrintLast Go.Proofs.YtnaddmkaakdhoaaW.PrintMore
open Dk (Srt pos has vname chg)
set_option linter.unusedVariables false
set_option linter.unusedSimpArgs false

structure OwnAt (w : World) (T : Nat) (P : Nat → Prop) (v0 : Value) (W : World) (v : Value) (l : List S69) : Prop where
  row : Kd.R k69 69 W T (fun k => P k ∨ w.heap.size ≤ k) v l
  grown : w.grownBy W v0.ownBlock
  at_ : v.ownBlock = v0.ownBlock ∨ v.ownBlock = none ∨ ∃ b, v.ownBlock = some b ∧ w.heap.size ≤ b
theorem OwnAt.start {w : World} {T : Nat} {P : Nat → Prop} {v : Value} {l : List S69} (h : Kd.R k69 69 w T P v l) : OwnAt w T P v w v l :=
  ⟨Kd.R_mono h (fun _ hk => .inl hk), World.grownBy.refl _ _, .inl rfl⟩
theorem OwnAt.below {w : World} {T : Nat} {P : Nat → Prop} {v0 : Value} {W : World} {v : Value} {l : List S69} {W' : World} (h : OwnAt w T P v0 W v l) (hb : Below W.heap.size W W') : OwnAt w T P v0 W' v l :=
  ⟨Kd.R_below h.row hb, ⟨hb.os.trans h.grown.os, hb.tape.trans h.grown.tape, hb.output.trans h.grown.output, Nat.le_trans h.grown.size hb.size, fun k hk hr => (hb.block k (Nat.lt_of_lt_of_le hk h.grown.size)).trans (h.grown.block k hk hr)⟩, h.at_⟩
theorem OwnAt.grownBy {w : World} {T : Nat} {P : Nat → Prop} {v0 : Value} {W : World} {v : Value} {l : List S69} {W' : World} (h : OwnAt w T P v0 W v l) (g : W.grownBy W' v.ownBlock) : w.grownBy W' v0.ownBlock :=
  ⟨g.os.trans h.grown.os, g.tape.trans h.grown.tape, g.output.trans h.grown.output, Nat.le_trans h.grown.size g.size, fun k hk hr => (g.block k (Nat.lt_of_lt_of_le hk h.grown.size) (by
    rcases h.at_ with e | e | ⟨b, e, hb⟩
    · rw [e]; exact hr
    · rw [e]; simp
    · rw [e]; intro e2; injection e2 with e2; omega)).trans (h.grown.block k hk hr)⟩
theorem OwnAt.drop {w : World} {T : Nat} {P : Nat → Prop} {v0 : Value} {W : World} {v : Value} {l l' : List S69} {W' : World} {v' : Value} (h : OwnAt w T P v0 W v l) (hr : Kd.R k69 69 W' T (fun k => P k ∨ w.heap.size ≤ k) v' l') (g : W.grownBy W' v.ownBlock) (ha : v'.ownBlock = v.ownBlock) : OwnAt w T P v0 W' v' l' :=
  ⟨hr, h.grownBy g, by rw [ha]; exact h.at_⟩
theorem OwnAt.put {w : World} {T : Nat} {P : Nat → Prop} {v0 : Value} {W : World} {v : Value} {l l' : List S69} {W' : World} {v' : Value} (h : OwnAt w T P v0 W v l) (hr : Kd.R k69 69 W' T (fun k => (P k ∨ w.heap.size ≤ k) ∨ W.heap.size ≤ k) v' l') (g : W.grownBy W' v.ownBlock) (ha : v'.ownBlock = v.ownBlock ∨ ∃ b, v'.ownBlock = some b ∧ W.heap.size ≤ b) : OwnAt w T P v0 W' v' l' :=
  ⟨Kd.R_mono hr (fun k hk => by
    rcases hk with hk | hk
    · exact hk
    · exact .inr (Nat.le_trans h.grown.size hk)), h.grownBy g, by
    rcases ha with e | ⟨b, e, hb⟩
    · rw [e]; exact h.at_
    · exact .inr (.inr ⟨b, e, Nat.le_trans h.grown.size hb⟩)⟩
theorem OwnAt.nil {w : World} {T : Nat} {P : Nat → Prop} {v0 : Value} {W : World} {v : Value} {l : List S69} (h : OwnAt w T P v0 W v l) : OwnAt w T P v0 W (.slice none 0 0) [] :=
  ⟨Kd.R_nil _ _ _ _ _, h.grown, .inr (.inl rfl)⟩
theorem OwnAt.block {w : World} {T : Nat} {P : Nat → Prop} {v0 : Value} {W : World} {v : Value} {l : List S69} (h : OwnAt w T P v0 W v l) {g : Nat} {o : Obj} (hg : w.heap[g]? = some o) (hne : some g ≠ v0.ownBlock) : W.heap[g]? = some o :=
  (h.grown.block g (blk_lt hg) hne).trans hg
theorem OwnAt.trans {w : World} {T : Nat} {P : Nat → Prop} {v0 : Value} {W : World} {v : Value} {l : List S69} {W' : World} {v' : Value} {l' : List S69} (h : OwnAt w T P v0 W v l) (k : OwnAt W T (fun k => P k ∨ w.heap.size ≤ k) v W' v' l') : OwnAt w T P v0 W' v' l' :=
  ⟨Kd.R_mono k.row (fun q hq => by
    rcases hq with hq | hq
    · exact hq
    · exact .inr (Nat.le_trans h.grown.size hq)), h.grownBy k.grown, by
    rcases k.at_ with e | e | ⟨b, e, hb⟩
    · rw [e]; exact h.at_
    · exact .inr (.inl e)
    · exact .inr (.inr ⟨b, e, Nat.le_trans h.grown.size hb⟩)⟩
theorem OwnAt.back {w w1 : World} {T : Nat} {P : Nat → Prop} {v0 : Value} {W : World} {v : Value} {l : List S69} (hb : Below w.heap.size w w1) (h : OwnAt w1 T P v0 W v l) : OwnAt w T P v0 W v l :=
  ⟨Kd.R_mono h.row (fun k hk => hk.imp id (Nat.le_trans hb.size)), grown_after hb h.grown, by
    rcases h.at_ with e | e | ⟨b, e, hk⟩
    · exact .inl e
    · exact .inr (.inl e)
    · exact .inr (.inr ⟨b, e, Nat.le_trans hb.size hk⟩)⟩

set_option maxHeartbeats 8000000 in
set_option maxRecDepth 100000 in
theorem change_calls (T : Nat) (P : Nat → Prop) (v : Value) (l : List S69) (o : S49) (ino : Int) (w : World) (hs : Srt l) (hm : l.length ≤ 1000000) (hT : T ≤ w.heap.size) (h : Kd.R k69 69 w T P v l) :
    Calls Try.prog 92 #[v, .agg #[.int .i64 o.f0, .string o.f1, .string o.f2, .string o.f3], .int .i64 ino] w fun e w' => ∃ v', e = .returned (.tuple #[v', .int .i64 (chg l o ino).2]) ∧ OwnAt w T P v w' v' (chg l o ino).1 := by
  obtain ⟨A, c, rfl, hlc, hrd⟩ := Kd.R_reads h
  have C := Aside0.mk hrd
  have S := Aside0.mk hs
  have hlen : l.length ≤ 9223372036854775807 := by omega
  obtain ⟨n, hn⟩ : ∃ n, n = l.length := ⟨_, rfl⟩
  obtain ⟨p, hp⟩ : ∃ p, p = pos l o.f1 := ⟨_, rfl⟩
  obtain ⟨b, hb⟩ : ∃ b, b = has l o.f1 := ⟨_, rfl⟩
  obtain ⟨r, hr⟩ : ∃ r, r = chg l o ino := ⟨_, rfl⟩
  have F := Aside0.mk (fun w' hC => find_calls A c l o.f1 hs w' hC hlc)
  rw [← hp, ← hb] at F
  rw [← hr]
  have HP := Aside0.mk hp
  have HBh := Aside0.mk hb
  have HR := Aside0.mk hr
  have H := Aside0.mk h
  clear hrd hs hp hb hr h
  go_enter Try.func92, Try.ntmps92
  go_wp2_with fail
  refine (F.out _ (Kd.C_below C.out ((Below.refl _ _).alloc (Nat.le_refl _) _))).mono ?_
  rintro e w1 ⟨rfl, hb1⟩
  have K1 := Aside0.mk (blk_below (blk_new w (.cells #[.int .i64 o.f0, .string o.f1, .string o.f2, .string o.f3] 49)) hb1)
  have HB := Aside0.mk (below_step ((Below.refl w.heap.size w).alloc (Nat.le_refl _) _) hb1)
  have z0 : w1.cell? ⟨w.heap.size, 0, none⟩ = some (.int .i64 o.f0) := (blk_cell K1.out 0).trans rfl
  have z1 : w1.cell? ⟨w.heap.size, 1, none⟩ = some (.string o.f1) := (blk_cell K1.out 1).trans rfl
  have z2 : w1.cell? ⟨w.heap.size, 2, none⟩ = some (.string o.f2) := (blk_cell K1.out 2).trans rfl
  have z3 : w1.cell? ⟨w.heap.size, 3, none⟩ = some (.string o.f3) := (blk_cell K1.out 3).trans rfl
  have O1 := Aside0.mk (OwnAt.start (Kd.R_below H.out HB.out))
  have hg : w.heap.size < w1.heap.size := blk_lt (o := .cells #[.int .i64 o.f0, .string o.f1, .string o.f2, .string o.f3] 49) K1.out
  have hT1 : T ≤ w1.heap.size := by omega
  have NE := Aside0.mk (show some w.heap.size ≠ (Value.slice A l.length c).ownBlock from fun e => by have := own_lt (R69_own H.out) _ e.symm; omega)
  clear hb1 F H
  by_cases hk1 : o.f0 = 1
  · obtain ⟨q, hq⟩ : ∃ q, q = vname o.f1 := ⟨_, rfl⟩
    have V := Aside0.mk (fun w' => vname88_calls o.f1 w')
    rw [← hq] at V
    have e := HR.out
    unfold Dk.chg at e
    rw [if_pos hk1, ← hq, ← HBh.out] at e
    clear HR hq
    cases q with
    | false =>
      rw [if_neg (by simp)] at e
      have E := Aside0.mk e
      clear e
      go_wp2_with fail
      refine (V.out _).mono ?_
      rintro e w2 ⟨rfl, hb2⟩
      have O2 := Aside0.mk (O1.out.below hb2)
      clear hb2
      go_wp2
      go_ret2
      exact ⟨_, by rw [E.out]; rfl, by rw [E.out]; exact O2.out.nil.back HB.out⟩
    | true =>
      rw [if_pos rfl] at e
      cases b with
      | true =>
        rw [if_pos rfl] at e
        have E := Aside0.mk e
        clear e
        go_wp2_with fail
        refine (V.out _).mono ?_
        rintro e w2 ⟨rfl, hb2⟩
        have O2 := Aside0.mk (O1.out.below hb2)
        clear hb2
        go_wp2
        go_ret2
        exact ⟨_, by rw [E.out]; rfl, by rw [E.out]; exact O2.out.nil.back HB.out⟩
      | false =>
        rw [if_neg (by simp)] at e
        have E := Aside0.mk e
        clear e
        go_wp2_with fail
        refine (V.out _).mono ?_
        rintro e w2 ⟨rfl, hb2⟩
        have O2 := Aside0.mk (O1.out.below hb2)
        have K2 := Aside0.mk (blk_below K1.out hb2)
        have hT2 : T ≤ w2.heap.size := Nat.le_trans hT1 hb2.size
        clear hb2 z0 z1 z2 z3
        have z1 : w2.cell? ⟨w.heap.size, 1, none⟩ = some (.string o.f1) := (blk_cell K2.out 1).trans rfl
        go_wp2_with fail
        refine (put_calls T _ _ l ⟨o.f1, ino⟩ w2 S.out hm hT2 O2.out.row).mono ?_
        rintro e w3 ⟨v', rfl, h1, h2, h3⟩
        have O3 := Aside0.mk (O2.out.put h1 h2 h3)
        clear h1 h2 h3
        go_wp2
        go_ret2
        exact ⟨v', by rw [E.out]; rfl, by rw [E.out]; exact O3.out.back HB.out⟩
  · by_cases hk4 : o.f0 = 4
    · have e := HR.out
      unfold Dk.chg at e
      rw [if_neg hk1, if_pos hk4, ← HBh.out] at e
      clear HR
      cases b with
      | false =>
        rw [if_neg (by simp)] at e
        have E := Aside0.mk e
        clear e
        go_wp2
        go_ret2
        exact ⟨_, by rw [E.out]; rfl, by rw [E.out]; exact O1.out.nil.back HB.out⟩
      | true =>
        rw [if_pos rfl] at e
        obtain ⟨q, hq⟩ : ∃ q, q = vname o.f2 := ⟨_, rfl⟩
        have V := Aside0.mk (fun w' => vname88_calls o.f2 w')
        rw [← hq] at V e
        clear hq
        cases q with
        | false =>
          rw [if_neg (by simp)] at e
          have E := Aside0.mk e
          clear e
          go_wp2_with fail
          refine (V.out _).mono ?_
          rintro e w2 ⟨rfl, hb2⟩
          have O2 := Aside0.mk (O1.out.below hb2)
          clear hb2
          go_wp2
          go_ret2
          exact ⟨_, by rw [E.out]; rfl, by rw [E.out]; exact O2.out.nil.back HB.out⟩
        | true =>
          rw [if_pos rfl] at e
          by_cases hte : o.f2.toList = o.f1.toList
          · rw [if_pos hte] at e
            have E := Aside0.mk e
            clear e
            go_wp2_with fail
            refine (V.out _).mono ?_
            rintro e w2 ⟨rfl, hb2⟩
            have O2 := Aside0.mk (O1.out.below hb2)
            have K2 := Aside0.mk (blk_below K1.out hb2)
            clear hb2 z0 z1 z2 z3
            have z1 : w2.cell? ⟨w.heap.size, 1, none⟩ = some (.string o.f1) := (blk_cell K2.out 1).trans rfl
            have z2 : w2.cell? ⟨w.heap.size, 2, none⟩ = some (.string o.f2) := (blk_cell K2.out 2).trans rfl
            go_wp2
            go_ret2
            exact ⟨_, by rw [E.out]; rfl, by rw [E.out]; exact O2.out.nil.back HB.out⟩
          · rw [if_neg hte] at e
            have E := Aside0.mk e
            clear e
            have hpl : p < l.length := by
              have := Dk.has_pos S.out o.f1
              rw [← HBh.out, ← HP.out] at this
              simp at this
              exact this.1
            go_wp2_with fail
            refine (V.out _).mono ?_
            rintro e w2 ⟨rfl, hb2⟩
            have O2 := Aside0.mk (O1.out.below hb2)
            have K2 := Aside0.mk (blk_below K1.out hb2)
            have HB2 := Aside0.mk (below_step HB.out hb2)
            have hT2 : T ≤ w2.heap.size := Nat.le_trans hT1 hb2.size
            clear hb2 z0 z1 z2 z3
            have z1 : w2.cell? ⟨w.heap.size, 1, none⟩ = some (.string o.f1) := (blk_cell K2.out 1).trans rfl
            have z2 : w2.cell? ⟨w.heap.size, 2, none⟩ = some (.string o.f2) := (blk_cell K2.out 2).trans rfl
            obtain ⟨ad, ea, hx0, hx1⟩ := at_T69 C.out (p : Int) (by omega) (by omega)
            subst ea
            obtain ⟨y, hy⟩ : ∃ y, y = rd_T69 l (p : Int) := ⟨_, rfl⟩
            rw [← hy] at hx0 hx1
            have Y := Aside0.mk (show l.getD (pos l o.f1) z69 = y from by rw [hy, ← HP.out]; rfl)
            clear hy
            replace hx0 : w2.cell? (ad.add (p * 2)) = some (.string y.f0) := (HB2.out.cell (World.block_lt_of_cell? w _ hx0)).trans hx0
            replace hx1 : w2.cell? ⟨(ad.add (p * 2)).block, (ad.add (p * 2)).off + 1, none⟩ = some (.int .i64 y.f1) := (HB2.out.cell (World.block_lt_of_cell? w _ hx1)).trans hx1
            have hte' : (o.f2.toList == o.f1.toList) = false := by simpa using hte
            have hp0 : (0 : Int) ≤ (p : Int) := by omega
            have hp1 : (p : Int) < (l.length : Int) := by omega
            go_wp2_with fail
            have n1 := World.new_ne w2 _ z2
            have n2 := World.new_ne w2 _ hx1
            go_region_held3 (fun w' => w'.cell? ⟨w.heap.size, 2, none⟩ = some (.string o.f2) ∧ w'.cell? ⟨(ad.add (p * 2)).block, (ad.add (p * 2)).off + 1, none⟩ = some (.int .i64 y.f1)) (go_keep) (fail)
            rename_i hq_
            clear hq_ n1 n2 hx0 hx1 z1 z2
            have b3 : Below w2.heap.size w2 (w2.alloc (.cells #[.string o.f2, .int .i64 y.f1] 69)).drew := ((Below.refl w2.heap.size w2).alloc (Nat.le_refl _) (.cells #[.string o.f2, .int .i64 y.f1] 69)).drew
            have k3 : (w2.alloc (.cells #[.string o.f2, .int .i64 y.f1] 69)).drew.heap[w2.heap.size]? = some (.cells #[.string o.f2, .int .i64 y.f1] 69 (0, 0)) := blk_drew (blk_new w2 _)
            have NE3 := Aside0.mk (show some w2.heap.size ≠ (Value.slice (some ad) l.length c).ownBlock from fun e => by have := own_lt (R69_own O2.out.row) _ e.symm; omega)
            generalize (w2.alloc (.cells #[.string o.f2, .int .i64 y.f1] 69)).drew = W3 at b3 k3 ⊢
            obtain ⟨N2, hN2⟩ : ∃ N2, N2 = w2.heap.size := ⟨_, rfl⟩
            obtain ⟨N1, hN1⟩ : ∃ N1, N1 = w.heap.size := ⟨_, rfl⟩
            have O3 := Aside0.mk (O2.out.below b3)
            have OO := Aside0.mk (OwnAt.start O3.out.row)
            have K3 := Aside0.mk (show W3.heap[N1]? = some (.cells #[.int .i64 o.f0, .string o.f1, .string o.f2, .string o.f3] 49 (0, 0)) from by rw [hN1]; exact blk_below K2.out b3)
            have L3 := Aside0.mk (show W3.heap[N2]? = some (.cells #[.string o.f2, .int .i64 y.f1] 69 (0, 0)) from by rw [hN2]; exact k3)
            have NE1 := Aside0.mk (show some N1 ≠ (Value.slice (some ad) l.length c).ownBlock from by rw [hN1]; exact NE.out)
            have NE2 := Aside0.mk (show some N2 ≠ (Value.slice (some ad) l.length c).ownBlock from by rw [hN2]; exact NE3.out)
            have hT3 : T ≤ W3.heap.size := Nat.le_trans hT2 b3.size
            rw [← hN2, ← hN1]
            clear b3 k3 hN2 hN1 NE NE3 O2 hT2 hT1 hT hg
            have z1 : W3.cell? ⟨N1, 1, none⟩ = some (.string o.f1) := (blk_cell K3.out 1).trans rfl
            have z2 : W3.cell? ⟨N1, 2, none⟩ = some (.string o.f2) := (blk_cell K3.out 2).trans rfl
            have y0 : W3.cell? ⟨N2, 0, none⟩ = some (.string o.f2) := (blk_cell L3.out 0).trans rfl
            have y1 : W3.cell? ⟨N2, 1, none⟩ = some (.int .i64 y.f1) := (blk_cell L3.out 1).trans rfl
            go_wp2_with fail
            have OC := Aside0.mk (OO.out.below ((Below.refl _ W3).drew))
            clear OO
            go_region_held3 (fun w' => w'.cell? ⟨N1, 1, none⟩ = some (.string o.f1) ∧ w'.cell? ⟨N1, 2, none⟩ = some (.string o.f2) ∧ w'.cell? ⟨N2, 0, none⟩ = some (.string o.f2) ∧ w'.cell? ⟨N2, 1, none⟩ = some (.int .i64 y.f1))
              (first | go_keep | exact ⟨(blk_cell (OC.out.block K3.out NE1.out) 1).trans rfl, (blk_cell (OC.out.block K3.out NE1.out) 2).trans rfl, (blk_cell (OC.out.block L3.out NE2.out) 0).trans rfl, (blk_cell (OC.out.block L3.out NE2.out) 1).trans rfl⟩)
              (first
                | (go_at_call 106; refine (drop_calls T _ _ _ _ _ ?s_ OC.out.row).mono ?_; (case s_ => first | exact S.out | exact S.out.drop _); rintro e w4 ⟨v4, rfl, h1, h2, h3⟩; have n_ := Aside0.mk (OC.out.drop h1 h2 h3); clear OC h1 h2 h3; have OC := n_; clear n_)
                | (go_at_call 105; refine (put_calls T _ _ _ ⟨o.f2, y.f1⟩ _ ((S.out.drop _).drop _) (Nat.le_trans (Dk.drop_length _ _) (Nat.le_trans (Dk.drop_length _ _) hm)) (Nat.le_trans hT3 OC.out.grown.size) OC.out.row).mono ?_; rintro e w6 ⟨v6, rfl, h1, h2, h3⟩; have n_ := Aside0.mk (OC.out.put h1 h2 h3); clear OC h1 h2 h3; have OC := n_; clear n_))
            go_wp2
            go_ret2
            exact ⟨_, by rw [E.out]; rfl, by rw [E.out, Y.out]; exact (O3.out.trans OC.out).back HB.out⟩
    · have e := HR.out
      unfold Dk.chg at e
      rw [if_neg hk1, if_neg hk4, ← HBh.out] at e
      clear HR
      cases b with
      | false =>
        rw [if_neg (by simp)] at e
        have E := Aside0.mk e
        clear e
        go_wp2
        go_ret2
        exact ⟨_, by rw [E.out]; rfl, by rw [E.out]; exact O1.out.nil.back HB.out⟩
      | true =>
        rw [if_pos rfl] at e
        have E := Aside0.mk e
        clear e
        go_wp2_with fail
        refine (drop_calls T _ _ l o.f1 w1 S.out O1.out.row).mono ?_
        rintro e w4 ⟨v4, rfl, h1, h2, h3⟩
        have OC := Aside0.mk (O1.out.drop h1 h2 h3)
        clear h1 h2 h3
        go_wp2
        go_ret2
        exact ⟨_, by rw [E.out]; rfl, by rw [E.out]; exact OC.out.back HB.out⟩
end Go.Proofs.Ytnaddmkaakdhoaa.J

end
section
namespace Go.Proofs.Ytnaddmkaakdhoaa.Dk
open J
theorem mem_drop {l : List S69} (hs : Srt l) {s : ByteArray} {x : S69} : x ∈ Dk.drop l s ↔ x ∈ l ∧ x.f0 ≠ s := by
  induction l with
  | nil => simp [Dk.drop, has]
  | cons y l ih =>
    have hs' : Srt l := (List.pairwise_cons.1 hs).2
    have hy := (List.pairwise_cons.1 hs).1
    by_cases h : nk y.f0 < nk s
    · have hne : ¬ y.f0 = s := fun e => lt_irrefl _ (e ▸ h)
      have hp := pos_cons_lt (l := l) h
      have hh : has (y :: l) s = has l s := by simp [has, nk_iff, hne]
      have e : Dk.drop (y :: l) s = y :: Dk.drop l s := by
        unfold Dk.drop
        rw [hh, hp]
        split <;> rfl
      rw [e, List.mem_cons, ih hs', List.mem_cons]
      constructor
      · rintro (rfl | ⟨h1, h2⟩)
        · exact ⟨.inl rfl, hne⟩
        · exact ⟨.inr h1, h2⟩
      · rintro ⟨rfl | h1, h2⟩
        · exact .inl rfl
        · exact .inr ⟨h1, h2⟩
    · have hp := pos_cons_ge hs h
      by_cases k : y.f0 = s
      · have hh : has (y :: l) s = true := has_iff.2 ⟨y, List.mem_cons_self, k⟩
        have e : Dk.drop (y :: l) s = l := by
          unfold Dk.drop
          rw [if_pos hh, hp]; rfl
        rw [e]
        constructor
        · intro hx
          exact ⟨List.mem_cons_of_mem _ hx, fun e2 => by have := hy x hx; rw [k, e2] at this; exact lt_irrefl _ this⟩
        · rintro ⟨h1, h2⟩
          rcases List.mem_cons.1 h1 with rfl | h1
          · exact absurd k h2
          · exact h1
      · have hl : ∀ z ∈ l, z.f0 ≠ s := fun z hz e2 => h (by have := hy z hz; rwa [e2] at this)
        have hh : ¬ has (y :: l) s = true := fun e2 => by
          obtain ⟨z, hz, e3⟩ := has_iff.1 e2
          rcases List.mem_cons.1 hz with rfl | hz
          · exact k e3
          · exact hl z hz e3
        have e : Dk.drop (y :: l) s = y :: l := if_neg hh
        rw [e]
        constructor
        · intro hx
          refine ⟨hx, ?_⟩
          rcases List.mem_cons.1 hx with rfl | hx
          · exact k
          · exact hl x hx
        · exact fun hx => hx.1
theorem has_drop {l : List S69} (hs : Srt l) (s : ByteArray) : has (Dk.drop l s) s = false := by
  rw [Bool.eq_false_iff]
  intro h
  obtain ⟨x, hx, e⟩ := has_iff.1 h
  exact ((mem_drop hs).1 hx).2 e
theorem Srt.put {l : List S69} (hs : Srt l) {x : S69} (h : has l x.f0 = false) : Srt (Dk.put l x) := by
  induction l with
  | nil => simp [Dk.put, Srt]
  | cons y l ih =>
    have hs' : Srt l := (List.pairwise_cons.1 hs).2
    have hy := (List.pairwise_cons.1 hs).1
    have hne : ∀ z ∈ y :: l, nk z.f0 ≠ nk x.f0 := fun z hz e => by
      rw [Bool.eq_false_iff] at h
      exact h (has_iff.2 ⟨z, hz, nk_inj e⟩)
    have hl : has l x.f0 = false := by
      rw [Bool.eq_false_iff]
      intro k
      obtain ⟨z, hz, e⟩ := has_iff.1 k
      exact hne z (List.mem_cons_of_mem _ hz) (by rw [e])
    by_cases k : nk y.f0 < nk x.f0
    · have e : Dk.put (y :: l) x = y :: Dk.put l x := by
        unfold Dk.put
        rw [pos_cons_lt k]; rfl
      rw [e]
      refine List.pairwise_cons.2 ⟨fun z hz => ?_, ih hs' hl⟩
      unfold Dk.put at hz
      rcases List.mem_append.1 hz with hz | hz
      · exact hy z (List.mem_of_mem_take hz)
      · rcases List.mem_cons.1 hz with rfl | hz
        · exact k
        · exact hy z (List.mem_of_mem_drop hz)
    · have e : Dk.put (y :: l) x = x :: y :: l := by
        unfold Dk.put
        rw [pos_cons_ge hs k]; rfl
      rw [e]
      have hxy : nk x.f0 < nk y.f0 := by
        rcases lt_tri (nk x.f0) (nk y.f0) with h1 | h1 | h1
        · exact h1
        · exact absurd h1.symm (hne y List.mem_cons_self)
        · exact absurd h1 k
      refine List.pairwise_cons.2 ⟨fun z hz => ?_, hs⟩
      rcases List.mem_cons.1 hz with rfl | hz
      · exact hxy
      · exact lt_trans hxy (hy z hz)
theorem put_length (l : List S69) (x : S69) : (Dk.put l x).length = l.length + 1 := by
  have := pos_le l x.f0
  unfold Dk.put
  rw [List.length_append, List.length_take, List.length_cons, List.length_drop]
  omega
theorem Srt.chg {l : List S69} (hs : Srt l) (o : S49) (n : Int) : Srt (Dk.chg l o n).1 := by
  unfold Dk.chg
  split
  · split
    · split
      · exact List.Pairwise.nil
      · rename_i h
        exact Srt.put hs (by simpa using h)
    · exact List.Pairwise.nil
  · split
    · split
      · split
        · split
          · exact List.Pairwise.nil
          · exact Srt.put ((hs.drop _).drop _) (has_drop (hs.drop _) _)
        · exact List.Pairwise.nil
      · exact List.Pairwise.nil
    · split
      · exact hs.drop _
      · exact List.Pairwise.nil
theorem chg_length (l : List S69) (o : S49) (n : Int) : (Dk.chg l o n).1.length ≤ l.length + 1 := by
  unfold Dk.chg
  repeat' split
  all_goals first
    | exact Nat.zero_le _
    | (rw [put_length]; first | exact Nat.le_refl _ | (have h1 := drop_length (Dk.drop l o.f1) o.f2; have h2 := drop_length l o.f1; omega))
    | (show (Dk.drop l o.f1).length ≤ _; have h2 := drop_length l o.f1; omega)
def dirop (o : S49) : Bool := (decide (o.f0 = 1) || decide (o.f0 = 4) || decide (o.f0 = 5)) && fieldsOK o
def rep : List S69 → Int → List S49 → Option (List S69)
  | l, _, [] => some l
  | l, n, o :: r => if dirop o = true then (if (chg l o n).2 = 0 then rep (chg l o n).1 (if o.f0 = 1 then n + 1 else n) r else none) else none
def repd (x : Option (List S69)) : List S69 × Bool := match x with | some l => (l, true) | none => ([], false)
end Go.Proofs.Ytnaddmkaakdhoaa.Dk
namespace Go.Proofs.Ytnaddmkaakdhoaa.J
open Go.RowKit Go.Proofs.YtnaddmkaakdhoaaW.PrintWords Go.Proofs.YtnaddmkaakdhoaaW.PrintLast Go.Proofs.YtnaddmkaakdhoaaW.PrintMore
open Dk (Srt crt rep repd dirop fieldsOK chg)
set_option linter.unusedVariables false
set_option linter.unusedSimpArgs false
set_option maxHeartbeats 8000000 in
set_option maxRecDepth 100000 in
theorem replay_calls (a : Value) (d : Dsk) (A : Option Addr) (c : Nat) (l : List S49) (w : World) (hD : DC w a d) (hr : Kd.C k49 w A l.length l) (hc : l.length ≤ c) (hs : Srt d.dur) (h1 : d.dur.length + l.length ≤ 1000000) (h2 : d.ino.length ≤ 1000000) (h3 : d.ops.length ≤ 1000000) :
    Calls Try.prog 65 #[a, .slice A l.length c] w fun e w' => ∃ v', e = .returned (.tuple #[v', .bool (repd (rep d.dur ((d.ino.length : Int) - (crt d.ops : Nat)) l)).2]) ∧ Kd.R k69 69 w' w.heap.size (fun _ => True) v' (repd (rep d.dur ((d.ino.length : Int) - (crt d.ops : Nat)) l)).1 ∧ Below w.heap.size w w' := by
  obtain ⟨A0, c0, A1, c1, A2, c2, A3, c3, rfl, ⟨r0, l0⟩, ⟨r1, l1⟩, ⟨r2, l2⟩, ⟨r3, l3⟩⟩ := hD
  have R2 := Aside0.mk r2
  have R3 := Aside0.mk r3
  have RL := Aside0.mk hr
  have S := Aside0.mk hs
  have hcr : crt d.ops ≤ d.ops.length := List.countP_le_length
  obtain ⟨q, hq⟩ : ∃ q, q = crt d.ops := ⟨_, rfl⟩
  rw [← hq] at hcr ⊢
  have HQ := Aside0.mk hq
  have CR := Aside0.mk (fun w' hC => created_calls A3 c3 d.ops w' hC l3)
  rw [← hq] at CR
  obtain ⟨res, hres⟩ : ∃ res, res = repd (rep d.dur ((d.ino.length : Int) - (q : Nat)) l) := ⟨_, rfl⟩
  rw [← hres]
  have HRes := Aside0.mk hres
  clear r0 r1 r2 r3 hr hs hq hres
  go_enter Try.func65, Try.ntmps65
  go_wp2_with fail
  refine (clone69_calls A2 c2 d.dur _ (Kd.C_below R2.out ((Below.refl _ _).alloc (Nat.le_refl _) _)) l2 (by omega)).mono ?_
  rintro e w1 ⟨v1, rfl, o1, hb1⟩
  have K1 := Aside0.mk (blk_below (blk_new w (.cells #[.slice A0 d.ino.length c0, .slice A1 d.dir.length c1, .slice A2 d.dur.length c2, .slice A3 d.ops.length c3] 47)) hb1)
  have HB1 := Aside0.mk (below_step ((Below.refl w.heap.size w).alloc (Nat.le_refl _) _) hb1)
  have O1 := Aside0.mk (Kd.R_lower o1 ((Below.refl w.heap.size w).alloc (Nat.le_refl _) (.cells #[.slice A0 d.ino.length c0, .slice A1 d.dir.length c1, .slice A2 d.dur.length c2, .slice A3 d.ops.length c3] 47)).size)
  have z0 : w1.cell? ⟨w.heap.size, 0, none⟩ = some (.slice A0 d.ino.length c0) := (blk_cell K1.out 0).trans rfl
  have z3 : w1.cell? ⟨w.heap.size, 3, none⟩ = some (.slice A3 d.ops.length c3) := (blk_cell K1.out 3).trans rfl
  obtain ⟨m, hm⟩ : ∃ m : Int, m = (d.ino.length : Int) - (q : Nat) := ⟨_, rfl⟩
  have hm0 : IntKind.i64.wrap ((d.ino.length : Int) - (q : Int)) = m := by rw [IntKind.wrap_i64]; omega
  have hm1 : -1000000 ≤ m := by omega
  have hm2 : m ≤ 1000000 := by omega
  rw [← hm] at HRes
  clear o1 hb1 hm
  go_wp2_with fail
  go_region_held3 (fun w' => w'.cell? ⟨w.heap.size, 0, none⟩ = some (.slice A0 d.ino.length c0) ∧ w'.cell? ⟨w.heap.size, 3, none⟩ = some (.slice A3 d.ops.length c3))
    (first | go_keep | exact ⟨(blk_cell K1.out 0).trans rfl, (blk_cell K1.out 3).trans rfl⟩)
    (first | (go_at_call 62; refine (CR.out _ (Kd.C_below R3.out HB1.out.drew)).mono ?_; rintro e w2 ⟨rfl, hb2⟩; have HB := Aside0.mk (below_step HB1.out.drew hb2); have O := Aside0.mk (Kd.R_below (Kd.R_drew O1.out) hb2); have n_ := Aside0.mk (blk_below (o := .cells #[.slice A0 d.ino.length c0, .slice A1 d.dir.length c1, .slice A2 d.dur.length c2, .slice A3 d.ops.length c3] 47) (blk_drew K1.out) hb2); clear K1 hb2; have K1 := n_; clear n_))
  rename_i hq_
  clear hq_ z0 z3 K1 HB1 O1 CR
  obtain ⟨n, hn⟩ : ∃ n, n = l.length := ⟨_, rfl⟩
  have HN := Aside0.mk hn
  rw [← hn] at hc h1 ⊢
  clear hn
  go_wp2_with fail
  go_loopg [6, 7, 24] n (fun kx s6 s7 s24 wr => ∃ (l' : List S69) (m' : Int) (i : Nat) (v : Value), v = s6 ∧ s7 = .int .i64 m' ∧ s24 = .int .i64 i ∧ i ≤ n ∧ n - i ≤ kx ∧ Aside0 (rep d.dur m l = rep l' m' (l.drop i)) ∧ Aside0 (Srt l') ∧ l'.length ≤ d.dur.length + i ∧ -1000000 ≤ m' ∧ m' ≤ 1000000 + i ∧ Aside0 (Kd.R k69 69 wr w.heap.size (fun _ => True) v l') ∧ Aside0 (Below w.heap.size w wr))
  case atStart => exact ⟨d.dur, m, 0, v1, rfl, rfl, rfl, Nat.zero_le _, by omega, ⟨rfl⟩, S, by omega, hm1, by omega, O, HB⟩
  case round =>
    clear O HB
    obtain ⟨l', m', i, vd, rfl, rfl, rfl, hi, hkx, hrep, hsr, hll, hm3, hm4, O, HB⟩ := hrel
    by_cases hlt : i < n
    · obtain ⟨ad, ea, hx0, hx1, hx2, hx3⟩ := at_T49 RL.out (i : Int) (by omega) (by have := HN.out; omega)
      cases ea
      obtain ⟨y, hy⟩ : ∃ y, y = rd_T49 l (i : Int) := ⟨_, rfl⟩
      rw [← hy] at hx0 hx1 hx2 hx3
      have hy2 : l.drop i = y :: l.drop (i + 1) := by
        have : i < l.length := by have := HN.out; omega
        rw [List.drop_eq_getElem_cons this, hy]
        congr 1
        show _ = l.getD i z49
        rw [List.getD_eq_getElem?_getD, List.getElem?_eq_getElem this]
        rfl
      have hrep2 := Aside0.mk (show rep d.dur m l = _ from by rw [hrep.out, hy2])
      clear hy hy2 hrep
      replace hx0 : wr.cell? (ad.add (i * 4)) = some (.int .i64 y.f0) := (HB.out.cell (World.block_lt_of_cell? w _ hx0)).trans hx0
      replace hx1 : wr.cell? ⟨(ad.add (i * 4)).block, (ad.add (i * 4)).off + 1, none⟩ = some (.string y.f1) := (HB.out.cell (World.block_lt_of_cell? w _ hx1)).trans hx1
      replace hx2 : wr.cell? ⟨(ad.add (i * 4)).block, (ad.add (i * 4)).off + 2, none⟩ = some (.string y.f2) := (HB.out.cell (World.block_lt_of_cell? w _ hx2)).trans hx2
      replace hx3 : wr.cell? ⟨(ad.add (i * 4)).block, (ad.add (i * 4)).off + 3, none⟩ = some (.string y.f3) := (HB.out.cell (World.block_lt_of_cell? w _ hx3)).trans hx3
      obtain ⟨k, ya, yb, yc⟩ := y
      simp only at hx0 hx1 hx2 hx3
      by_cases hk1 : k = 1
      · subst hk1
        have hdir : dirop ⟨1, ya, yb, yc⟩ = fieldsOK ⟨1, ya, yb, yc⟩ := by simp [Dk.dirop]
        obtain ⟨fb, hfb⟩ : ∃ fb, fb = fieldsOK ⟨1, ya, yb, yc⟩ := ⟨_, rfl⟩
        have FC := Aside0.mk (fun w' => fields_calls ⟨1, ya, yb, yc⟩ w')
        rw [← hfb] at FC hdir
        clear hfb
        have HD := Aside0.mk hdir
        clear hdir
        have bN := (Below.refl wr.heap.size wr).alloc (Nat.le_refl _) (.cells #[.int .i64 1, .string ya, .string yb, .string yc] 49)
        have kN := blk_new wr (.cells #[.int .i64 1, .string ya, .string yb, .string yc] 49)
        have HB1 := Aside0.mk (below_step HB.out bN)
        have O1 := Aside0.mk (Kd.R_below O.out bN)
        have KN := Aside0.mk kN
        have NEb := Aside0.mk (show some wr.heap.size ≠ vd.ownBlock from fun e => by obtain ⟨iq, hiq⟩ := Kd.R_own O.out; have := own_lt hiq _ e.symm; omega)
        clear O HB bN kN
        go_wp2_with fail
        refine (FC.out _).mono ?_
        rintro e w2 ⟨rfl, hb2⟩
        have HB2 := Aside0.mk (below_step HB1.out hb2)
        have O2 := Aside0.mk (Kd.R_below O1.out hb2)
        have K2 := Aside0.mk (blk_below KN.out hb2)
        clear hb2 HB1 O1 KN hx0 hx1 hx2 hx3 FC
        cases fb with
        | false =>
          have hres : res = ([], false) := by
            rw [HRes.out, hrep2.out]
            simp [Dk.rep, HD.out, Dk.repd]
          subst hres
          clear HRes
          go_wp2
          go_ret2
          exact ⟨_, rfl, Kd.R_nil _ _ _ _ _, HB2.out⟩
        | true =>
          have hrc : rep d.dur m l = if (chg l' ⟨1, ya, yb, yc⟩ m').2 = 0 then rep (chg l' ⟨1, ya, yb, yc⟩ m').1 (m' + 1) (l.drop (i + 1)) else none := by
            rw [hrep2.out]
            simp [Dk.rep, HD.out]
          obtain ⟨cr, hcr⟩ : ∃ cr, cr = chg l' ⟨1, ya, yb, yc⟩ m' := ⟨_, rfl⟩
          have CC := Aside0.mk (fun v w' hT h => change_calls w.heap.size (fun _ => True) v l' ⟨1, ya, yb, yc⟩ m' w' hsr.out (by omega) hT h)
          have CS := Aside0.mk (hsr.out.chg ⟨1, ya, yb, yc⟩ m')
          have CL := Aside0.mk (Dk.chg_length l' ⟨1, ya, yb, yc⟩ m')
          rw [← hcr] at hrc CC CS CL
          clear hcr hrep2
          have HRC := Aside0.mk hrc
          clear hrc
          obtain ⟨cl, ce⟩ := cr
          have y0 : w2.cell? ⟨wr.heap.size, 0, none⟩ = some (.int .i64 1) := (blk_cell K2.out 0).trans rfl
          have y1 : w2.cell? ⟨wr.heap.size, 1, none⟩ = some (.string ya) := (blk_cell K2.out 1).trans rfl
          have y2 : w2.cell? ⟨wr.heap.size, 2, none⟩ = some (.string yb) := (blk_cell K2.out 2).trans rfl
          have y3 : w2.cell? ⟨wr.heap.size, 3, none⟩ = some (.string yc) := (blk_cell K2.out 3).trans rfl
          have NB := Aside0.mk (Kd.R_own O2.out)
          go_wp2_with fail
          refine (CC.out _ _ HB2.out.size O2.out).mono ?_
          rintro e w3 ⟨v', rfl, ho⟩
          have HB3 := Aside0.mk (show Below w.heap.size w w3 from HB2.out.grown ho.grown HB2.out.size (fun k hk => by obtain ⟨iq, hiq⟩ := NB.out; exact own_base hiq k hk))
          have O3 := Aside0.mk (Kd.R_mono ho.row (ok' := fun _ => True) (fun _ _ => trivial))
          have y0' : w3.cell? ⟨wr.heap.size, 0, none⟩ = some (.int .i64 1) := (blk_cell (ho.block K2.out NEb.out) 0).trans rfl
          clear ho NB y0 y1 y2 y3 O2 CC
          by_cases he : ce = 0
          · subst he
            have hr3 := Aside0.mk (show rep d.dur m l = rep cl (m' + 1) (l.drop (i + 1)) from HRC.out)
            clear HRC
            go_wp2
            go_roundg (n - i - 1)
            case measure => omega
            case rel => exact ⟨cl, m' + 1, i + 1, _, rfl, by first | rfl | (simp; done), by first | rfl | (simp; done), by omega, by omega, hr3, CS, by have h' : cl.length ≤ l'.length + 1 := CL.out; omega, by omega, by omega, O3, HB3⟩
          · have hres : res = ([], false) := by
              rw [HRes.out, HRC.out, if_neg he]
              rfl
            subst hres
            clear HRes HRC
            go_wp2
            go_ret2
            exact ⟨_, rfl, Kd.R_nil _ _ _ _ _, HB3.out⟩
      · by_cases hk4 : k = 4
        · subst hk4
          have hdir : dirop ⟨4, ya, yb, yc⟩ = fieldsOK ⟨4, ya, yb, yc⟩ := by simp [Dk.dirop]
          obtain ⟨fb, hfb⟩ : ∃ fb, fb = fieldsOK ⟨4, ya, yb, yc⟩ := ⟨_, rfl⟩
          have FC := Aside0.mk (fun w' => fields_calls ⟨4, ya, yb, yc⟩ w')
          rw [← hfb] at FC hdir
          clear hfb
          have HD := Aside0.mk hdir
          clear hdir
          have bN := (Below.refl wr.heap.size wr).alloc (Nat.le_refl _) (.cells #[.int .i64 4, .string ya, .string yb, .string yc] 49)
          have kN := blk_new wr (.cells #[.int .i64 4, .string ya, .string yb, .string yc] 49)
          have HB1 := Aside0.mk (below_step HB.out bN)
          have O1 := Aside0.mk (Kd.R_below O.out bN)
          have KN := Aside0.mk kN
          have NEb := Aside0.mk (show some wr.heap.size ≠ vd.ownBlock from fun e => by obtain ⟨iq, hiq⟩ := Kd.R_own O.out; have := own_lt hiq _ e.symm; omega)
          clear O HB bN kN
          go_wp2_with fail
          refine (FC.out _).mono ?_
          rintro e w2 ⟨rfl, hb2⟩
          have HB2 := Aside0.mk (below_step HB1.out hb2)
          have O2 := Aside0.mk (Kd.R_below O1.out hb2)
          have K2 := Aside0.mk (blk_below KN.out hb2)
          clear hb2 HB1 O1 KN hx0 hx1 hx2 hx3 FC
          cases fb with
          | false =>
            have hres : res = ([], false) := by
              rw [HRes.out, hrep2.out]
              simp [Dk.rep, HD.out, Dk.repd]
            subst hres
            clear HRes
            go_wp2
            go_ret2
            exact ⟨_, rfl, Kd.R_nil _ _ _ _ _, HB2.out⟩
          | true =>
            have hrc : rep d.dur m l = if (chg l' ⟨4, ya, yb, yc⟩ m').2 = 0 then rep (chg l' ⟨4, ya, yb, yc⟩ m').1 (m') (l.drop (i + 1)) else none := by
              rw [hrep2.out]
              simp [Dk.rep, HD.out]
            obtain ⟨cr, hcr⟩ : ∃ cr, cr = chg l' ⟨4, ya, yb, yc⟩ m' := ⟨_, rfl⟩
            have CC := Aside0.mk (fun v w' hT h => change_calls w.heap.size (fun _ => True) v l' ⟨4, ya, yb, yc⟩ m' w' hsr.out (by omega) hT h)
            have CS := Aside0.mk (hsr.out.chg ⟨4, ya, yb, yc⟩ m')
            have CL := Aside0.mk (Dk.chg_length l' ⟨4, ya, yb, yc⟩ m')
            rw [← hcr] at hrc CC CS CL
            clear hcr hrep2
            have HRC := Aside0.mk hrc
            clear hrc
            obtain ⟨cl, ce⟩ := cr
            have y0 : w2.cell? ⟨wr.heap.size, 0, none⟩ = some (.int .i64 4) := (blk_cell K2.out 0).trans rfl
            have y1 : w2.cell? ⟨wr.heap.size, 1, none⟩ = some (.string ya) := (blk_cell K2.out 1).trans rfl
            have y2 : w2.cell? ⟨wr.heap.size, 2, none⟩ = some (.string yb) := (blk_cell K2.out 2).trans rfl
            have y3 : w2.cell? ⟨wr.heap.size, 3, none⟩ = some (.string yc) := (blk_cell K2.out 3).trans rfl
            have NB := Aside0.mk (Kd.R_own O2.out)
            go_wp2_with fail
            refine (CC.out _ _ HB2.out.size O2.out).mono ?_
            rintro e w3 ⟨v', rfl, ho⟩
            have HB3 := Aside0.mk (show Below w.heap.size w w3 from HB2.out.grown ho.grown HB2.out.size (fun k hk => by obtain ⟨iq, hiq⟩ := NB.out; exact own_base hiq k hk))
            have O3 := Aside0.mk (Kd.R_mono ho.row (ok' := fun _ => True) (fun _ _ => trivial))
            have y0' : w3.cell? ⟨wr.heap.size, 0, none⟩ = some (.int .i64 4) := (blk_cell (ho.block K2.out NEb.out) 0).trans rfl
            clear ho NB y0 y1 y2 y3 O2 CC
            by_cases he : ce = 0
            · subst he
              have hr3 := Aside0.mk (show rep d.dur m l = rep cl (m') (l.drop (i + 1)) from HRC.out)
              clear HRC
              go_wp2
              go_roundg (n - i - 1)
              case measure => omega
              case rel => exact ⟨cl, m', i + 1, _, rfl, by first | rfl | (simp; done), by first | rfl | (simp; done), by omega, by omega, hr3, CS, by have h' : cl.length ≤ l'.length + 1 := CL.out; omega, by omega, by omega, O3, HB3⟩
            · have hres : res = ([], false) := by
                rw [HRes.out, HRC.out, if_neg he]
                rfl
              subst hres
              clear HRes HRC
              go_wp2
              go_ret2
              exact ⟨_, rfl, Kd.R_nil _ _ _ _ _, HB3.out⟩
        · by_cases hk5 : k = 5
          · subst hk5
            have hdir : dirop ⟨5, ya, yb, yc⟩ = fieldsOK ⟨5, ya, yb, yc⟩ := by simp [Dk.dirop]
            obtain ⟨fb, hfb⟩ : ∃ fb, fb = fieldsOK ⟨5, ya, yb, yc⟩ := ⟨_, rfl⟩
            have FC := Aside0.mk (fun w' => fields_calls ⟨5, ya, yb, yc⟩ w')
            rw [← hfb] at FC hdir
            clear hfb
            have HD := Aside0.mk hdir
            clear hdir
            have bN := (Below.refl wr.heap.size wr).alloc (Nat.le_refl _) (.cells #[.int .i64 5, .string ya, .string yb, .string yc] 49)
            have kN := blk_new wr (.cells #[.int .i64 5, .string ya, .string yb, .string yc] 49)
            have HB1 := Aside0.mk (below_step HB.out bN)
            have O1 := Aside0.mk (Kd.R_below O.out bN)
            have KN := Aside0.mk kN
            have NEb := Aside0.mk (show some wr.heap.size ≠ vd.ownBlock from fun e => by obtain ⟨iq, hiq⟩ := Kd.R_own O.out; have := own_lt hiq _ e.symm; omega)
            clear O HB bN kN
            go_wp2_with fail
            refine (FC.out _).mono ?_
            rintro e w2 ⟨rfl, hb2⟩
            have HB2 := Aside0.mk (below_step HB1.out hb2)
            have O2 := Aside0.mk (Kd.R_below O1.out hb2)
            have K2 := Aside0.mk (blk_below KN.out hb2)
            clear hb2 HB1 O1 KN hx0 hx1 hx2 hx3 FC
            cases fb with
            | false =>
              have hres : res = ([], false) := by
                rw [HRes.out, hrep2.out]
                simp [Dk.rep, HD.out, Dk.repd]
              subst hres
              clear HRes
              go_wp2
              go_ret2
              exact ⟨_, rfl, Kd.R_nil _ _ _ _ _, HB2.out⟩
            | true =>
              have hrc : rep d.dur m l = if (chg l' ⟨5, ya, yb, yc⟩ m').2 = 0 then rep (chg l' ⟨5, ya, yb, yc⟩ m').1 (m') (l.drop (i + 1)) else none := by
                rw [hrep2.out]
                simp [Dk.rep, HD.out]
              obtain ⟨cr, hcr⟩ : ∃ cr, cr = chg l' ⟨5, ya, yb, yc⟩ m' := ⟨_, rfl⟩
              have CC := Aside0.mk (fun v w' hT h => change_calls w.heap.size (fun _ => True) v l' ⟨5, ya, yb, yc⟩ m' w' hsr.out (by omega) hT h)
              have CS := Aside0.mk (hsr.out.chg ⟨5, ya, yb, yc⟩ m')
              have CL := Aside0.mk (Dk.chg_length l' ⟨5, ya, yb, yc⟩ m')
              rw [← hcr] at hrc CC CS CL
              clear hcr hrep2
              have HRC := Aside0.mk hrc
              clear hrc
              obtain ⟨cl, ce⟩ := cr
              have y0 : w2.cell? ⟨wr.heap.size, 0, none⟩ = some (.int .i64 5) := (blk_cell K2.out 0).trans rfl
              have y1 : w2.cell? ⟨wr.heap.size, 1, none⟩ = some (.string ya) := (blk_cell K2.out 1).trans rfl
              have y2 : w2.cell? ⟨wr.heap.size, 2, none⟩ = some (.string yb) := (blk_cell K2.out 2).trans rfl
              have y3 : w2.cell? ⟨wr.heap.size, 3, none⟩ = some (.string yc) := (blk_cell K2.out 3).trans rfl
              have NB := Aside0.mk (Kd.R_own O2.out)
              go_wp2_with fail
              refine (CC.out _ _ HB2.out.size O2.out).mono ?_
              rintro e w3 ⟨v', rfl, ho⟩
              have HB3 := Aside0.mk (show Below w.heap.size w w3 from HB2.out.grown ho.grown HB2.out.size (fun k hk => by obtain ⟨iq, hiq⟩ := NB.out; exact own_base hiq k hk))
              have O3 := Aside0.mk (Kd.R_mono ho.row (ok' := fun _ => True) (fun _ _ => trivial))
              have y0' : w3.cell? ⟨wr.heap.size, 0, none⟩ = some (.int .i64 5) := (blk_cell (ho.block K2.out NEb.out) 0).trans rfl
              clear ho NB y0 y1 y2 y3 O2 CC
              by_cases he : ce = 0
              · subst he
                have hr3 := Aside0.mk (show rep d.dur m l = rep cl (m') (l.drop (i + 1)) from HRC.out)
                clear HRC
                go_wp2
                go_roundg (n - i - 1)
                case measure => omega
                case rel => exact ⟨cl, m', i + 1, _, rfl, by first | rfl | (simp; done), by first | rfl | (simp; done), by omega, by omega, hr3, CS, by have h' : cl.length ≤ l'.length + 1 := CL.out; omega, by omega, by omega, O3, HB3⟩
              · have hres : res = ([], false) := by
                  rw [HRes.out, HRC.out, if_neg he]
                  rfl
                subst hres
                clear HRes HRC
                go_wp2
                go_ret2
                exact ⟨_, rfl, Kd.R_nil _ _ _ _ _, HB3.out⟩
          · have hres : res = ([], false) := by
              rw [HRes.out, hrep2.out]
              simp [Dk.rep, Dk.dirop, hk1, hk4, hk5, Dk.repd]
            subst hres
            have bN := Aside0.mk (below_step HB.out ((Below.refl wr.heap.size wr).alloc (Nat.le_refl _) (.cells #[.int .i64 k, .string ya, .string yb, .string yc] 49)))
            clear HRes O HB
            go_wp2
            go_ret2
            exact ⟨_, rfl, Kd.R_nil _ _ _ _ _, bN.out⟩
    · have e : res = (l', true) := by
        rw [HRes.out, hrep.out, List.drop_of_length_le (by have := HN.out; omega)]
        rfl
      subst e
      clear HRes hrep
      go_wp2
      go_ret2
      exact ⟨_, rfl, O.out, HB.out⟩
end Go.Proofs.Ytnaddmkaakdhoaa.J

end
