/- A layer over the walk, contracts of functions, and plain laws: parts of the proof in YtbeaahjinehpbaaProof. -/
import Derived.ProofKit
import Derived.OpenShut
import Derived.JoinedCond
import Derived.Test.YtbeaahjinehpbaaEx
set_option linter.all false
namespace Go.Proofs.Lite
open Go
theorem pow_bW {pl : Nat} (h : pl ≤ 100) : 4 * (2097152 * 2 ^ pl) < bW := by
  have h1 : (2 : Nat) ^ pl ≤ 2 ^ 100 := Nat.pow_le_pow_right (by omega) h
  have h2 : (2 : Nat) ^ 100 = 1267650600228229401496703205376 := by decide
  rw [h2] at h1
  have : bW = 6277101735386680763835789423207666416102355444464034512896 := by decide
  omega
theorem pow_s (pl : Nat) : 2097152 * 2 ^ (pl + 1) = 2 * (2097152 * 2 ^ pl) := by rw [Nat.pow_succ]; omega
section
variable {P : Program} {F : FnsB} (h : IsB P F)
include h
set_option maxRecDepth 20000 in
theorem S_l05Cut_ct (ls : List (List Int)) (hok : chainOk ls) : ∀ (f : Nat) (a b : Int) (pl : Nat) (out : List Pt), f + pl = 49 → a.natAbs ≤ 2097152 * 2 ^ pl → b.natAbs ≤ 2097152 * 2 ^ pl → out.length + 1000000 * f ≤ 200000000 →
    Ct P F.S_l05Cut [.ro 1 ls.length (rws ls), .agg (pi a b (pl : Nat)), .sl 0 15 0 out.length true] [.c (pts out)] (cutR (cutM ls f a b pl out)) := by
  intro f
  induction f with
  | zero =>
    intro a b pl out hf ha hb ho
    obtain rfl : pl = 49 := by omega
    clear ha hb
    refine gen_of h.S_l05Cut ?_
    simp only [List.length_cons, List.length_nil, Nat.zero_add]
    simp (disch := omega) only [seval, ↓SDX, isRes, slEl, bslParts, mmAll, mmR, SUX, List.replicate, List.append, pr, lr, er, binR, ev, putA, List.set, intOf, takeAg, cellsOf, wrAll, partsOk, ones, one, isOne, wok1, findPE, List.find?, nop, prlr, isPure, pickR, optInt, rets, rv, rvs, S_l05Cut_c, PI, PW, QW, GR, IntKind.bits]
    exact ⟨_, _, ⟨rfl, rfl⟩, WkV.kc 0 rfl rfl⟩
  | succ f ih =>
    intro a b pl out hf ha hb ho
    have hw := pow_bW (pl := pl) (by omega)
    have ha' : a.natAbs < bW := by omega
    have hb' : b.natAbs < bW := by omega
    have hcnt := S_l05Count_pf h.toIsA ls a b pl hok ha' hb' (by omega)
    have u1 : Pf P F.S_l01Up [.agg (wi a), .raw (.int .i64 1)] (.tup [.agg (wi (a * 2)), .raw (.int .i64 0)]) := by
      have := S_l01Up_pf h.toIsA a 1 ha' (by omega)
      rw [if_pos (by omega), Int.pow_succ, Int.pow_zero, Int.one_mul] at this
      exact this
    have u2 : Pf P F.S_l01Up [.agg (wi b), .raw (.int .i64 1)] (.tup [.agg (wi (b * 2)), .raw (.int .i64 0)]) := by
      have := S_l01Up_pf h.toIsA b 1 hb' (by omega)
      rw [if_pos (by omega), Int.pow_succ, Int.pow_zero, Int.one_mul] at this
      exact this
    have u3 : Pf P F.S_l01Add [.agg (wi a), .agg (wi b)] (.tup [.agg (wi (a + b)), .raw (.int .i64 0)]) := by
      have := S_l01Add_pf h.toIsA a b ha' hb'
      rw [if_pos (by omega)] at this
      exact this
    have ih1 := ih (a * 2) (a + b) (pl + 1) out (by omega) (by rw [pow_s]; omega) (by rw [pow_s]; omega) (by omega)
    rw [Int.natCast_add, Int.natCast_one] at ih1
    have ih2 := fun q (hq : cutM ls f (a * 2) (a + b) (pl + 1) out = .ok q) => ih (a + b) (b * 2) (pl + 1) q (by omega) (by rw [pow_s]; omega) (by rw [pow_s]; omega) (by have := cutM_len hq; have := hok.2.1; omega)
    have hpl : pl ≤ 48 := by omega
    have hp' : ¬ 48 < pl := by omega
    have hlen : out.length ≤ 200000000 := by omega
    clear ih ha hb ha' hb' hw ho hf
    have hmd : ∀ n, countM ls a b pl = some n → n ≠ 0 → n ≠ 1 → cutM ls (f + 1) a b pl out = (match cutM ls f (a * 2) (a + b) (pl + 1) out with
      | .error e => .error e
      | .ok q => cutM ls f (a + b) (b * 2) (pl + 1) q) := by
      intro n h1 h2 h3
      simp only [cutM, h1, h2, h3, if_false]
      cases cutM ls f (a * 2) (a + b) (pl + 1) out <;> rfl
    refine gen_of h.S_l05Cut ?_
    simp only [List.length_cons, List.length_nil, Nat.zero_add]
    obtain ⟨C, hC⟩ : ∃ C, countM ls a b pl = C := ⟨_, rfl⟩
    rw [hC] at hcnt hmd
    cases C with
    | none =>
      dsimp only [oZ] at hcnt
      have e : cutM ls (f + 1) a b pl out = .error 3 := by simp only [cutM, hC]
      rw [e]
      clear hmd ih1 ih2
      simp (disch := omega) only [seval, ↓SDX, isRes, slEl, bslParts, mmAll, mmR, SUX, List.replicate, List.append, pr, lr, er, binR, ev, putA, List.set, intOf, takeAg, cellsOf, wrAll, partsOk, ones, one, isOne, wok1, findPE, List.find?, nop, prlr, isPure, pickR, optInt, rets, rv, rvs, S_l05Cut_c, PI, GR, hp', IntKind.bits]
      refine hcnt.step ?_
      simp (disch := omega) only [seval, ↓SDX, isRes, slEl, bslParts, mmAll, mmR, SUX, List.replicate, List.append, pr, lr, er, binR, ev, putA, List.set, intOf, takeAg, cellsOf, wrAll, partsOk, ones, one, isOne, wok1, findPE, List.find?, nop, prlr, isPure, pickR, optInt, rets, rv, rvs, PI, GR, hp', IntKind.bits]
      exact ⟨_, _, ⟨rfl, rfl⟩, (WkV.bring (by trivial) (by simp) rfl (by decide) rfl).cut2 rfl rfl⟩
    | some n =>
      dsimp only [oZ] at hcnt
      by_cases h0 : n = 0
      · subst h0
        have e : cutM ls (f + 1) a b pl out = .ok out := by simp only [cutM, hC, if_true]
        rw [e]
        clear hmd ih1 ih2
        simp (disch := omega) only [seval, ↓SDX, isRes, slEl, bslParts, mmAll, mmR, SUX, List.replicate, List.append, pr, lr, er, binR, ev, putA, List.set, intOf, takeAg, cellsOf, wrAll, partsOk, ones, one, isOne, wok1, findPE, List.find?, nop, prlr, isPure, pickR, optInt, rets, rv, rvs, S_l05Cut_c, PI, GR, hp', IntKind.bits]
        refine hcnt.step ?_
        simp (disch := omega) only [seval, ↓SDX, isRes, slEl, bslParts, mmAll, mmR, SUX, List.replicate, List.append, pr, lr, er, binR, ev, putA, List.set, intOf, takeAg, cellsOf, wrAll, partsOk, ones, one, isOne, wok1, findPE, List.find?, nop, prlr, isPure, pickR, optInt, rets, rv, rvs, PI, GR, hp', IntKind.bits]
        exact ⟨_, _, ⟨rfl, rfl⟩, WkV.bring (by trivial) (by simp) rfl (by decide) (by simp [cutH, mvH, mvSg, cutSg, mv_pts, cut_pts])⟩
      by_cases h1 : n = 1
      · subst h1
        have e : cutM ls (f + 1) a b pl out = .ok (out ++ [(a, b, pl)]) := by simp only [cutM, hC]; rfl
        rw [e]
        clear hmd ih1 ih2
        have hl1 : (out ++ [(a, b, pl)]).length = out.length + 1 := by simp
        simp (disch := omega) only [seval, ↓SDX, isRes, slEl, bslParts, mmAll, mmR, SUX, List.replicate, List.append, pr, lr, er, binR, ev, putA, List.set, intOf, takeAg, cellsOf, wrAll, partsOk, ones, one, isOne, wok1, findPE, List.find?, nop, prlr, isPure, pickR, optInt, rets, rv, rvs, S_l05Cut_c, PI, GR, hp', IntKind.bits]
        refine hcnt.step ?_
        simp (disch := omega) only [seval, ↓SDX, isRes, slEl, bslParts, mmAll, mmR, SUX, List.replicate, List.append, pr, lr, er, binR, ev, putA, List.set, intOf, takeAg, cellsOf, wrAll, partsOk, ones, one, isOne, wok1, findPE, List.find?, nop, prlr, isPure, pickR, optInt, rets, rv, rvs, PI, PW, QW, GR, hp', pts_length, pts_snoc, IntKind.bits]
        exact ⟨_, _, ⟨rfl, rfl⟩, WkV.bring' hl1 (by trivial) (by simp) rfl (by decide) (by simp [cutH, mvH, mvSg, cutSg, mv_pts, cut_pts])⟩
      · rw [hmd n rfl h0 h1]
        clear hmd
        have her := fun e (he : cutM ls f (a * 2) (a + b) (pl + 1) out = .error e) => cutM_err he
        generalize cutM ls f (a * 2) (a + b) (pl + 1) out = O1 at *
        simp (disch := omega) only [seval, ↓SDX, isRes, slEl, bslParts, mmAll, mmR, SUX, List.replicate, List.append, pr, lr, er, binR, ev, putA, List.set, intOf, takeAg, cellsOf, wrAll, partsOk, ones, one, isOne, wok1, findPE, List.find?, nop, prlr, isPure, pickR, optInt, rets, rv, rvs, S_l05Cut_c, PI, GR, hp', IntKind.bits]
        refine hcnt.step ?_
        simp (disch := omega) only [seval, ↓SDX, isRes, slEl, bslParts, mmAll, mmR, SUX, List.replicate, List.append, pr, lr, er, binR, ev, putA, List.set, intOf, takeAg, cellsOf, wrAll, partsOk, ones, one, isOne, wok1, findPE, List.find?, nop, prlr, isPure, pickR, optInt, rets, rv, rvs, PI, GR, hp', IntKind.bits]
        refine u1.step ?_
        simp (disch := omega) only [seval, ↓SDX, isRes, slEl, bslParts, mmAll, mmR, SUX, List.replicate, List.append, pr, lr, er, binR, ev, putA, List.set, intOf, takeAg, cellsOf, wrAll, partsOk, ones, one, isOne, wok1, findPE, List.find?, nop, prlr, isPure, pickR, optInt, rets, rv, rvs, PI, PW, QW, GR, IntKind.bits]
        refine u2.step ?_
        simp (disch := omega) only [seval, ↓SDX, isRes, slEl, bslParts, mmAll, mmR, SUX, List.replicate, List.append, pr, lr, er, binR, ev, putA, List.set, intOf, takeAg, cellsOf, wrAll, partsOk, ones, one, isOne, wok1, findPE, List.find?, nop, prlr, isPure, pickR, optInt, rets, rv, rvs, PI, PW, QW, GR, IntKind.bits]
        refine u3.step ?_
        simp (disch := omega) only [seval, ↓SDX, isRes, slEl, bslParts, mmAll, mmR, SUX, List.replicate, List.append, pr, lr, er, binR, ev, putA, List.set, intOf, takeAg, cellsOf, wrAll, partsOk, ones, one, isOne, wok1, findPE, List.find?, nop, prlr, isPure, pickR, optInt, rets, rv, rvs, PI, PW, QW, GR, IntKind.bits]
        refine callD_cut ih1 (by trivial) (noixL_pi ..) (noixL_pts _) rfl ?_ ?_
        · intro q hq
          have ih3 := ih2 q hq
          rw [Int.natCast_add, Int.natCast_one] at ih3
          subst hq
          clear ih2 ih1 her
          dsimp only
          generalize cutM ls f (a + b) (b * 2) (pl + 1) q = O2 at *
          simp (disch := omega) only [seval, ↓SDX, isRes, slEl, bslParts, mmAll, mmR, SUX, List.replicate, List.append, pr, lr, er, binR, ev, putA, List.set, intOf, takeAg, cellsOf, wrAll, partsOk, ones, one, isOne, wok1, findPE, List.find?, nop, prlr, isPure, pickR, optInt, rets, rv, rvs, PI, PW, QW, GR, List.length_cons, List.length_nil, List.set, List.cons_append, List.nil_append, IntKind.bits]
          refine callD_cut ih3 (by trivial) (noixL_pi ..) (noixL_pts _) rfl ?_ ?_
          · rintro r rfl
            simp (disch := omega) only [seval, ↓SDX, isRes, slEl, bslParts, mmAll, mmR, SUX, List.replicate, List.append, pr, lr, er, binR, ev, putA, List.set, intOf, takeAg, cellsOf, wrAll, partsOk, ones, one, isOne, wok1, findPE, List.find?, nop, prlr, isPure, pickR, optInt, rets, rv, rvs, PI, PW, QW, GR, List.length_cons, List.length_nil, List.set, List.cons_append, List.nil_append, IntKind.bits]
            exact ⟨_, _, ⟨rfl, rfl⟩, WkV.bring (by trivial) (by simp) rfl (by decide) (by simp [cutH, mvH, mvSg, cutSg, mv_pts, cut_pts])⟩
          · rintro e rfl
            simp (disch := omega) only [seval, ↓SDX, isRes, slEl, bslParts, mmAll, mmR, SUX, List.replicate, List.append, pr, lr, er, binR, ev, putA, List.set, intOf, takeAg, cellsOf, wrAll, partsOk, ones, one, isOne, wok1, findPE, List.find?, nop, prlr, isPure, pickR, optInt, rets, rv, rvs, PI, PW, QW, GR, List.length_cons, List.length_nil, List.set, List.cons_append, List.nil_append, IntKind.bits]
            exact ⟨_, _, ⟨rfl, rfl⟩, WkV.kc 0 rfl rfl⟩
        · intro e he
          have hee := her e he
          subst he
          have hne : (e != 0) = true := by rcases hee with rfl | rfl <;> rfl
          clear ih2 ih1 her
          dsimp only
          simp (disch := omega) only [seval, ↓SDX, isRes, slEl, bslParts, mmAll, mmR, SUX, List.replicate, List.append, pr, lr, er, binR, ev, putA, List.set, intOf, takeAg, cellsOf, wrAll, partsOk, ones, one, isOne, wok1, findPE, List.find?, nop, prlr, isPure, pickR, optInt, rets, rv, rvs, PI, PW, QW, GR, hne, List.length_cons, List.length_nil, List.set, List.cons_append, List.nil_append, IntKind.bits]
          exact ⟨_, _, ⟨rfl, rfl⟩, WkV.kc 1 rfl rfl⟩
end
end Go.Proofs.Lite

namespace Go.Proofs.Lite
open Go
section
variable {P : Program} {F : FnsB} (h : IsB P F)
include h
set_option maxRecDepth 20000 in
theorem I_sturm_split_step (ls : List (List Int)) (hok : chainOk ls) (f : Nat) (ih : ∀ g, f = g + 1 → ∀ (a b : Int) (pl : Nat) (out : List Pt), g + pl = 48 → a.natAbs ≤ 2097152 * 2 ^ pl → b.natAbs ≤ 2097152 * 2 ^ pl → out.length + 1000000 * g ≤ 200000000 →
    Ct P F.I_sturm_split [.ptr 0 0, .sl 1 15 0 out.length true, .agg (pi a b (pl : Nat))] [.c (stc false ls), .c (pts out)] (splR ls (cutM ls (g + 1) a b pl out)))
    (a b : Int) (pl : Nat) (out : List Pt) (hf : f + pl = 48) (ha : a.natAbs ≤ 2097152 * 2 ^ pl) (hb : b.natAbs ≤ 2097152 * 2 ^ pl) (ho : out.length + 1000000 * f ≤ 200000000) :
    Ct P F.I_sturm_split [.ptr 0 0, .sl 1 15 0 out.length true, .agg (pi a b (pl : Nat))] [.c (stc false ls), .c (pts out)] (splR ls (cutM ls (f + 1) a b pl out)) := by
  have hw := pow_bW (pl := pl) (by omega)
  have ha' : a.natAbs < bW := by omega
  have hb' : b.natAbs < bW := by omega
  have hcnt := I_sturm_count_or h.toIsA false ls a b pl hok ha' hb' (by omega)
  have u1 : Ow P F.I_calc_mul (oc false) [.agg (wi 2), .agg (wi a)] (.agg (wi (a * 2))) (oc false) := by
    have := I_calc_mul_ow h.toIsA false 2 a (by decide) ha'
    rw [if_pos (by omega), decide_eq_true (by omega), Int.mul_comm] at this
    exact this
  have u2 : Ow P F.I_calc_mul (oc false) [.agg (wi 2), .agg (wi b)] (.agg (wi (b * 2))) (oc false) := by
    have := I_calc_mul_ow h.toIsA false 2 b (by decide) hb'
    rw [if_pos (by omega), decide_eq_true (by omega), Int.mul_comm] at this
    exact this
  have u3 : Ow P F.I_calc_add (oc false) [.agg (wi a), .agg (wi b)] (.agg (wi (a + b))) (oc false) := by
    have := I_calc_add_ow h.toIsA false a b ha' hb'
    rw [cl_eq (by omega), decide_eq_true (by omega)] at this
    exact this
  have u4 := I_WideOf_pf h.toIsA 2 (by omega) (by omega)
  have hpl : pl ≤ 48 := by omega
  have hlen : out.length ≤ 200000000 := by omega
  have hw2 : ∀ b b' x, wr [.raw (.bool b), x] 0 (oc b') = [.raw (.bool b'), x] := fun _ _ _ => rfl
  refine gen_of h.I_sturm_split ?_
  simp only [List.length_cons, List.length_nil, Nat.zero_add, Nat.reduceAdd]
  obtain ⟨C, hC⟩ : ∃ C, countM ls a b pl = C := ⟨_, rfl⟩
  rw [hC] at hcnt
  have hmd : ∀ n, C = some n → n ≠ 0 → n ≠ 1 → cutM ls (f + 1) a b pl out = (match cutM ls f (a * 2) (a + b) (pl + 1) out with
      | .error e => .error e
      | .ok q => cutM ls f (a + b) (b * 2) (pl + 1) q) := by
    intro n h1 h2 h3
    simp only [cutM, hC, h1, h2, h3, if_false]
    cases cutM ls f (a * 2) (a + b) (pl + 1) out <;> rfl
  have hm3 : C = none → cutM ls (f + 1) a b pl out = .error 3 := by intro e; simp only [cutM, hC, e]
  have hm0 : C = some 0 → cutM ls (f + 1) a b pl out = .ok out := by intro e; simp only [cutM, hC, e, if_true]
  have hm1 : C = some 1 → cutM ls (f + 1) a b pl out = .ok (out ++ [(a, b, pl)]) := by intro e; simp only [cutM, hC, e]; rfl
  have ih' : f ≠ 0 → Ct P F.I_sturm_split [.ptr 0 0, .sl 1 15 0 out.length true, .agg (pi (a * 2) (a + b) ((pl : Nat) + 1))] [.c (stc false ls), .c (pts out)] (splR ls (cutM ls f (a * 2) (a + b) (pl + 1) out)) ∧
      ∀ q, cutM ls f (a * 2) (a + b) (pl + 1) out = .ok q → Ct P F.I_sturm_split [.ptr 0 0, .sl 1 15 0 q.length true, .agg (pi (a + b) (b * 2) ((pl : Nat) + 1))] [.c (stc false ls), .c (pts q)] (splR ls (cutM ls f (a + b) (b * 2) (pl + 1) q)) := by
    intro h0
    obtain ⟨g, rfl⟩ : ∃ g, f = g + 1 := ⟨f - 1, by omega⟩
    exact ⟨ih g rfl (a * 2) (a + b) (pl + 1) out (by omega) (by rw [pow_s]; omega) (by rw [pow_s]; omega) (by omega),
      fun q hq => ih g rfl (a + b) (b * 2) (pl + 1) q (by omega) (by rw [pow_s]; omega) (by rw [pow_s]; omega) (by have := cutM_len hq; have := hok.2.1; omega)⟩
  have hl1 : (out ++ [(a, b, pl)]).length = out.length + 1 := by simp
  clear ih ha hb ha' hb' hw ho
  simp (disch := omega) only [seval, ↓SDX, isRes, slEl, bslParts, mmAll, mmR, SUX, List.replicate, List.append, pr, lr, er, binR, ev, putA, List.set, intOf, takeAg, cellsOf, wrAll, partsOk, ones, one, isOne, wok1, findPE, List.find?, nop, prlr, isPure, pickR, optInt, rets, rv, rvs, I_sturm_split_c, PI, GR, IntKind.bits]
  refine hcnt.step0 rfl ?_
  rintro v0 c0 ⟨n, o, rfl, hn1, hn2, rfl, hag⟩
  rcases hag with ⟨rfl, -, rfl⟩ | ⟨rfl, hag⟩
  case inr =>
    have e : C = none := by rcases hag with h1 | h1; cases h1; exact h1
    rw [hm3 e]
    clear hmd hm3 hm0 hm1 ih'
    simp (disch := omega) only [seval, ↓SDX, isRes, slEl, bslParts, mmAll, mmR, SUX, List.replicate, List.append, pr, lr, er, binR, ev, putA, List.set, intOf, takeAg, cellsOf, wrAll, partsOk, ones, one, isOne, wok1, findPE, List.find?, nop, prlr, isPure, pickR, optInt, rets, rv, rvs, PI, GR, IntKind.bits]
    exact ⟨_, _, ⟨rfl, rfl⟩, (Wk.kill 0).trans (WkV.kc 1 rfl rfl)⟩
  clear hm3
  by_cases h0 : n = 0
  · subst h0
    rw [hm0 rfl]
    clear hmd hm0 hm1 ih'
    simp (disch := omega) only [seval, ↓SDX, isRes, slEl, bslParts, mmAll, mmR, SUX, List.replicate, List.append, pr, lr, er, binR, ev, putA, List.set, intOf, takeAg, cellsOf, wrAll, partsOk, ones, one, isOne, wok1, findPE, List.find?, nop, prlr, isPure, pickR, optInt, rets, rv, rvs, PI, GR, IntKind.bits]
    exact ⟨_, _, ⟨rfl, rfl⟩, WkV.bring (by trivial) (by simp) rfl (by decide) (by simp [cutH, mvH, mvSg, cutSg, mv_pts, cut_pts, mvL, mvAV, cutL, cutAV])⟩
  clear hm0
  by_cases h1 : n = 1
  · subst h1
    rw [hm1 rfl]
    clear hmd hm1 ih'
    simp (disch := omega) only [seval, ↓SDX, isRes, slEl, bslParts, mmAll, mmR, SUX, List.replicate, List.append, pr, lr, er, binR, ev, putA, List.set, intOf, takeAg, cellsOf, wrAll, partsOk, ones, one, isOne, wok1, findPE, List.find?, nop, prlr, isPure, pickR, optInt, rets, rv, rvs, PI, PW, QW, GR, pts_length, pts_snoc, IntKind.bits]
    exact ⟨_, _, ⟨rfl, rfl⟩, WkV.bring' hl1 (by trivial) (by simp) rfl (by decide) (by simp [cutH, mvH, mvSg, cutSg, mv_pts, cut_pts, mvL, mvAV, cutL, cutAV])⟩
  clear hm1
  rw [hmd n rfl h0 h1]
  clear hmd
  by_cases hp : pl = 48
  · subst hp
    obtain rfl : f = 0 := by omega
    clear ih'
    dsimp only [cutM]
    simp (disch := omega) only [seval, ↓SDX, isRes, slEl, bslParts, mmAll, mmR, SUX, List.replicate, List.append, pr, lr, er, binR, ev, putA, List.set, intOf, takeAg, cellsOf, wrAll, partsOk, ones, one, isOne, wok1, findPE, List.find?, nop, prlr, isPure, pickR, optInt, rets, rv, rvs, PI, GR, IntKind.bits]
    exact ⟨_, _, ⟨rfl, rfl⟩, (Wk.kill 0).trans (WkV.kc 1 rfl rfl)⟩
  obtain ⟨ih1, ih2⟩ := ih' (by omega)
  clear ih' hf
  have hp2 : ¬ ((pl : Nat) : Int) = 48 := by omega
  have her := fun e (he : cutM ls f (a * 2) (a + b) (pl + 1) out = .error e) => cutM_err he
  generalize cutM ls f (a * 2) (a + b) (pl + 1) out = O1 at *
  simp (disch := omega) only [seval, ↓SDX, isRes, slEl, bslParts, mmAll, mmR, SUX, List.replicate, List.append, pr, lr, er, binR, ev, putA, List.set, intOf, takeAg, cellsOf, wrAll, partsOk, ones, one, isOne, wok1, findPE, List.find?, nop, prlr, isPure, pickR, optInt, rets, rv, rvs, PI, GR, hp2, IntKind.bits]
  have hs : stc false ls = [.raw (.bool false), roC ls] := rfl
  refine u3.step (seg := stc false ls) rfl (by show 0 + 1 ≤ 2; decide) rfl ?_
  simp (disch := omega) only [seval, ↓SDX, isRes, slEl, bslParts, mmAll, mmR, SUX, List.replicate, List.append, pr, lr, er, binR, ev, putA, List.set, intOf, takeAg, cellsOf, wrAll, partsOk, ones, one, isOne, wok1, findPE, List.find?, nop, prlr, isPure, pickR, optInt, rets, rv, rvs, PI, PW, QW, GR, hw2, hs, IntKind.bits]
  refine u4.step ?_
  simp (disch := omega) only [seval, ↓SDX, isRes, slEl, bslParts, mmAll, mmR, SUX, List.replicate, List.append, pr, lr, er, binR, ev, putA, List.set, intOf, takeAg, cellsOf, wrAll, partsOk, ones, one, isOne, wok1, findPE, List.find?, nop, prlr, isPure, pickR, optInt, rets, rv, rvs, PI, PW, QW, GR, hw2, hs, IntKind.bits]
  refine u1.step (seg := stc false ls) rfl (by show 0 + 1 ≤ 2; decide) rfl ?_
  simp (disch := omega) only [seval, ↓SDX, isRes, slEl, bslParts, mmAll, mmR, SUX, List.replicate, List.append, pr, lr, er, binR, ev, putA, List.set, intOf, takeAg, cellsOf, wrAll, partsOk, ones, one, isOne, wok1, findPE, List.find?, nop, prlr, isPure, pickR, optInt, rets, rv, rvs, PI, PW, QW, GR, hw2, hs, IntKind.bits]
  refine u4.step ?_
  simp (disch := omega) only [seval, ↓SDX, isRes, slEl, bslParts, mmAll, mmR, SUX, List.replicate, List.append, pr, lr, er, binR, ev, putA, List.set, intOf, takeAg, cellsOf, wrAll, partsOk, ones, one, isOne, wok1, findPE, List.find?, nop, prlr, isPure, pickR, optInt, rets, rv, rvs, PI, PW, QW, GR, hw2, hs, IntKind.bits]
  refine u2.step (seg := stc false ls) rfl (by show 0 + 1 ≤ 2; decide) rfl ?_
  simp (disch := omega) only [seval, ↓SDX, isRes, slEl, bslParts, mmAll, mmR, SUX, List.replicate, List.append, pr, lr, er, binR, ev, putA, List.set, intOf, takeAg, cellsOf, wrAll, partsOk, ones, one, isOne, wok1, findPE, List.find?, nop, prlr, isPure, pickR, optInt, rets, rv, rvs, PI, PW, QW, GR, hw2, hs, IntKind.bits]
  refine callD_spl ih1 (noixL_pi ..) (noixL_pts _) (by decide) rfl rfl ?_ ?_
  · intro q hq
    have ih3 := ih2 q hq
    subst hq
    clear ih2 ih1 her
    dsimp only
    generalize cutM ls f (a + b) (b * 2) (pl + 1) q = O2 at *
    simp (disch := omega) only [seval, ↓SDX, isRes, slEl, bslParts, mmAll, mmR, SUX, List.replicate, List.append, pr, lr, er, binR, ev, putA, List.set, intOf, takeAg, cellsOf, wrAll, partsOk, ones, one, isOne, wok1, findPE, List.find?, nop, prlr, isPure, pickR, optInt, rets, rv, rvs, PI, PW, QW, GR, List.length_cons, List.length_nil, List.set, List.cons_append, List.nil_append, IntKind.bits]
    refine callD_spl ih3 (noixL_pi ..) (noixL_pts _) (by decide) rfl rfl ?_ ?_
    · rintro r rfl
      simp (disch := omega) only [seval, ↓SDX, isRes, slEl, bslParts, mmAll, mmR, SUX, List.replicate, List.append, pr, lr, er, binR, ev, putA, List.set, intOf, takeAg, cellsOf, wrAll, partsOk, ones, one, isOne, wok1, findPE, List.find?, nop, prlr, isPure, pickR, optInt, rets, rv, rvs, PI, PW, QW, GR, List.length_cons, List.length_nil, List.set, List.cons_append, List.nil_append, IntKind.bits]
      exact ⟨_, _, ⟨rfl, rfl⟩, WkV.bring (by trivial) (by simp) rfl (by decide) (by simp [cutH, mvH, mvSg, cutSg, mv_pts, cut_pts, mvL, mvAV, cutL, cutAV])⟩
    · rintro e rfl
      simp (disch := omega) only [seval, ↓SDX, isRes, slEl, bslParts, mmAll, mmR, SUX, List.replicate, List.append, pr, lr, er, binR, ev, putA, List.set, intOf, takeAg, cellsOf, wrAll, partsOk, ones, one, isOne, wok1, findPE, List.find?, nop, prlr, isPure, pickR, optInt, rets, rv, rvs, PI, PW, QW, GR, List.length_cons, List.length_nil, List.set, List.cons_append, List.nil_append, IntKind.bits]
      exact ⟨_, _, ⟨rfl, rfl⟩, WkV.kc 1 rfl rfl⟩
  · intro e he
    have hee := her e he
    subst he
    have hne : (e != 0) = true := by rcases hee with rfl | rfl <;> rfl
    clear ih2 ih1 her
    dsimp only
    simp (disch := omega) only [seval, ↓SDX, isRes, slEl, bslParts, mmAll, mmR, SUX, List.replicate, List.append, pr, lr, er, binR, ev, putA, List.set, intOf, takeAg, cellsOf, wrAll, partsOk, ones, one, isOne, wok1, findPE, List.find?, nop, prlr, isPure, pickR, optInt, rets, rv, rvs, PI, PW, QW, GR, hne, List.length_cons, List.length_nil, List.set, List.cons_append, List.nil_append, IntKind.bits]
    exact ⟨_, _, ⟨rfl, rfl⟩, WkV.kc 1 rfl rfl⟩
set_option maxRecDepth 20000 in
theorem I_sturm_split_ct (ls : List (List Int)) (hok : chainOk ls) : ∀ (f : Nat) (a b : Int) (pl : Nat) (out : List Pt), f + pl = 48 → a.natAbs ≤ 2097152 * 2 ^ pl → b.natAbs ≤ 2097152 * 2 ^ pl → out.length + 1000000 * f ≤ 200000000 →
    Ct P F.I_sturm_split [.ptr 0 0, .sl 1 15 0 out.length true, .agg (pi a b (pl : Nat))] [.c (stc false ls), .c (pts out)] (splR ls (cutM ls (f + 1) a b pl out)) := by
  intro f
  induction f with
  | zero => exact I_sturm_split_step h ls hok 0 (fun g hg => by omega)
  | succ f ih => exact I_sturm_split_step h ls hok (f + 1) (fun g hg => by cases hg; exact ih)
end
end Go.Proofs.Lite

namespace Go.Proofs.Lite
open Go
def ptsR (o : Except Int (List Pt)) (v : AV) (H' : Heap) : Prop := match o with
  | .ok q => v = .tup [.sl 0 15 0 q.length true, .raw (.int .i64 0)] ∧ H' = [.c (pts q)]
  | .error e => v = .tup [.sl 0 15 0 0 true, .raw (.int .i64 e)] ∧ H' = [.c []]
def ptsN (o : Except Int (List Pt)) (v : AV) (H' : Heap) : Prop := match o with
  | .ok q => v = .tup [.sl 0 15 0 q.length true, .raw (.int .i64 0)] ∧ H' = [.c (pts q)]
  | .error e => v = .tup [.raw (.slice none 0 0), .raw (.int .i64 e)] ∧ H' = []
theorem partsM_err {p : List Int} {e : Int} (h : partsM p = .error e) : e = 1 ∨ e = 3 ∨ e = 4 ∨ e = 7 := by
  unfold partsM at h
  split at h
  · split at h
    · rename_i e1 h1
      injection h with h; subst h
      have := simpleM_err h1; omega
    · have := cutM_err h; omega
  · injection h with h; omega
theorem partsM_len {q : List Pt} {l : List Int} (h : partsM l = .ok q) : q.length ≤ 2000 := by
  unfold partsM at h
  split at h
  · rename_i hp
    split at h
    · cases h
    · rename_i ls h1
      have := cutM_len h
      have := (simpleM_ok hp h1).2.1
      simp only [List.length_nil] at *
      omega
  · cases h
theorem WkV.same {n0 : Nat} {a : AV} {H : Heap} : WkV n0 H a a H := Wk.refl
theorem pow_bnd {m : Nat} (h : m ≤ 21) : ∃ w : Nat, 2 ^ m = w ∧ 1 ≤ w ∧ w ≤ 2097152 := ⟨2 ^ m, rfl, Nat.one_le_two_pow, Nat.pow_le_pow_right (by omega) h⟩
section
variable {P : Program} {F : FnsB} (h : IsB P F)
include h
set_option maxRecDepth 20000 in
theorem S_PartsOf_ct (p : List Int) (hl : p.length ≤ 1048576) : Ct P F.S_PartsOf [roI p] [] (ptsR (partsM p)) := by
  refine fresh_of h.S_PartsOf ?_
  have t1 := S_l05Ok_pf h.toIsA p hl
  unfold partsM
  by_cases hp : polyOk p = true
  case neg =>
    have hp' : polyOk p = false := by simpa using hp
    rw [hp'] at t1 ⊢
    clear hp hp'
    simp (disch := omega) only [seval, ↓SDX, isRes, slEl, bslParts, mmAll, mmR, SUX, List.replicate, List.append, pr, lr, er, binR, ev, putA, List.set, intOf, takeAg, cellsOf, wrAll, partsOk, ones, one, isOne, wok1, findPE, List.find?, nop, prlr, isPure, pickR, optInt, rets, rv, rvs, S_PartsOf_c, FR, IntKind.bits]
    refine t1.step ?_
    simp (disch := omega) only [seval, ↓SDX, isRes, slEl, bslParts, mmAll, mmR, SUX, List.replicate, List.append, pr, lr, er, binR, ev, putA, List.set, intOf, takeAg, cellsOf, wrAll, partsOk, ones, one, isOne, wok1, findPE, List.find?, nop, prlr, isPure, pickR, optInt, rets, rv, rvs, FR, IntKind.bits]
    exact ⟨_, _, ⟨rfl, rfl⟩, WkV.same⟩
  have t2 := S_l05Simple_pf h.toIsA p hp
  have t3 := S_l05Bound_pf h p hp
  have t4 := S_l01Of_pf h.toIsA 1 (by omega) (by omega)
  have her := fun e he => simpleM_err (p := p) (e := e) he
  have hok := fun ls hls => simpleM_ok hp (ls := ls) hls
  obtain ⟨w, hw, hw1, hw2⟩ := pow_bnd (boundM_le p)
  have hbm := boundM_le p
  have hB : bW = 6277101735386680763835789423207666416102355444464034512896 := by decide
  have t5 := S_l01Up_pf h.toIsA 1 (boundM p) (by decide) (by omega)
  have hwz : (2 : Int) ^ boundM p = (w : Nat) := by rw [← hw]; simp
  rw [hwz, hw, if_pos (by simp; omega), Int.one_mul] at t5
  have t6 := S_l01Neg_pf h.toIsA (w : Nat) (by omega)
  have t7 := fun ls (hls : simpleM p = .ok ls) => S_l05Cut_ct h ls (hok ls hls) 49 (-(w : Nat)) (w : Nat) 0 [] (by omega) (by simp; omega) (by simp; omega) (by simp)
  rw [hwz]
  rw [hp] at t1 ⊢
  generalize boundM p = m at *
  generalize simpleM p = S at *
  clear hp hbm hok hwz hw hB
  cases S with
  | error e =>
    have := her e rfl
    have hne : (e != 0) = true := by rcases this with rfl | rfl <;> rfl
    clear her t7 this
    dsimp only [oE, if_true] at t2 ⊢
    simp (disch := omega) only [seval, ↓SDX, isRes, slEl, bslParts, mmAll, mmR, SUX, List.replicate, List.append, pr, lr, er, binR, ev, putA, List.set, intOf, takeAg, cellsOf, wrAll, partsOk, ones, one, isOne, wok1, findPE, List.find?, nop, prlr, isPure, pickR, optInt, rets, rv, rvs, S_PartsOf_c, FR, IntKind.bits]
    refine t1.step ?_
    simp (disch := omega) only [seval, ↓SDX, isRes, slEl, bslParts, mmAll, mmR, SUX, List.replicate, List.append, pr, lr, er, binR, ev, putA, List.set, intOf, takeAg, cellsOf, wrAll, partsOk, ones, one, isOne, wok1, findPE, List.find?, nop, prlr, isPure, pickR, optInt, rets, rv, rvs, FR, IntKind.bits]
    refine t2.step ?_
    simp (disch := omega) only [seval, ↓SDX, isRes, slEl, bslParts, mmAll, mmR, SUX, List.replicate, List.append, pr, lr, er, binR, ev, putA, List.set, intOf, takeAg, cellsOf, wrAll, partsOk, ones, one, isOne, wok1, findPE, List.find?, nop, prlr, isPure, pickR, optInt, rets, rv, rvs, FR, hne, IntKind.bits]
    exact ⟨_, _, ⟨rfl, rfl⟩, WkV.same⟩
  | ok ls =>
    have t8 : Ct P F.S_l05Cut [roC ls, .agg (pi (-(w : Nat)) (w : Nat) 0), .sl 0 15 0 0 true] [.c []] (cutR (cutM ls 49 (-(w : Nat)) (w : Nat) 0 [])) := t7 ls rfl
    clear t7 her
    dsimp only [oE, if_true] at t2 ⊢
    have her := fun e (he : cutM ls 49 (-(w : Nat)) (w : Nat) 0 [] = .error e) => cutM_err he
    generalize cutM ls 49 (-(w : Nat)) (w : Nat) 0 [] = O1 at *
    simp (disch := omega) only [seval, ↓SDX, isRes, slEl, bslParts, mmAll, mmR, SUX, List.replicate, List.append, pr, lr, er, binR, ev, putA, List.set, intOf, takeAg, cellsOf, wrAll, partsOk, ones, one, isOne, wok1, findPE, List.find?, nop, prlr, isPure, pickR, optInt, rets, rv, rvs, S_PartsOf_c, FR, IntKind.bits]
    refine t1.step ?_
    simp (disch := omega) only [seval, ↓SDX, isRes, slEl, bslParts, mmAll, mmR, SUX, List.replicate, List.append, pr, lr, er, binR, ev, putA, List.set, intOf, takeAg, cellsOf, wrAll, partsOk, ones, one, isOne, wok1, findPE, List.find?, nop, prlr, isPure, pickR, optInt, rets, rv, rvs, FR, IntKind.bits]
    refine t2.step ?_
    simp (disch := omega) only [seval, ↓SDX, isRes, slEl, bslParts, mmAll, mmR, SUX, List.replicate, List.append, pr, lr, er, binR, ev, putA, List.set, intOf, takeAg, cellsOf, wrAll, partsOk, ones, one, isOne, wok1, findPE, List.find?, nop, prlr, isPure, pickR, optInt, rets, rv, rvs, FR, IntKind.bits]
    refine t4.step ?_
    simp (disch := omega) only [seval, ↓SDX, isRes, slEl, bslParts, mmAll, mmR, SUX, List.replicate, List.append, pr, lr, er, binR, ev, putA, List.set, intOf, takeAg, cellsOf, wrAll, partsOk, ones, one, isOne, wok1, findPE, List.find?, nop, prlr, isPure, pickR, optInt, rets, rv, rvs, FR, IntKind.bits]
    refine t3.step ?_
    simp (disch := omega) only [seval, ↓SDX, isRes, slEl, bslParts, mmAll, mmR, SUX, List.replicate, List.append, pr, lr, er, binR, ev, putA, List.set, intOf, takeAg, cellsOf, wrAll, partsOk, ones, one, isOne, wok1, findPE, List.find?, nop, prlr, isPure, pickR, optInt, rets, rv, rvs, FR, IntKind.bits]
    refine t5.step ?_
    simp (disch := omega) only [seval, ↓SDX, isRes, slEl, bslParts, mmAll, mmR, SUX, List.replicate, List.append, pr, lr, er, binR, ev, putA, List.set, intOf, takeAg, cellsOf, wrAll, partsOk, ones, one, isOne, wok1, findPE, List.find?, nop, prlr, isPure, pickR, optInt, rets, rv, rvs, FR, IntKind.bits]
    refine t6.step ?_
    simp (disch := omega) only [seval, ↓SDX, isRes, slEl, bslParts, mmAll, mmR, SUX, List.replicate, List.append, pr, lr, er, binR, ev, putA, List.set, intOf, takeAg, cellsOf, wrAll, partsOk, ones, one, isOne, wok1, findPE, List.find?, nop, prlr, isPure, pickR, optInt, rets, rv, rvs, FR, QW, PW, PI, IntKind.bits]
    refine callD_cut t8 (by trivial) (noixL_pi ..) (by trivial) rfl ?_ ?_
    · rintro q rfl
      simp (disch := omega) only [seval, ↓SDX, isRes, slEl, bslParts, mmAll, mmR, SUX, List.replicate, List.append, pr, lr, er, binR, ev, putA, List.set, intOf, takeAg, cellsOf, wrAll, partsOk, ones, one, isOne, wok1, findPE, List.find?, nop, prlr, isPure, pickR, optInt, rets, rv, rvs, FR, QW, PW, PI, List.length_cons, List.length_nil, List.set, List.cons_append, List.nil_append, IntKind.bits]
      exact ⟨_, _, ⟨rfl, rfl⟩, WkV.bring (by trivial) (by simp) rfl (by decide) (by simp [cutH, mvH, mvSg, cutSg, mv_pts, cut_pts, mvL, mvAV, cutL, cutAV])⟩
    · rintro e rfl
      have hne : (e != 0) = true := by rcases her e rfl with rfl | rfl <;> rfl
      simp (disch := omega) only [seval, ↓SDX, isRes, slEl, bslParts, mmAll, mmR, SUX, List.replicate, List.append, pr, lr, er, binR, ev, putA, List.set, intOf, takeAg, cellsOf, wrAll, partsOk, ones, one, isOne, wok1, findPE, List.find?, nop, prlr, isPure, pickR, optInt, rets, rv, rvs, FR, QW, PW, PI, hne, List.length_cons, List.length_nil, List.set, List.cons_append, List.nil_append, IntKind.bits]
      exact ⟨_, _, ⟨rfl, rfl⟩, WkV.bring (by trivial) (by simp) rfl (by decide) (by simp [cutH, mvH, mvSg, cutSg, mv_pts, cut_pts, mvL, mvAV, cutL, cutAV, raws_nil])⟩
set_option maxRecDepth 20000 in
theorem I_PartsOf_ct (hcl : callable P F.I_ValidPoly_1 = true) (p : List Int) (hl : p.length ≤ 1048576) : Ct P F.I_PartsOf [roI p] [] (ptsN (partsM p)) := by
  refine fresh_of h.I_PartsOf ?_
  have t1 := I_ValidPoly_pf h.toIsA hcl p hl
  unfold partsM
  by_cases hp : polyOk p = true
  case neg =>
    have hp' : polyOk p = false := by simpa using hp
    rw [hp'] at t1 ⊢
    clear hp hp'
    simp (disch := omega) only [seval, ↓SDX, isRes, slEl, bslParts, mmAll, mmR, SUX, List.replicate, List.append, pr, lr, er, binR, ev, putA, List.set, intOf, takeAg, cellsOf, wrAll, partsOk, ones, one, isOne, wok1, findPE, List.find?, nop, prlr, isPure, pickR, optInt, rets, rv, rvs, I_PartsOf_c, FR, IntKind.bits]
    refine t1.step ?_
    simp (disch := omega) only [seval, ↓SDX, isRes, slEl, bslParts, mmAll, mmR, SUX, List.replicate, List.append, pr, lr, er, binR, ev, putA, List.set, intOf, takeAg, cellsOf, wrAll, partsOk, ones, one, isOne, wok1, findPE, List.find?, nop, prlr, isPure, pickR, optInt, rets, rv, rvs, FR, IntKind.bits]
    exact ⟨_, _, ⟨rfl, rfl⟩, WkV.same⟩
  have t2 := I_newSturm_ct h.toIsA p hp
  have t3 := I_bound_pf h p hp
  have her := fun e he => simpleM_err (p := p) (e := e) he
  have hok := fun ls hls => simpleM_ok hp (ls := ls) hls
  obtain ⟨w, hw, hw1, hw2⟩ := pow_bnd (boundM_le p)
  have hbm := boundM_le p
  have hB : bW = 6277101735386680763835789423207666416102355444464034512896 := by decide
  have hwz : (2 : Int) ^ boundM p = (w : Nat) := by rw [← hw]; simp
  have hwn : (1 : Int) * 2 ^ boundM p = (w : Nat) := by rw [hwz, Int.one_mul]
  have t4 := I_WideOf_pf h.toIsA (w : Nat) (by omega) (by omega)
  have t6 := I_opposite_pf h.toIsA (w : Nat) (by omega)
  have t7 := fun ls (hls : simpleM p = .ok ls) => I_sturm_split_ct h ls (hok ls hls) 48 (-(w : Nat)) (w : Nat) 0 [] (by omega) (by simp; omega) (by simp; omega) (by simp)
  rw [hwz]
  rw [hp] at t1 ⊢
  generalize boundM p = m at *
  generalize simpleM p = S at *
  clear hp hok hwz hw hB
  cases S with
  | error e =>
    have := her e rfl
    have hne : (e != 0) = true := by rcases this with rfl | rfl <;> rfl
    clear her t7 this
    dsimp only [newR, if_true] at t2 ⊢
    simp (disch := omega) only [seval, ↓SDX, isRes, slEl, bslParts, mmAll, mmR, SUX, List.replicate, List.append, pr, lr, er, binR, ev, putA, List.set, intOf, takeAg, cellsOf, wrAll, partsOk, ones, one, isOne, wok1, findPE, List.find?, nop, prlr, isPure, pickR, optInt, rets, rv, rvs, I_PartsOf_c, FR, IntKind.bits]
    refine t1.step ?_
    simp (disch := omega) only [seval, ↓SDX, isRes, slEl, bslParts, mmAll, mmR, SUX, List.replicate, List.append, pr, lr, er, binR, ev, putA, List.set, intOf, takeAg, cellsOf, wrAll, partsOk, ones, one, isOne, wok1, findPE, List.find?, nop, prlr, isPure, pickR, optInt, rets, rv, rvs, FR, IntKind.bits]
    refine callD_fresh t2 ⟨trivial, trivial⟩ ?_
    rintro v0 H0 ⟨rfl, rfl⟩
    simp (disch := omega) only [seval, ↓SDX, isRes, slEl, bslParts, mmAll, mmR, SUX, List.replicate, List.append, pr, lr, er, binR, ev, putA, List.set, intOf, takeAg, cellsOf, wrAll, partsOk, ones, one, isOne, wok1, findPE, List.find?, nop, prlr, isPure, pickR, optInt, rets, rv, rvs, RN, FR, hne, IntKind.bits]
    exact ⟨_, _, ⟨rfl, rfl⟩, WkV.same⟩
  | ok ls =>
    have t8 : Ct P F.I_sturm_split [.ptr 0 0, .sl 1 15 0 0 true, .agg (pi (-(w : Nat)) (w : Nat) 0)] [.c (stc false ls), .c []] (splR ls (cutM ls 49 (-(w : Nat)) (w : Nat) 0 [])) := t7 ls rfl
    clear t7 her
    dsimp only [newR, if_true] at t2 ⊢
    have her := fun e (he : cutM ls 49 (-(w : Nat)) (w : Nat) 0 [] = .error e) => cutM_err he
    generalize cutM ls 49 (-(w : Nat)) (w : Nat) 0 [] = O1 at *
    simp (disch := omega) only [seval, ↓SDX, isRes, slEl, bslParts, mmAll, mmR, SUX, List.replicate, List.append, pr, lr, er, binR, ev, putA, List.set, intOf, takeAg, cellsOf, wrAll, partsOk, ones, one, isOne, wok1, findPE, List.find?, nop, prlr, isPure, pickR, optInt, rets, rv, rvs, I_PartsOf_c, FR, IntKind.bits]
    refine t1.step ?_
    simp (disch := omega) only [seval, ↓SDX, isRes, slEl, bslParts, mmAll, mmR, SUX, List.replicate, List.append, pr, lr, er, binR, ev, putA, List.set, intOf, takeAg, cellsOf, wrAll, partsOk, ones, one, isOne, wok1, findPE, List.find?, nop, prlr, isPure, pickR, optInt, rets, rv, rvs, FR, IntKind.bits]
    refine callD_fresh t2 ⟨trivial, trivial⟩ ?_
    rintro v0 H0 ⟨rfl, rfl⟩
    simp (disch := omega) only [seval, ↓SDX, isRes, slEl, bslParts, mmAll, mmR, SUX, List.replicate, List.append, pr, lr, er, binR, ev, putA, List.set, intOf, takeAg, cellsOf, wrAll, partsOk, ones, one, isOne, wok1, findPE, List.find?, nop, prlr, isPure, pickR, optInt, rets, rv, rvs, RN, FR, IntKind.bits]
    refine t3.step ?_
    simp (disch := omega) only [seval, ↓SDX, isRes, slEl, bslParts, mmAll, mmR, SUX, List.replicate, List.append, pr, lr, er, binR, ev, putA, List.set, intOf, takeAg, cellsOf, wrAll, partsOk, ones, one, isOne, wok1, findPE, List.find?, nop, prlr, isPure, pickR, optInt, rets, rv, rvs, FR, hwn, IntKind.bits]
    refine t4.step ?_
    simp (disch := omega) only [seval, ↓SDX, isRes, slEl, bslParts, mmAll, mmR, SUX, List.replicate, List.append, pr, lr, er, binR, ev, putA, List.set, intOf, takeAg, cellsOf, wrAll, partsOk, ones, one, isOne, wok1, findPE, List.find?, nop, prlr, isPure, pickR, optInt, rets, rv, rvs, FR, QW, PW, PI, IntKind.bits]
    refine t6.step ?_
    simp (disch := omega) only [seval, ↓SDX, isRes, slEl, bslParts, mmAll, mmR, SUX, List.replicate, List.append, pr, lr, er, binR, ev, putA, List.set, intOf, takeAg, cellsOf, wrAll, partsOk, ones, one, isOne, wok1, findPE, List.find?, nop, prlr, isPure, pickR, optInt, rets, rv, rvs, FR, QW, PW, PI, IntKind.bits]
    refine callD_spl (i := 0) t8 (noixL_pi ..) (by trivial) (by decide) rfl rfl ?_ ?_
    · rintro q rfl
      simp (disch := omega) only [seval, ↓SDX, isRes, slEl, bslParts, mmAll, mmR, SUX, List.replicate, List.append, pr, lr, er, binR, ev, putA, List.set, intOf, takeAg, cellsOf, wrAll, partsOk, ones, one, isOne, wok1, findPE, List.find?, nop, prlr, isPure, pickR, optInt, rets, rv, rvs, FR, QW, PW, PI, List.length_cons, List.length_nil, List.set, List.cons_append, List.nil_append, IntKind.bits]
      exact ⟨_, _, ⟨rfl, rfl⟩, WkV.bring (by trivial) (by simp) rfl (by decide) (by simp [cutH, mvH, mvSg, cutSg, mv_pts, cut_pts, mvL, mvAV, cutL, cutAV])⟩
    · rintro e rfl
      simp (disch := omega) only [seval, ↓SDX, isRes, slEl, bslParts, mmAll, mmR, SUX, List.replicate, List.append, pr, lr, er, binR, ev, putA, List.set, intOf, takeAg, cellsOf, wrAll, partsOk, ones, one, isOne, wok1, findPE, List.find?, nop, prlr, isPure, pickR, optInt, rets, rv, rvs, FR, QW, PW, PI, List.length_cons, List.length_nil, List.set, List.cons_append, List.nil_append, IntKind.bits]
      exact ⟨_, _, ⟨rfl, rfl⟩, WkV.eq rfl ⟨trivial, trivial, trivial⟩⟩
end
end Go.Proofs.Lite

namespace Go.Proofs.Lite
open Go
/-- The cell that a mark leaves. -/
def ce (j : Nat) : AV := if j % 15 = 0 ∨ j % 15 = 7 then .raw (.bool false) else if j % 15 = 14 then .raw (.int .i64 ((j + 1 : Nat) : Int)) else .raw (.int .u32 ((j + 1 : Nat) : Int))
def ces (n : Nat) : List AV := (List.range n).map ce
def mkd (cs : List AV) (o : Nat) : List AV := ces o ++ cs.drop o
theorem ces_length (n : Nat) : (ces n).length = n := by simp [ces]
theorem mkd_length {cs : List AV} {o : Nat} (h : o ≤ cs.length) : (mkd cs o).length = cs.length := by simp [mkd, ces_length]; omega
theorem mkd_wr {cs : List AV} {o : Nat} {x : AV} (h : o < cs.length) (hx : x = ce o) : wr (mkd cs o) o [x] = mkd cs (o + 1) := by
  unfold wr mkd
  have e : ces (o + 1) = ces o ++ [x] := by unfold ces; rw [List.range_succ, List.map_append, hx]; rfl
  rw [List.take_left' (ces_length o), List.length_singleton, e, List.drop_append, ces_length, List.drop_of_length_le (by rw [ces_length]; omega), List.nil_append, List.drop_drop, List.append_assoc]
  congr 3
  omega
theorem ces_get {n j : Nat} (h : j < n) : ((ces n).drop j).getD 0 .junk = ce j := by
  simp [ces, List.getD_eq_getElem?_getD, h]
theorem clean_ce (j : Nat) : clean (ce j) := by unfold ce; split; trivial; split <;> trivial
theorem clean_ces (n : Nat) : cleanL (ces n) := by
  unfold ces
  generalize List.range n = l
  induction l with
  | nil => trivial
  | cons a l ih => exact ⟨clean_ce a, ih⟩
theorem noixL_ces (n : Nat) : noixL (ces n) := noixL_clean _ (clean_ces n)
theorem ones_ces (n : Nat) : ones (ces n) := by
  unfold ces
  generalize List.range n = l
  induction l with
  | nil => trivial
  | cons a l ih => exact ⟨by unfold ce; split; rfl; split <;> rfl, ih⟩
theorem mkd_full (cs : List AV) {n : Nat} (h : cs.length = n) : mkd cs n = ces n := by unfold mkd; rw [List.drop_of_length_le (by omega), List.append_nil]
theorem ce0 (i : Nat) : ce (i * 15) = .raw (.bool false) := by unfold ce; rw [if_pos (by omega)]
theorem ce7 (i : Nat) : ce (i * 15 + 7) = .raw (.bool false) := by unfold ce; rw [if_pos (by omega)]
theorem ce14 (i : Nat) : ce (i * 15 + 14) = .raw (.int .i64 ((i * 15 + 14 + 1 : Nat) : Int)) := by unfold ce; rw [if_neg (by omega), if_pos (by omega)]
theorem ceL (i j : Nat) (h : j < 6) : ce (i * 15 + 1 + j) = .raw (.int .u32 ((i * 15 + 1 + j + 1 : Nat) : Int)) := by unfold ce; rw [if_neg (by omega), if_neg (by omega)]
theorem ceH (i j : Nat) (h : j < 6) : ce (i * 15 + 7 + 1 + j) = .raw (.int .u32 ((i * 15 + 7 + 1 + j + 1 : Nat) : Int)) := by unfold ce; rw [if_neg (by omega), if_neg (by omega)]
section
variable {P : Program} {F : FnsB} (h : IsB P F)
include h
set_option maxRecDepth 20000 in
theorem W_markPartS_ct (q : List Pt) (hq : q.length ≤ 2000) : Ct P F.W_markPartS [.sl 0 15 0 q.length true, .raw (.int .i64 1)] [.c (pts q)] (fun v H' => v = .raw (.int .i64 ((q.length * 15 + 1 : Nat) : Int)) ∧ H' = [.c (ces (q.length * 15))]) := by
  refine gen_of h.W_markPartS ?_
  simp only [List.length_cons, List.length_nil, Nat.zero_add, Nat.reduceAdd]
  have hlen := pts_length q
  have hnx := noixL_pts q
  generalize pts q = cs at *
  generalize q.length = n at *
  simp (disch := omega) only [seval, ↓SDX, isRes, slEl, bslParts, mmAll, mmR, SUX, List.replicate, List.append, pr, lr, er, binR, ev, putA, List.set, intOf, takeAg, cellsOf, wrAll, partsOk, ones, one, isOne, wok1, findPE, List.find?, nop, prlr, isPure, pickR, optInt, rets, rv, rvs, W_markPartS_c, CN, NW, GR, IntKind.bits]
  refine loop_st (fun i : Nat => n - i) (fun i => ([.sl 0 15 0 n true, .raw (.int .i64 ((i * 15 + 1 : Nat) : Int)), .junk, .junk, .junk, .raw (.int .i64 (i : Nat))] ++ List.replicate 66 .junk)) (fun i => [.c (mkd cs (i * 15))]) (fun i => i ≤ n) 0 (Nat.zero_le _) ?_ ?_
  · simp only [Nat.zero_mul, Nat.zero_add, Int.cast_ofNat_Int, show mkd cs 0 = cs from rfl]
    exact Wk.tmps (by simp only [fits, eq_self, and_self, Int.cast_ofNat_Int, Int.natCast_add, and_true, true_and, List.replicate, List.cons_append, List.nil_append])
  intro i hi
  by_cases hi2 : i < n
  · have m0 : (mkd cs (i * 15)).length = n * 15 := by rw [mkd_length (by omega), hlen]
    have w0 := mkd_wr (cs := cs) (o := i * 15) (by omega) (ce0 i).symm
    have w7 := mkd_wr (cs := cs) (o := i * 15 + 7) (by omega) (ce7 i).symm
    have w14 := mkd_wr (cs := cs) (o := i * 15 + 14) (by omega) (ce14 i).symm
    have ml : ∀ o, o ≤ n * 15 → (mkd cs o).length = n * 15 := fun o ho => by rw [mkd_length (by omega), hlen]
    have m7 := ml (i * 15 + 7) (by omega)
    have m14 := ml (i * 15 + 14) (by omega)
    have fin : (i + 1) * 15 = i * 15 + 14 + 1 := by omega
    have fin1 : (i + 1) * 15 + 1 = i * 15 + 14 + 1 + 1 := by omega
    simp (disch := omega) only [seval, ↓SDX, isRes, slEl, bslParts, mmAll, mmR, SUX, List.replicate, List.append, pr, lr, er, binR, ev, putA, List.set, intOf, takeAg, cellsOf, wrAll, partsOk, ones, one, isOne, wok1, findPE, List.find?, nop, prlr, isPure, pickR, optInt, rets, rv, rvs, CN, NW, m0, w0, IntKind.bits]
    refine loop_st (fun j : Nat => 6 - j) (fun j => ([.sl 0 15 0 n true, .raw (.int .i64 ((i * 15 + 1 + j + 1 : Nat) : Int)), .junk, .junk, .junk, .raw (.int .i64 (i : Nat)), .raw (.int .i64 (j : Nat))] ++ List.replicate 65 .junk)) (fun j => [.c (mkd cs (i * 15 + 1 + j))]) (fun j => j ≤ 6) 0 (Nat.zero_le _) ?_ ?_
    · simp only [Nat.add_zero]
      exact Wk.tmps (by simp only [fits, eq_self, and_self, Int.cast_ofNat_Int, Int.natCast_add, and_true, true_and, List.replicate, List.cons_append, List.nil_append])
    intro j hj
    by_cases hj2 : j < 6
    · have m1 := ml (i * 15 + 1 + j) (by omega)
      have w1 := mkd_wr (cs := cs) (o := i * 15 + 1 + j) (by omega) (ceL i j hj2).symm
      clear ml fin fin1
      simp (disch := omega) only [seval, ↓SDX, isRes, slEl, bslParts, mmAll, mmR, SUX, List.replicate, List.append, pr, lr, er, binR, ev, putA, List.set, intOf, takeAg, cellsOf, wrAll, partsOk, ones, one, isOne, wok1, findPE, List.find?, nop, prlr, isPure, pickR, optInt, rets, rv, rvs, CN, NW, m1, w1, IntKind.bits]
      refine ⟨j + 1, by omega, by omega, ?_⟩
      simp only [← Nat.add_assoc]
      exact Wk.tmps (by simp only [fits, eq_self, and_self, Int.cast_ofNat_Int, Int.natCast_add, and_true, true_and, List.replicate, List.cons_append, List.nil_append])
    have : j = 6 := by omega
    subst this
    rw [show i * 15 + 1 + 6 = i * 15 + 7 from by omega]
    simp (disch := omega) only [seval, ↓SDX, isRes, slEl, bslParts, mmAll, mmR, SUX, List.replicate, List.append, pr, lr, er, binR, ev, putA, List.set, intOf, takeAg, cellsOf, wrAll, partsOk, ones, one, isOne, wok1, findPE, List.find?, nop, prlr, isPure, pickR, optInt, rets, rv, rvs, CN, NW, m7, w7, IntKind.bits]
    refine loop_st (fun j : Nat => 6 - j) (fun j => ([.sl 0 15 0 n true, .raw (.int .i64 ((i * 15 + 7 + 1 + j + 1 : Nat) : Int)), .junk, .junk, .junk, .raw (.int .i64 (i : Nat)), .junk, .raw (.int .i64 (j : Nat))] ++ List.replicate 64 .junk)) (fun j => [.c (mkd cs (i * 15 + 7 + 1 + j))]) (fun j => j ≤ 6) 0 (Nat.zero_le _) ?_ ?_
    · skip
      rw [Nat.add_zero]
      exact Wk.tmps (by simp only [fits, eq_self, and_self, Int.cast_ofNat_Int, Int.natCast_add, and_true, true_and, List.replicate, List.cons_append, List.nil_append])
    intro j hj
    by_cases hj2 : j < 6
    · have m1 := ml (i * 15 + 7 + 1 + j) (by omega)
      have w1 := mkd_wr (cs := cs) (o := i * 15 + 7 + 1 + j) (by omega) (ceH i j hj2).symm
      clear ml fin fin1
      simp (disch := omega) only [seval, ↓SDX, isRes, slEl, bslParts, mmAll, mmR, SUX, List.replicate, List.append, pr, lr, er, binR, ev, putA, List.set, intOf, takeAg, cellsOf, wrAll, partsOk, ones, one, isOne, wok1, findPE, List.find?, nop, prlr, isPure, pickR, optInt, rets, rv, rvs, CN, NW, m1, w1, IntKind.bits]
      refine ⟨j + 1, by omega, by omega, ?_⟩
      simp only [← Nat.add_assoc]
      exact Wk.tmps (by simp only [fits, eq_self, and_self, Int.cast_ofNat_Int, Int.natCast_add, and_true, true_and, List.replicate, List.cons_append, List.nil_append])
    have : j = 6 := by omega
    subst this
    rw [show i * 15 + 7 + 1 + 6 = i * 15 + 14 from by omega]
    simp (disch := omega) only [seval, ↓SDX, isRes, slEl, bslParts, mmAll, mmR, SUX, List.replicate, List.append, pr, lr, er, binR, ev, putA, List.set, intOf, takeAg, cellsOf, wrAll, partsOk, ones, one, isOne, wok1, findPE, List.find?, nop, prlr, isPure, pickR, optInt, rets, rv, rvs, CN, NW, m14, w14, IntKind.bits]
    refine ⟨i + 1, by omega, by omega, ?_⟩
    rw [fin1, fin]
    exact Wk.tmps (by simp only [fits, eq_self, and_self, Int.cast_ofNat_Int, Int.natCast_add, and_true, true_and, List.replicate, List.cons_append, List.nil_append])
  · have : i = n := by omega
    subst this
    rw [mkd_full cs hlen]
    simp (disch := omega) only [seval, ↓SDX, isRes, slEl, bslParts, mmAll, mmR, SUX, List.replicate, List.append, pr, lr, er, binR, ev, putA, List.set, intOf, takeAg, cellsOf, wrAll, partsOk, ones, one, isOne, wok1, findPE, List.find?, nop, prlr, isPure, pickR, optInt, rets, rv, rvs, CN, NW, GR, ces_length, IntKind.bits]
    exact ⟨_, _, ⟨rfl, rfl⟩, WkV.same⟩
end
end Go.Proofs.Lite

namespace Go.Proofs.Lite
open Go
section
variable {P : Program} {F : FnsB} (h : IsB P F)
include h
set_option maxRecDepth 20000 in
theorem W_heldPartS_pf (n : Nat) (hq : n ≤ 2000) : Pf P F.W_heldPartS [.ro 15 n (ces (n * 15)), .raw (.int .i64 1)] (.raw (.int .i64 ((n * 15 + 1 : Nat) : Int))) := by
  refine pf_of h.W_heldPartS ⟨trivial, trivial, trivial⟩ trivial ?_
  have hlen := ces_length (n * 15)
  have hon := ones_ces (n * 15)
  have get := fun j (hj : j < n * 15) => ces_get hj
  generalize ces (n * 15) = cs at *
  simp (disch := omega) only [seval, ↓SDX, isRes, slEl, bslParts, mmAll, mmR, SUX, List.replicate, List.append, pr, lr, er, binR, ev, putA, List.set, intOf, takeAg, cellsOf, wrAll, partsOk, ones, one, isOne, wok1, findPE, List.find?, nop, prlr, isPure, pickR, optInt, rets, rv, rvs, W_heldPartS_c, CN, NW, IntKind.bits]
  refine loop_st (fun i : Nat => n - i) (fun i => ([.ro 15 n cs, .raw (.int .i64 ((i * 15 + 1 : Nat) : Int)), .junk, .junk, .junk, .raw (.int .i64 (i : Nat))] ++ List.replicate 76 .junk)) (fun i => []) (fun i => i ≤ n) 0 (Nat.zero_le _) ?_ ?_
  · simp only [Nat.zero_mul, Nat.zero_add, Int.cast_ofNat_Int]
    exact Wk.tmps (by simp only [fits, eq_self, and_self, Int.cast_ofNat_Int, Int.natCast_add, and_true, true_and, List.replicate, List.cons_append, List.nil_append])
  intro i hi
  by_cases hi2 : i < n
  · have gr : ∀ o, o < 15 → ((List.take 15 (List.drop (i * 15) cs)).drop o).getD 0 .junk = ce (i * 15 + o) := by
      intro o ho
      rw [← get (i * 15 + o) (by omega)]
      simp [List.getD_eq_getElem?_getD, ho]
    have g0 := gr 0 (by omega)
    have g7 := gr 7 (by omega)
    have g14 := gr 14 (by omega)
    rw [List.drop_zero, Nat.add_zero, ce0] at g0
    rw [ce7] at g7
    rw [ce14] at g14
    have fin1 : (i + 1) * 15 + 1 = i * 15 + 14 + 1 + 1 := by omega
    simp (disch := omega) only [seval, ↓SDX, isRes, slEl, bslParts, mmAll, mmR, SUX, List.replicate, List.append, pr, lr, er, binR, ev, putA, List.set, intOf, takeAg, cellsOf, wrAll, partsOk, ones, one, isOne, wok1, findPE, List.find?, nop, prlr, isPure, pickR, optInt, rets, rv, rvs, CN, NW, g0, IntKind.bits]
    refine loop_st (fun j : Nat => 6 - j) (fun j => ([.ro 15 n cs, .raw (.int .i64 ((i * 15 + 1 + j + 1 : Nat) : Int)), .junk, .junk, .junk, .raw (.int .i64 (i : Nat)), .raw (.int .i64 (j : Nat))] ++ List.replicate 75 .junk)) (fun j => []) (fun j => j ≤ 6) 0 (Nat.zero_le _) ?_ ?_
    · simp only [Nat.add_zero]
      exact Wk.tmps (by simp only [fits, eq_self, and_self, Int.cast_ofNat_Int, Int.natCast_add, and_true, true_and, List.replicate, List.cons_append, List.nil_append])
    intro j hj
    by_cases hj2 : j < 6
    · have g1 := gr (1 + j) (by omega)
      rw [← Nat.add_assoc, ceL i j hj2, ← List.drop_drop] at g1
      clear get gr fin1 g0 g7 g14
      simp (disch := omega) only [seval, ↓SDX, isRes, slEl, bslParts, mmAll, mmR, SUX, List.replicate, List.append, pr, lr, er, binR, ev, putA, List.set, intOf, takeAg, cellsOf, wrAll, partsOk, ones, one, isOne, wok1, findPE, List.find?, nop, prlr, isPure, pickR, optInt, rets, rv, rvs, CN, NW, g1, IntKind.bits]
      refine ⟨j + 1, by omega, by omega, ?_⟩
      simp only [← Nat.add_assoc]
      exact Wk.tmps (by simp only [fits, eq_self, and_self, Int.cast_ofNat_Int, Int.natCast_add, and_true, true_and, List.replicate, List.cons_append, List.nil_append])
    have : j = 6 := by omega
    subst this
    rw [show i * 15 + 1 + 6 = i * 15 + 7 from by omega]
    simp (disch := omega) only [seval, ↓SDX, isRes, slEl, bslParts, mmAll, mmR, SUX, List.replicate, List.append, pr, lr, er, binR, ev, putA, List.set, intOf, takeAg, cellsOf, wrAll, partsOk, ones, one, isOne, wok1, findPE, List.find?, nop, prlr, isPure, pickR, optInt, rets, rv, rvs, CN, NW, g7, IntKind.bits]
    refine loop_st (fun j : Nat => 6 - j) (fun j => ([.ro 15 n cs, .raw (.int .i64 ((i * 15 + 7 + 1 + j + 1 : Nat) : Int)), .junk, .junk, .junk, .raw (.int .i64 (i : Nat)), .junk, .raw (.int .i64 (j : Nat))] ++ List.replicate 74 .junk)) (fun j => []) (fun j => j ≤ 6) 0 (Nat.zero_le _) ?_ ?_
    · rw [Nat.add_zero]
      exact Wk.tmps (by simp only [fits, eq_self, and_self, Int.cast_ofNat_Int, Int.natCast_add, and_true, true_and, List.replicate, List.cons_append, List.nil_append])
    intro j hj
    by_cases hj2 : j < 6
    · have g1 := gr (7 + 1 + j) (by omega)
      rw [← Nat.add_assoc, ← Nat.add_assoc, ceH i j hj2, ← List.drop_drop, ← List.drop_drop] at g1
      clear get gr fin1 g0 g7 g14
      simp (disch := omega) only [seval, ↓SDX, isRes, slEl, bslParts, mmAll, mmR, SUX, List.replicate, List.append, pr, lr, er, binR, ev, putA, List.set, intOf, takeAg, cellsOf, wrAll, partsOk, ones, one, isOne, wok1, findPE, List.find?, nop, prlr, isPure, pickR, optInt, rets, rv, rvs, CN, NW, g1, IntKind.bits]
      refine ⟨j + 1, by omega, by omega, ?_⟩
      simp only [← Nat.add_assoc]
      exact Wk.tmps (by simp only [fits, eq_self, and_self, Int.cast_ofNat_Int, Int.natCast_add, and_true, true_and, List.replicate, List.cons_append, List.nil_append])
    have : j = 6 := by omega
    subst this
    rw [show i * 15 + 7 + 1 + 6 = i * 15 + 14 from by omega]
    clear get gr
    simp (disch := omega) only [seval, ↓SDX, isRes, slEl, bslParts, mmAll, mmR, SUX, List.replicate, List.append, pr, lr, er, binR, ev, putA, List.set, intOf, takeAg, cellsOf, wrAll, partsOk, ones, one, isOne, wok1, findPE, List.find?, nop, prlr, isPure, pickR, optInt, rets, rv, rvs, CN, NW, g14, IntKind.bits]
    refine ⟨i + 1, by omega, by omega, ?_⟩
    rw [fin1]
    exact Wk.tmps (by simp only [fits, eq_self, and_self, Int.cast_ofNat_Int, Int.natCast_add, and_true, true_and, List.replicate, List.cons_append, List.nil_append])
  · have : i = n := by omega
    subst this
    clear get
    simp (disch := omega) only [seval, ↓SDX, isRes, slEl, bslParts, mmAll, mmR, SUX, List.replicate, List.append, pr, lr, er, binR, ev, putA, List.set, intOf, takeAg, cellsOf, wrAll, partsOk, ones, one, isOne, wok1, findPE, List.find?, nop, prlr, isPure, pickR, optInt, rets, rv, rvs, CN, NW, IntKind.bits]
    exact WkV.eq (by first | rfl | simp) (by first | trivial | (simp only [noix, noixL, NX, and_true, true_and]; done))
set_option maxRecDepth 20000 in
theorem W_heldPartS_nil : Pf P F.W_heldPartS [.raw (.slice none 0 0), .raw (.int .i64 1)] (.raw (.int .i64 1)) := by
  refine pf_of h.W_heldPartS ⟨trivial, trivial, trivial⟩ trivial ?_
  simp (disch := omega) only [seval, ↓SDX, isRes, slEl, bslParts, mmAll, mmR, SUX, List.replicate, List.append, pr, lr, er, binR, ev, putA, List.set, intOf, takeAg, cellsOf, wrAll, partsOk, ones, one, isOne, wok1, findPE, List.find?, nop, prlr, isPure, pickR, optInt, rets, rv, rvs, W_heldPartS_c, CN, NW, IntKind.bits]
  refine loop_st (fun i : Nat => 0) (fun i => ([.raw (.slice none 0 0), .raw (.int .i64 1), .junk, .junk, .junk, .raw (.int .i64 0)] ++ List.replicate 76 .junk)) (fun i => []) (fun i => True) 0 trivial (Wk.tmps (by simp only [fits, eq_self, and_self, Int.cast_ofNat_Int, Int.natCast_add, and_true, true_and, List.replicate, List.cons_append, List.nil_append])) ?_
  intro i hi
  simp (disch := omega) only [seval, ↓SDX, isRes, slEl, bslParts, mmAll, mmR, SUX, List.replicate, List.append, pr, lr, er, binR, ev, putA, List.set, intOf, takeAg, cellsOf, wrAll, partsOk, ones, one, isOne, wok1, findPE, List.find?, nop, prlr, isPure, pickR, optInt, rets, rv, rvs, CN, NW, IntKind.bits]
  exact WkV.eq (by first | rfl | simp) (by first | trivial | (simp only [noix, noixL, NX, and_true, true_and]; done))
set_option maxRecDepth 20000 in
theorem W_markPartS_nil : Pf P F.W_markPartS [.raw (.slice none 0 0), .raw (.int .i64 1)] (.raw (.int .i64 1)) := by
  refine pf_of h.W_markPartS ⟨trivial, trivial, trivial⟩ trivial ?_
  simp (disch := omega) only [seval, ↓SDX, isRes, slEl, bslParts, mmAll, mmR, SUX, List.replicate, List.append, pr, lr, er, binR, ev, putA, List.set, intOf, takeAg, cellsOf, wrAll, partsOk, ones, one, isOne, wok1, findPE, List.find?, nop, prlr, isPure, pickR, optInt, rets, rv, rvs, W_markPartS_c, CN, NW, IntKind.bits]
  refine loop_st (fun i : Nat => 0) (fun i => ([.raw (.slice none 0 0), .raw (.int .i64 1), .junk, .junk, .junk, .raw (.int .i64 0)] ++ List.replicate 66 .junk)) (fun i => []) (fun i => True) 0 trivial (Wk.tmps (by simp only [fits, eq_self, and_self, Int.cast_ofNat_Int, Int.natCast_add, and_true, true_and, List.replicate, List.cons_append, List.nil_append])) ?_
  intro i hi
  simp (disch := omega) only [seval, ↓SDX, isRes, slEl, bslParts, mmAll, mmR, SUX, List.replicate, List.append, pr, lr, er, binR, ev, putA, List.set, intOf, takeAg, cellsOf, wrAll, partsOk, ones, one, isOne, wok1, findPE, List.find?, nop, prlr, isPure, pickR, optInt, rets, rv, rvs, CN, NW, IntKind.bits]
  exact WkV.eq (by first | rfl | simp) (by first | trivial | (simp only [noix, noixL, NX, and_true, true_and]; done))
set_option maxRecDepth 20000 in
theorem W_eqPartS_nil : Pf P F.W_eqPartS [.raw (.slice none 0 0), .ro 15 0 []] (.raw (.bool true)) := by
  refine pf_of h.W_eqPartS ⟨trivial, trivial, trivial⟩ trivial ?_
  simp (disch := omega) only [seval, ↓SDX, isRes, slEl, bslParts, mmAll, mmR, SUX, List.replicate, List.append, pr, lr, er, binR, ev, putA, List.set, intOf, takeAg, cellsOf, wrAll, partsOk, ones, one, isOne, wok1, findPE, List.find?, nop, prlr, isPure, pickR, optInt, rets, rv, rvs, W_eqPartS_c, CN, NW, IntKind.bits]
  refine loop_st (fun i : Nat => 0) (fun i => ([.raw (.slice none 0 0), .ro 15 0 [], .junk, .junk, .junk, .raw (.int .i64 0)] ++ List.replicate 21 .junk)) (fun i => []) (fun i => True) 0 trivial (Wk.tmps (by simp only [fits, eq_self, and_self, Int.cast_ofNat_Int, Int.natCast_add, and_true, true_and, List.replicate, List.cons_append, List.nil_append])) ?_
  intro i hi
  simp (disch := omega) only [seval, ↓SDX, isRes, slEl, bslParts, mmAll, mmR, SUX, List.replicate, List.append, pr, lr, er, binR, ev, putA, List.set, intOf, takeAg, cellsOf, wrAll, partsOk, ones, one, isOne, wok1, findPE, List.find?, nop, prlr, isPure, pickR, optInt, rets, rv, rvs, CN, NW, IntKind.bits]
  exact WkV.eq (by first | rfl | simp) (by first | trivial | (simp only [noix, noixL, NX, and_true, true_and]; done))
set_option maxRecDepth 20000 in
theorem W_eqPartS_pf (q : List Pt) (hq : q.length ≤ 2000) : Pf P F.W_eqPartS [.ro 15 q.length (pts q), .ro 15 q.length (pts q)] (.raw (.bool true)) := by
  refine pf_of h.W_eqPartS ⟨trivial, trivial, trivial⟩ trivial ?_
  have hlen := pts_length q
  have hon := ones_pts q
  simp (disch := omega) only [seval, ↓SDX, isRes, slEl, bslParts, mmAll, mmR, SUX, List.replicate, List.append, pr, lr, er, binR, ev, putA, List.set, intOf, takeAg, cellsOf, wrAll, partsOk, ones, one, isOne, wok1, findPE, List.find?, nop, prlr, isPure, pickR, optInt, rets, rv, rvs, W_eqPartS_c, CN, NW, IntKind.bits]
  refine loop_st (fun i : Nat => q.length - i) (fun i => ([.ro 15 q.length (pts q), .ro 15 q.length (pts q), .junk, .junk, .junk, .raw (.int .i64 (i : Nat))] ++ List.replicate 21 .junk)) (fun i => []) (fun i => i ≤ q.length) 0 (Nat.zero_le _) (Wk.tmps (by simp only [fits, eq_self, and_self, Int.cast_ofNat_Int, Int.natCast_add, and_true, true_and, List.replicate, List.cons_append, List.nil_append])) ?_
  intro i hi
  by_cases hi2 : i < q.length
  · have hg := pts_get hi2
    unfold pt at hg
    have he := W_eqPart_pf h (q.getD i (0, 0, 0)).1 (q.getD i (0, 0, 0)).2.1 (q.getD i (0, 0, 0)).2.2
    generalize q.getD i (0, 0, 0) = t at *
    obtain ⟨a, b, c⟩ := t
    dsimp only at hg he
    simp (disch := omega) only [seval, ↓SDX, isRes, slEl, bslParts, mmAll, mmR, SUX, List.replicate, List.append, pr, lr, er, binR, ev, putA, List.set, intOf, takeAg, cellsOf, wrAll, partsOk, ones, one, isOne, wok1, findPE, List.find?, nop, prlr, isPure, pickR, optInt, rets, rv, rvs, CN, NW, PI, PW, QW, hg, hlen, hon, IntKind.bits]
    refine he.step ?_
    simp (disch := omega) only [seval, ↓SDX, isRes, slEl, bslParts, mmAll, mmR, SUX, List.replicate, List.append, pr, lr, er, binR, ev, putA, List.set, intOf, takeAg, cellsOf, wrAll, partsOk, ones, one, isOne, wok1, findPE, List.find?, nop, prlr, isPure, pickR, optInt, rets, rv, rvs, CN, NW, PI, PW, QW, hlen, IntKind.bits]
    exact ⟨i + 1, by omega, by omega, Wk.tmps (by simp only [fits, eq_self, and_self, Int.cast_ofNat_Int, Int.natCast_add, and_true, true_and, List.replicate, List.cons_append, List.nil_append])⟩
  · have : i = q.length := by omega
    subst this
    simp (disch := omega) only [seval, ↓SDX, isRes, slEl, bslParts, mmAll, mmR, SUX, List.replicate, List.append, pr, lr, er, binR, ev, putA, List.set, intOf, takeAg, cellsOf, wrAll, partsOk, ones, one, isOne, wok1, findPE, List.find?, nop, prlr, isPure, pickR, optInt, rets, rv, rvs, CN, NW, IntKind.bits]
    exact WkV.eq (by first | rfl | simp) (by first | trivial | (simp only [noix, noixL, NX, and_true, true_and]; done))
end
section
variable {P : Program} {F : FnsA} (h : IsA P F)
include h
set_option maxRecDepth 20000 in
theorem W_toInt64S_ct (l : List Int) (hl : l.length ≤ 1048576) : Ct P F.W_toInt64S [roI l] [] (fun v H' => v = .sl 0 1 0 l.length true ∧ H' = [.c (i64s l)]) := by
  refine fresh_of h.W_toInt64S ?_
  obtain ⟨n, hn⟩ : ∃ n, l.length = n := ⟨_, rfl⟩
  rw [hn] at hl
  simp (disch := omega) only [seval, ↓SDX, isRes, slEl, bslParts, mmAll, mmR, SUX, List.replicate, List.append, pr, lr, er, binR, ev, putA, List.set, intOf, takeAg, cellsOf, wrAll, partsOk, ones, one, isOne, wok1, findPE, List.find?, nop, prlr, isPure, pickR, optInt, rets, rv, rvs, W_toInt64S_c, CN, NW, hn, RW, IntKind.bits]
  refine loop_st (fun s : Nat × List Int => n - s.1) (fun s => ([roI l, .junk, .junk, .sl 0 1 0 n true, .raw (.int .i64 (s.1 : Nat))] ++ List.replicate 17 .junk)) (fun s => [.c (i64s s.2)])
    (fun s => s.1 ≤ n ∧ s.2.length = n ∧ s.2.take s.1 = l.take s.1) (0, List.replicate n 0) ⟨Nat.zero_le _, by simp, rfl⟩ (Wk.tmps (by simp only [fits, eq_self, and_self, Int.cast_ofNat_Int, Int.natCast_add, and_true, true_and, List.replicate, List.cons_append, List.nil_append])) ?_
  rintro ⟨k, s⟩ ⟨hk, hs, ht⟩
  dsimp only at hk hs ht ⊢
  by_cases hk2 : k < n
  · have hx := i64s_get (l := l) (i := k) (by omega)
    have hst := set_take (k := k) (hs.trans hn.symm) (by omega) ht rfl
    have hsl : (s.set k (l.getD k 0)).length = n := by rw [List.length_set]; exact hs
    generalize l.getD k 0 = x at *
    simp (disch := omega) only [seval, ↓SDX, isRes, slEl, bslParts, mmAll, mmR, SUX, List.replicate, List.append, pr, lr, er, binR, ev, putA, List.set, intOf, takeAg, cellsOf, wrAll, partsOk, ones, one, isOne, wok1, findPE, List.find?, nop, prlr, isPure, pickR, optInt, rets, rv, rvs, CN, NW, hx, hs, RW, hn, IntKind.bits]
    exact ⟨(k + 1, s.set k x), by dsimp only; omega, ⟨by dsimp only; omega, hsl, hst⟩, Wk.shed (n := 1) (by decide) (by simp only [fits, eq_self, and_self, Int.cast_ofNat_Int, Int.natCast_add, and_true, true_and, List.replicate, List.cons_append, List.nil_append]) (by simp only [cutL, cutAV, cutSg, CU, List.replicate, List.cons_append, List.nil_append, Nat.reduceLT, if_true, if_false, List.map_cons, List.map_nil, List.take_succ_cons, List.take_zero, cut_i64s]) (by simp only [cutH, cutL, cutAV, cutSg, CU, List.replicate, List.cons_append, List.nil_append, Nat.reduceLT, if_true, if_false, List.map_cons, List.map_nil, List.take_succ_cons, List.take_zero, cut_i64s])⟩
  · have hk3 : k = n := by omega
    subst hk3
    rw [List.take_of_length_le (by omega), List.take_of_length_le (by omega)] at ht
    subst ht
    simp (disch := omega) only [seval, ↓SDX, isRes, slEl, bslParts, mmAll, mmR, SUX, List.replicate, List.append, pr, lr, er, binR, ev, putA, List.set, intOf, takeAg, cellsOf, wrAll, partsOk, ones, one, isOne, wok1, findPE, List.find?, nop, prlr, isPure, pickR, optInt, rets, rv, rvs, CN, NW, hn, FR, IntKind.bits]
    exact ⟨_, _, ⟨rfl, rfl⟩, WkV.same⟩
set_option maxRecDepth 20000 in
theorem W_markInt64S_ct (l : List Int) (hl : l.length ≤ 1048576) : Ct P F.W_markInt64S [.sl 0 1 0 l.length true, .raw (.int .i64 1)] [.c (i64s l)] (fun v H' => v = .raw (.int .i64 ((l.length + 1 : Nat) : Int)) ∧ H' = [.dead]) := by
  refine gen_of h.W_markInt64S ?_
  simp only [List.length_cons, List.length_nil, Nat.zero_add, Nat.reduceAdd]
  obtain ⟨n, hn⟩ : ∃ n, l.length = n := ⟨_, rfl⟩
  rw [hn] at hl ⊢
  simp (disch := omega) only [seval, ↓SDX, isRes, slEl, bslParts, mmAll, mmR, SUX, List.replicate, List.append, pr, lr, er, binR, ev, putA, List.set, intOf, takeAg, cellsOf, wrAll, partsOk, ones, one, isOne, wok1, findPE, List.find?, nop, prlr, isPure, pickR, optInt, rets, rv, rvs, W_markInt64S_c, CN, NW, hn, RW, GR, IntKind.bits]
  refine loop_st (fun s : Nat × List Int => n - s.1) (fun s => ([.sl 0 1 0 n true, .raw (.int .i64 ((s.1 + 1 : Nat) : Int)), .junk, .junk, .junk, .raw (.int .i64 (s.1 : Nat))] ++ List.replicate 13 .junk)) (fun s => [.c (i64s s.2)])
    (fun s => s.1 ≤ n ∧ s.2.length = n) (0, l) ⟨Nat.zero_le _, hn⟩ ?_ ?_
  · simp only [Nat.zero_add, Int.cast_ofNat_Int]
    exact Wk.tmps (by simp only [fits, eq_self, and_self, Int.cast_ofNat_Int, Int.natCast_add, and_true, true_and, List.replicate, List.cons_append, List.nil_append])
  rintro ⟨k, s⟩ ⟨hk, hs⟩
  dsimp only at hk hs ⊢
  by_cases hk2 : k < n
  · have hsl : (s.set k ((k + 1 : Nat) : Int)).length = n := by rw [List.length_set]; exact hs
    simp (disch := omega) only [seval, ↓SDX, isRes, slEl, bslParts, mmAll, mmR, SUX, List.replicate, List.append, pr, lr, er, binR, ev, putA, List.set, intOf, takeAg, cellsOf, wrAll, partsOk, ones, one, isOne, wok1, findPE, List.find?, nop, prlr, isPure, pickR, optInt, rets, rv, rvs, CN, NW, hs, RW, hn, IntKind.bits]
    exact ⟨(k + 1, s.set k ((k + 1 : Nat) : Int)), by dsimp only; omega, ⟨by dsimp only; omega, hsl⟩, Wk.shed (n := 1) (by decide) (by simp only [fits, eq_self, and_self, Int.cast_ofNat_Int, Int.natCast_add, and_true, true_and, List.replicate, List.cons_append, List.nil_append]) (by simp only [cutL, cutAV, cutSg, CU, List.replicate, List.cons_append, List.nil_append, Nat.reduceLT, if_true, if_false, List.map_cons, List.map_nil, List.take_succ_cons, List.take_zero, cut_i64s]) (by simp only [cutH, cutL, cutAV, cutSg, CU, List.replicate, List.cons_append, List.nil_append, Nat.reduceLT, if_true, if_false, List.map_cons, List.map_nil, List.take_succ_cons, List.take_zero, cut_i64s])⟩
  · have hk3 : k = n := by omega
    subst hk3
    simp (disch := omega) only [seval, ↓SDX, isRes, slEl, bslParts, mmAll, mmR, SUX, List.replicate, List.append, pr, lr, er, binR, ev, putA, List.set, intOf, takeAg, cellsOf, wrAll, partsOk, ones, one, isOne, wok1, findPE, List.find?, nop, prlr, isPure, pickR, optInt, rets, rv, rvs, CN, NW, hn, GR, IntKind.bits]
    exact ⟨_, _, ⟨rfl, rfl⟩, WkV.kc 0 rfl rfl⟩
end
end Go.Proofs.Lite

namespace Go.Proofs.Lite
open Go
section
variable {P : Program} {f : FuncId} {T : List AV} {H : Heap} {d : Option Nat} {K : List AV → Heap → Prop} {w : KW K}
theorem Lends.s0 {i z n : Nat} {b : Bool} {cs as bs : List AV} (hi : H[i]? = some (.c cs)) (hc : cleanL cs) (hl : cs.length = n * z) (h : Lends H as bs) : Lends H (.sl i z 0 n b :: as) (.ro z n cs :: bs) :=
  .s hi hc hl (by simp) (by simp) h
/-- What is lent may not come back; what comes back is new. -/
theorem callD_freshL {args argsc : List AV} {R : AV → Heap → Prop} (h : Ct P f argsc [] R) (ha : noixL argsc) (hl : Lends H args argsc) (hR : ∀ v H', R v H' → noro v ∧ cleanH H')
    (hk : ∀ v H', R v H' → K (putA T d (ren [] H.length v)) (H ++ H'.map (renSg [] H.length))) : CallD P f args d T H K w := by
  refine ⟨[], List.range H.length, argsc, [], R, h, hl.args ha, by simp [embOk], by simp, slOkL_noix argsc ha, by simp [slOkH], fun v Hc' hR' => ⟨fun _ => hR v Hc' hR', ?_⟩⟩
  simpa [back, backs] using hk v Hc' hR'
theorem callD_sw {z n i : Nat} {x w' : AV} {cs cs' : List AV} (h : Ct P f [.sl 0 z 0 n true, x] [.c cs] (fun v H' => v = w' ∧ H' = [.c cs'])) (hx : noix x) (hw : noix w') (hc : noixL cs) (hc' : noixL cs') (hl : cs'.length = cs.length) (hi : H[i]? = some (.c cs))
    (hk : K (putA T d w') (H.set i (.c cs'))) : CallD P f [.sl i z 0 n true, x] d T H K w := by
  refine ⟨[(i, 0)], [], [.sl 0 z 0 n true, x], [.c cs], _, h, ?_, ?_, by simp, ?_, ?_, fun v' Hc' hR => ⟨fun h => absurd rfl h, ?_⟩⟩
  · simp only [argsOk, and_true]
    exact ⟨.inl (by simp [ren, rix]), .inl (ren_noix _ hx).symm⟩
  · simp only [embOk, and_true]
    exact ⟨by simp, cs, hi, by simp, by rw [renL_noix cs hc]; simp⟩
  · simp only [slOkL, slOk, and_true]
    exact ⟨fun _ => by simp [tailB, hi, segLen], slOk_noix _ hx⟩
  · simp only [slOkH, and_true]; exact slOkL_noix cs hc
  · obtain ⟨rfl, rfl⟩ := hR
    rw [ren_noix _ hw]
    simp only [back, backs, back1, getD_c' hi, hl, true_or, if_true, renL_noix cs' hc', List.length_singleton, List.drop_succ_cons, List.drop_zero, List.map_nil, List.append_nil, List.take_zero, List.nil_append, Nat.zero_add, List.drop_length]
    exact hk
theorem callD_sd {z n i : Nat} {x w' : AV} {cs : List AV} (h : Ct P f [.sl 0 z 0 n true, x] [.c cs] (fun v H' => v = w' ∧ H' = [.dead])) (hx : noix x) (hw : noix w') (hc : noixL cs) (hi : H[i]? = some (.c cs))
    (hk : K (putA T d w') (H.set i .dead)) : CallD P f [.sl i z 0 n true, x] d T H K w := by
  refine ⟨[(i, 0)], [], [.sl 0 z 0 n true, x], [.c cs], _, h, ?_, ?_, by simp, ?_, ?_, fun v' Hc' hR => ⟨fun h => absurd rfl h, ?_⟩⟩
  · simp only [argsOk, and_true]
    exact ⟨.inl (by simp [ren, rix]), .inl (ren_noix _ hx).symm⟩
  · simp only [embOk, and_true]
    exact ⟨by simp, cs, hi, by simp, by rw [renL_noix cs hc]; simp⟩
  · simp only [slOkL, slOk, and_true]
    exact ⟨fun _ => by simp [tailB, hi, segLen], slOk_noix _ hx⟩
  · simp only [slOkH, and_true]; exact slOkL_noix cs hc
  · obtain ⟨rfl, rfl⟩ := hR
    rw [ren_noix _ hw]
    simpa [back, backs, back1] using hk
end
theorem renL_pts (e : List (Nat × Nat)) (m : Nat) (l : List Pt) : renL e m (pts l) = pts l := renL_noix _ (noixL_pts l)
theorem ptsN_own {o : Except Int (List Pt)} : ∀ v H', ptsN o v H' → noro v ∧ cleanH H' := by
  intro v H' hR
  cases o with
  | error e => obtain ⟨rfl, rfl⟩ := hR; exact ⟨⟨trivial, trivial, trivial⟩, trivial⟩
  | ok q => obtain ⟨rfl, rfl⟩ := hR; exact ⟨⟨trivial, trivial, trivial⟩, noroL_clean _ (clean_pts q), trivial⟩
section
variable {P : Program} {F : FnsB} (h : IsB P F)
include h
set_option maxRecDepth 20000 in
theorem W_FnExactPartsOf_pf (hcl : callable P F.I_ValidPoly_1 = true) (p : List Int) (hlp : p.length ≤ 9223372036854775807) :
    Pf P F.W_FnExactPartsOf [roI p] (.raw (.bool true)) := by
  refine pf_of h.W_FnExactPartsOf ⟨trivial, trivial⟩ trivial ?_
  by_cases h1 : p.length ≤ 1048576
  case neg =>
    have h2 : 1048576 < p.length := by omega
    clear h1
    simp (disch := omega) only [seval, ↓SDX, isRes, slEl, bslParts, mmAll, mmR, SUX, List.replicate, List.append, pr, lr, er, binR, ev, putA, List.set, intOf, takeAg, cellsOf, wrAll, partsOk, ones, one, isOne, wok1, findPE, List.find?, nop, prlr, isPure, pickR, optInt, rets, rv, rvs, W_FnExactPartsOf_c, PI, PW, QW, IntKind.bits]
    exact WkV.eq (by first | rfl | simp) (by first | trivial | (simp only [noix, noixL, NX, and_true, true_and]; done))
  have t1 := W_toInt64S_pf h.toIsA p h1
  have t1' := W_toInt64S_ct h.toIsA p h1
  have t2 := S_PartsOf_ct h p h1
  have t3 := I_PartsOf_ct h hcl p h1
  have t7 := W_eqInt64S_pf h.toIsA p h1
  have t8 := W_markInt64S_ct h.toIsA p h1
  have her := fun e (he : partsM p = .error e) => partsM_err he
  have hln := fun q (he : partsM p = .ok q) => partsM_len he
  generalize partsM p = R at *
  cases R with
  | error e =>
    have e1 := W_eqPartS_nil h
    have e2 := W_markPartS_nil h
    have e3 := W_heldPartS_nil h
    clear her hln
    simp (disch := omega) only [seval, ↓SDX, isRes, slEl, bslParts, mmAll, mmR, SUX, List.replicate, List.append, pr, lr, er, binR, ev, putA, List.set, intOf, takeAg, cellsOf, wrAll, partsOk, ones, one, isOne, wok1, findPE, List.find?, nop, prlr, isPure, pickR, optInt, rets, rv, rvs, W_FnExactPartsOf_c, PI, PW, QW, IntKind.bits]
    refine t1.step ?_
    simp (disch := omega) only [seval, ↓SDX, isRes, slEl, bslParts, mmAll, mmR, SUX, List.replicate, List.append, pr, lr, er, binR, ev, putA, List.set, intOf, takeAg, cellsOf, wrAll, partsOk, ones, one, isOne, wok1, findPE, List.find?, nop, prlr, isPure, pickR, optInt, rets, rv, rvs, PI, PW, QW, RN, renL_pts, bne_self_eq_false, List.length_cons, List.length_nil, List.set, List.cons_append, List.nil_append, List.map_cons, List.map_nil, IntKind.bits]
    refine callD_fresh t2 ⟨trivial, trivial⟩ ?_
    rintro v0 H0 ⟨rfl, rfl⟩
    simp (disch := omega) only [seval, ↓SDX, isRes, slEl, bslParts, mmAll, mmR, SUX, List.replicate, List.append, pr, lr, er, binR, ev, putA, List.set, intOf, takeAg, cellsOf, wrAll, partsOk, ones, one, isOne, wok1, findPE, List.find?, nop, prlr, isPure, pickR, optInt, rets, rv, rvs, PI, PW, QW, RN, renL_pts, bne_self_eq_false, List.length_cons, List.length_nil, List.set, List.cons_append, List.nil_append, List.map_cons, List.map_nil, IntKind.bits]
    refine callD_fresh t1' ⟨trivial, trivial⟩ ?_
    rintro v0 H0 ⟨rfl, rfl⟩
    simp (disch := omega) only [seval, ↓SDX, isRes, slEl, bslParts, mmAll, mmR, SUX, List.replicate, List.append, pr, lr, er, binR, ev, putA, List.set, intOf, takeAg, cellsOf, wrAll, partsOk, ones, one, isOne, wok1, findPE, List.find?, nop, prlr, isPure, pickR, optInt, rets, rv, rvs, PI, PW, QW, RN, renL_pts, bne_self_eq_false, List.length_cons, List.length_nil, List.set, List.cons_append, List.nil_append, List.map_cons, List.map_nil, IntKind.bits]
    refine callD_freshL t3 ⟨trivial, trivial⟩ (.s0 rfl (clean_i64s p) (by rw [i64s_length]; omega) .nil) ptsN_own ?_
    rintro v0 H0 ⟨rfl, rfl⟩
    simp (disch := omega) only [seval, ↓SDX, isRes, slEl, bslParts, mmAll, mmR, SUX, List.replicate, List.append, pr, lr, er, binR, ev, putA, List.set, intOf, takeAg, cellsOf, wrAll, partsOk, ones, one, isOne, wok1, findPE, List.find?, nop, prlr, isPure, pickR, optInt, rets, rv, rvs, PI, PW, QW, RN, renL_pts, bne_self_eq_false, List.length_cons, List.length_nil, List.set, List.cons_append, List.nil_append, List.map_cons, List.map_nil, IntKind.bits]
    refine e1.lend (.v (.s0 rfl (by trivial) rfl .nil)) trivial ?_
    simp (disch := omega) only [seval, ↓SDX, isRes, slEl, bslParts, mmAll, mmR, SUX, List.replicate, List.append, pr, lr, er, binR, ev, putA, List.set, intOf, takeAg, cellsOf, wrAll, partsOk, ones, one, isOne, wok1, findPE, List.find?, nop, prlr, isPure, pickR, optInt, rets, rv, rvs, PI, PW, QW, RN, renL_pts, bne_self_eq_false, List.length_cons, List.length_nil, List.set, List.cons_append, List.nil_append, List.map_cons, List.map_nil, IntKind.bits]
    refine t1.step ?_
    simp (disch := omega) only [seval, ↓SDX, isRes, slEl, bslParts, mmAll, mmR, SUX, List.replicate, List.append, pr, lr, er, binR, ev, putA, List.set, intOf, takeAg, cellsOf, wrAll, partsOk, ones, one, isOne, wok1, findPE, List.find?, nop, prlr, isPure, pickR, optInt, rets, rv, rvs, PI, PW, QW, RN, renL_pts, bne_self_eq_false, List.length_cons, List.length_nil, List.set, List.cons_append, List.nil_append, List.map_cons, List.map_nil, IntKind.bits]
    refine t7.lend (.s0 rfl (clean_i64s p) (by rw [i64s_length]; omega) (.v .nil)) trivial ?_
    simp (disch := omega) only [seval, ↓SDX, isRes, slEl, bslParts, mmAll, mmR, SUX, List.replicate, List.append, pr, lr, er, binR, ev, putA, List.set, intOf, takeAg, cellsOf, wrAll, partsOk, ones, one, isOne, wok1, findPE, List.find?, nop, prlr, isPure, pickR, optInt, rets, rv, rvs, PI, PW, QW, RN, renL_pts, bne_self_eq_false, List.length_cons, List.length_nil, List.set, List.cons_append, List.nil_append, List.map_cons, List.map_nil, IntKind.bits]
    refine callD_sd t8 (by trivial) (by trivial) (noixL_i64s p) rfl ?_
    simp (disch := omega) only [seval, ↓SDX, isRes, slEl, bslParts, mmAll, mmR, SUX, List.replicate, List.append, pr, lr, er, binR, ev, putA, List.set, intOf, takeAg, cellsOf, wrAll, partsOk, ones, one, isOne, wok1, findPE, List.find?, nop, prlr, isPure, pickR, optInt, rets, rv, rvs, PI, PW, QW, RN, renL_pts, bne_self_eq_false, List.length_cons, List.length_nil, List.set, List.cons_append, List.nil_append, List.map_cons, List.map_nil, IntKind.bits]
    refine e1.lend (.v (.s0 rfl (by trivial) rfl .nil)) trivial ?_
    simp (disch := omega) only [seval, ↓SDX, isRes, slEl, bslParts, mmAll, mmR, SUX, List.replicate, List.append, pr, lr, er, binR, ev, putA, List.set, intOf, takeAg, cellsOf, wrAll, partsOk, ones, one, isOne, wok1, findPE, List.find?, nop, prlr, isPure, pickR, optInt, rets, rv, rvs, PI, PW, QW, RN, renL_pts, bne_self_eq_false, List.length_cons, List.length_nil, List.set, List.cons_append, List.nil_append, List.map_cons, List.map_nil, IntKind.bits]
    refine e2.step ?_
    simp (disch := omega) only [seval, ↓SDX, isRes, slEl, bslParts, mmAll, mmR, SUX, List.replicate, List.append, pr, lr, er, binR, ev, putA, List.set, intOf, takeAg, cellsOf, wrAll, partsOk, ones, one, isOne, wok1, findPE, List.find?, nop, prlr, isPure, pickR, optInt, rets, rv, rvs, PI, PW, QW, RN, renL_pts, bne_self_eq_false, List.length_cons, List.length_nil, List.set, List.cons_append, List.nil_append, List.map_cons, List.map_nil, IntKind.bits]
    refine e3.step ?_
    simp (disch := omega) only [seval, ↓SDX, isRes, slEl, bslParts, mmAll, mmR, SUX, List.replicate, List.append, pr, lr, er, binR, ev, putA, List.set, intOf, takeAg, cellsOf, wrAll, partsOk, ones, one, isOne, wok1, findPE, List.find?, nop, prlr, isPure, pickR, optInt, rets, rv, rvs, PI, PW, QW, RN, renL_pts, bne_self_eq_false, List.length_cons, List.length_nil, List.set, List.cons_append, List.nil_append, List.map_cons, List.map_nil, IntKind.bits]
    refine t1.step ?_
    simp (disch := omega) only [seval, ↓SDX, isRes, slEl, bslParts, mmAll, mmR, SUX, List.replicate, List.append, pr, lr, er, binR, ev, putA, List.set, intOf, takeAg, cellsOf, wrAll, partsOk, ones, one, isOne, wok1, findPE, List.find?, nop, prlr, isPure, pickR, optInt, rets, rv, rvs, PI, PW, QW, RN, renL_pts, bne_self_eq_false, List.length_cons, List.length_nil, List.set, List.cons_append, List.nil_append, List.map_cons, List.map_nil, IntKind.bits]
    refine callD_fresh t3 ⟨trivial, trivial⟩ ?_
    rintro v0 H0 ⟨rfl, rfl⟩
    simp (disch := omega) only [seval, ↓SDX, isRes, slEl, bslParts, mmAll, mmR, SUX, List.replicate, List.append, pr, lr, er, binR, ev, putA, List.set, intOf, takeAg, cellsOf, wrAll, partsOk, ones, one, isOne, wok1, findPE, List.find?, nop, prlr, isPure, pickR, optInt, rets, rv, rvs, PI, PW, QW, RN, renL_pts, bne_self_eq_false, List.length_cons, List.length_nil, List.set, List.cons_append, List.nil_append, List.map_cons, List.map_nil, IntKind.bits]
    refine e1.lend (.v (.s0 rfl (by trivial) rfl .nil)) trivial ?_
    simp (disch := omega) only [seval, ↓SDX, isRes, slEl, bslParts, mmAll, mmR, SUX, List.replicate, List.append, pr, lr, er, binR, ev, putA, List.set, intOf, takeAg, cellsOf, wrAll, partsOk, ones, one, isOne, wok1, findPE, List.find?, nop, prlr, isPure, pickR, optInt, rets, rv, rvs, PI, PW, QW, RN, renL_pts, bne_self_eq_false, List.length_cons, List.length_nil, List.set, List.cons_append, List.nil_append, List.map_cons, List.map_nil, IntKind.bits]
    refine e3.step ?_
    simp (disch := omega) only [seval, ↓SDX, isRes, slEl, bslParts, mmAll, mmR, SUX, List.replicate, List.append, pr, lr, er, binR, ev, putA, List.set, intOf, takeAg, cellsOf, wrAll, partsOk, ones, one, isOne, wok1, findPE, List.find?, nop, prlr, isPure, pickR, optInt, rets, rv, rvs, PI, PW, QW, RN, renL_pts, bne_self_eq_false, List.length_cons, List.length_nil, List.set, List.cons_append, List.nil_append, List.map_cons, List.map_nil, IntKind.bits]
    exact WkV.eq (by first | rfl | simp) (by first | trivial | (simp only [noix, noixL, NX, and_true, true_and]; done))
  | ok q =>
    have hq := hln q rfl
    have e1 := W_eqPartS_pf h q hq
    have e2 := W_markPartS_ct h q hq
    have e3 := W_heldPartS_pf h q.length hq
    clear her hln
    have q1 := clean_pts q
    have q2 := pts_length q
    have q3 := clean_ces (q.length * 15)
    have q4 := ces_length (q.length * 15)
    simp (disch := omega) only [seval, ↓SDX, isRes, slEl, bslParts, mmAll, mmR, SUX, List.replicate, List.append, pr, lr, er, binR, ev, putA, List.set, intOf, takeAg, cellsOf, wrAll, partsOk, ones, one, isOne, wok1, findPE, List.find?, nop, prlr, isPure, pickR, optInt, rets, rv, rvs, W_FnExactPartsOf_c, PI, PW, QW, IntKind.bits]
    refine t1.step ?_
    simp (disch := omega) only [seval, ↓SDX, isRes, slEl, bslParts, mmAll, mmR, SUX, List.replicate, List.append, pr, lr, er, binR, ev, putA, List.set, intOf, takeAg, cellsOf, wrAll, partsOk, ones, one, isOne, wok1, findPE, List.find?, nop, prlr, isPure, pickR, optInt, rets, rv, rvs, PI, PW, QW, IntKind.bits]
    refine callD_fresh t2 ⟨trivial, trivial⟩ ?_
    rintro v0 H0 ⟨rfl, rfl⟩
    simp (disch := omega) only [seval, ↓SDX, isRes, slEl, bslParts, mmAll, mmR, SUX, List.replicate, List.append, pr, lr, er, binR, ev, putA, List.set, intOf, takeAg, cellsOf, wrAll, partsOk, ones, one, isOne, wok1, findPE, List.find?, nop, prlr, isPure, pickR, optInt, rets, rv, rvs, RN, renL_pts, IntKind.bits]
    refine callD_fresh t1' ⟨trivial, trivial⟩ ?_
    rintro v0 H0 ⟨rfl, rfl⟩
    simp (disch := omega) only [seval, ↓SDX, isRes, slEl, bslParts, mmAll, mmR, SUX, List.replicate, List.append, pr, lr, er, binR, ev, putA, List.set, intOf, takeAg, cellsOf, wrAll, partsOk, ones, one, isOne, wok1, findPE, List.find?, nop, prlr, isPure, pickR, optInt, rets, rv, rvs, RN, renL_pts, IntKind.bits]
    refine callD_freshL t3 ⟨trivial, trivial⟩ (.s0 rfl (clean_i64s p) (by rw [i64s_length]; omega) .nil) ptsN_own ?_
    rintro v0 H0 ⟨rfl, rfl⟩
    simp (disch := omega) only [seval, ↓SDX, isRes, slEl, bslParts, mmAll, mmR, SUX, List.replicate, List.append, pr, lr, er, binR, ev, putA, List.set, intOf, takeAg, cellsOf, wrAll, partsOk, ones, one, isOne, wok1, findPE, List.find?, nop, prlr, isPure, pickR, optInt, rets, rv, rvs, PI, PW, QW, RN, renL_pts, bne_self_eq_false, List.length_cons, List.length_nil, List.set, List.cons_append, List.nil_append, List.map_cons, List.map_nil, IntKind.bits]
    refine e1.lend (.s0 rfl q1 q2 (.s0 rfl q1 q2 .nil)) trivial ?_
    simp (disch := omega) only [seval, ↓SDX, isRes, slEl, bslParts, mmAll, mmR, SUX, List.replicate, List.append, pr, lr, er, binR, ev, putA, List.set, intOf, takeAg, cellsOf, wrAll, partsOk, ones, one, isOne, wok1, findPE, List.find?, nop, prlr, isPure, pickR, optInt, rets, rv, rvs, PI, PW, QW, RN, renL_pts, bne_self_eq_false, List.length_cons, List.length_nil, List.set, List.cons_append, List.nil_append, List.map_cons, List.map_nil, IntKind.bits]
    refine t1.step ?_
    simp (disch := omega) only [seval, ↓SDX, isRes, slEl, bslParts, mmAll, mmR, SUX, List.replicate, List.append, pr, lr, er, binR, ev, putA, List.set, intOf, takeAg, cellsOf, wrAll, partsOk, ones, one, isOne, wok1, findPE, List.find?, nop, prlr, isPure, pickR, optInt, rets, rv, rvs, PI, PW, QW, RN, renL_pts, bne_self_eq_false, List.length_cons, List.length_nil, List.set, List.cons_append, List.nil_append, List.map_cons, List.map_nil, IntKind.bits]
    refine t7.lend (.s0 rfl (clean_i64s p) (by rw [i64s_length]; omega) (.v .nil)) trivial ?_
    simp (disch := omega) only [seval, ↓SDX, isRes, slEl, bslParts, mmAll, mmR, SUX, List.replicate, List.append, pr, lr, er, binR, ev, putA, List.set, intOf, takeAg, cellsOf, wrAll, partsOk, ones, one, isOne, wok1, findPE, List.find?, nop, prlr, isPure, pickR, optInt, rets, rv, rvs, PI, PW, QW, RN, renL_pts, bne_self_eq_false, List.length_cons, List.length_nil, List.set, List.cons_append, List.nil_append, List.map_cons, List.map_nil, IntKind.bits]
    refine callD_sd t8 (by trivial) (by trivial) (noixL_i64s p) rfl ?_
    simp (disch := omega) only [seval, ↓SDX, isRes, slEl, bslParts, mmAll, mmR, SUX, List.replicate, List.append, pr, lr, er, binR, ev, putA, List.set, intOf, takeAg, cellsOf, wrAll, partsOk, ones, one, isOne, wok1, findPE, List.find?, nop, prlr, isPure, pickR, optInt, rets, rv, rvs, PI, PW, QW, RN, renL_pts, bne_self_eq_false, List.length_cons, List.length_nil, List.set, List.cons_append, List.nil_append, List.map_cons, List.map_nil, IntKind.bits]
    refine e1.lend (.s0 rfl q1 q2 (.s0 rfl q1 q2 .nil)) trivial ?_
    simp (disch := omega) only [seval, ↓SDX, isRes, slEl, bslParts, mmAll, mmR, SUX, List.replicate, List.append, pr, lr, er, binR, ev, putA, List.set, intOf, takeAg, cellsOf, wrAll, partsOk, ones, one, isOne, wok1, findPE, List.find?, nop, prlr, isPure, pickR, optInt, rets, rv, rvs, PI, PW, QW, RN, renL_pts, bne_self_eq_false, List.length_cons, List.length_nil, List.set, List.cons_append, List.nil_append, List.map_cons, List.map_nil, IntKind.bits]
    refine callD_sw e2 (by trivial) (by trivial) (noixL_pts q) (noixL_ces _) (by rw [q2, q4]) rfl ?_
    simp (disch := omega) only [seval, ↓SDX, isRes, slEl, bslParts, mmAll, mmR, SUX, List.replicate, List.append, pr, lr, er, binR, ev, putA, List.set, intOf, takeAg, cellsOf, wrAll, partsOk, ones, one, isOne, wok1, findPE, List.find?, nop, prlr, isPure, pickR, optInt, rets, rv, rvs, PI, PW, QW, RN, renL_pts, bne_self_eq_false, List.length_cons, List.length_nil, List.set, List.cons_append, List.nil_append, List.map_cons, List.map_nil, IntKind.bits]
    refine e3.lend (.s0 rfl q3 q4 (.v .nil)) trivial ?_
    simp (disch := omega) only [seval, ↓SDX, isRes, slEl, bslParts, mmAll, mmR, SUX, List.replicate, List.append, pr, lr, er, binR, ev, putA, List.set, intOf, takeAg, cellsOf, wrAll, partsOk, ones, one, isOne, wok1, findPE, List.find?, nop, prlr, isPure, pickR, optInt, rets, rv, rvs, PI, PW, QW, RN, renL_pts, bne_self_eq_false, List.length_cons, List.length_nil, List.set, List.cons_append, List.nil_append, List.map_cons, List.map_nil, IntKind.bits]
    refine t1.step ?_
    simp (disch := omega) only [seval, ↓SDX, isRes, slEl, bslParts, mmAll, mmR, SUX, List.replicate, List.append, pr, lr, er, binR, ev, putA, List.set, intOf, takeAg, cellsOf, wrAll, partsOk, ones, one, isOne, wok1, findPE, List.find?, nop, prlr, isPure, pickR, optInt, rets, rv, rvs, PI, PW, QW, RN, renL_pts, bne_self_eq_false, List.length_cons, List.length_nil, List.set, List.cons_append, List.nil_append, List.map_cons, List.map_nil, IntKind.bits]
    refine callD_fresh t3 ⟨trivial, trivial⟩ ?_
    rintro v0 H0 ⟨rfl, rfl⟩
    simp (disch := omega) only [seval, ↓SDX, isRes, slEl, bslParts, mmAll, mmR, SUX, List.replicate, List.append, pr, lr, er, binR, ev, putA, List.set, intOf, takeAg, cellsOf, wrAll, partsOk, ones, one, isOne, wok1, findPE, List.find?, nop, prlr, isPure, pickR, optInt, rets, rv, rvs, PI, PW, QW, RN, renL_pts, bne_self_eq_false, List.length_cons, List.length_nil, List.set, List.cons_append, List.nil_append, List.map_cons, List.map_nil, IntKind.bits]
    refine e1.lend (.s0 rfl q1 q2 (.s0 rfl q1 q2 .nil)) trivial ?_
    simp (disch := omega) only [seval, ↓SDX, isRes, slEl, bslParts, mmAll, mmR, SUX, List.replicate, List.append, pr, lr, er, binR, ev, putA, List.set, intOf, takeAg, cellsOf, wrAll, partsOk, ones, one, isOne, wok1, findPE, List.find?, nop, prlr, isPure, pickR, optInt, rets, rv, rvs, PI, PW, QW, RN, renL_pts, bne_self_eq_false, List.length_cons, List.length_nil, List.set, List.cons_append, List.nil_append, List.map_cons, List.map_nil, IntKind.bits]
    refine e3.lend (.s0 rfl q3 q4 (.v .nil)) trivial ?_
    simp (disch := omega) only [seval, ↓SDX, isRes, slEl, bslParts, mmAll, mmR, SUX, List.replicate, List.append, pr, lr, er, binR, ev, putA, List.set, intOf, takeAg, cellsOf, wrAll, partsOk, ones, one, isOne, wok1, findPE, List.find?, nop, prlr, isPure, pickR, optInt, rets, rv, rvs, PI, PW, QW, RN, renL_pts, bne_self_eq_false, List.length_cons, List.length_nil, List.set, List.cons_append, List.nil_append, List.map_cons, List.map_nil, IntKind.bits]
    exact WkV.eq (by first | rfl | simp) (by first | trivial | (simp only [noix, noixL, NX, and_true, true_and]; done))
end
end Go.Proofs.Lite

namespace Go.Proofs.Lite
open Go Go.RowKit Go.ChangeShapes Go.WideShapes
noncomputable def storeOf (W : World) : Store := fun a => W.cell? a
theorem inv0_start (W : World) : Inv0 (storeOf W) [] [] W :=
  ⟨rfl, fun _ _ h => h, fun i cs h => by simp at h, fun i cs h => by simp at h, fun i h => by simp at h, fun i j li lj _ h => by rcases h with ⟨c, h⟩ | ⟨c, h⟩ <;> simp at h⟩
section
variable {P : Program}
/-- What cells of a type are known to be, when they are read as data. -/
def ReadsC (P : Program) (t : TypeId) (S : List AV → Prop) : Prop :=
  ∀ (H : Type) (enc : TypeId × Value → H) (W : World) (sp : Nat → Bool) (held : Bool) (fuel : Nat) (cs : List Value) (x : DataW H × List MemPlace), DataW.trod enc P W 0 sp held fuel t cs = some x → ∃ as, S as ∧ RepL (storeOf W) [] as cs
theorem readsC_int {t : TypeId} {k : IntKind} (ht : P.underlying t = some (.int k)) : ReadsC P t (fun as => ∃ n, (Lit.int k n).wf = true ∧ as = [.raw (.int k n)]) := by
  intro H enc W sp held fuel cs x h
  obtain ⟨n, rfl, -, hw⟩ := DataW.trod_int ht h
  exact ⟨_, ⟨n, hw, rfl⟩, by simp [RepL, Rep]⟩
theorem readsC_bool {t : TypeId} (ht : P.underlying t = some .bool) : ReadsC P t (fun as => ∃ b, as = [.raw (.bool b)]) := by
  intro H enc W sp held fuel cs x h
  obtain ⟨n, rfl, -⟩ := DataW.trod_bool ht h
  exact ⟨_, ⟨n, rfl⟩, by simp [RepL, Rep]⟩
/-- Pieces one behind the other. -/
theorem repL_flatten {D : Store} {z : Nat} {S : List AV → Prop} : ∀ {n : Nat} {cs : List Value}, cs.length = n * z → (∀ i, i < n → ∃ as, S as ∧ RepL D [] as ((cs.drop (i * z)).take z)) →
    ∃ parts : List (List AV), parts.length = n ∧ (∀ p ∈ parts, S p ∧ p.length = z) ∧ RepL D [] parts.flatten cs
  | 0, cs, hl, _ => ⟨[], rfl, fun p hp => (by cases hp), by have : cs = [] := List.length_eq_zero_iff.1 (by omega); subst this; simp [RepL]⟩
  | n + 1, cs, hl, h => by
    obtain ⟨a, ha, hr⟩ := h 0 (by omega)
    rw [Nat.zero_mul, List.drop_zero] at hr
    have hl2 : (cs.drop z).length = n * z := by rw [List.length_drop, hl, Nat.succ_mul]; omega
    obtain ⟨parts, h1, h2, h3⟩ := repL_flatten (D := D) (S := S) hl2 (fun i hi => by
      obtain ⟨b, hb, hb2⟩ := h (i + 1) (by omega)
      refine ⟨b, hb, ?_⟩
      rw [List.drop_drop, show z + i * z = (i + 1) * z from by rw [Nat.succ_mul]; omega]
      exact hb2)
    have hal : a.length = z := by
      have := hr.length
      rw [List.length_take, hl, Nat.succ_mul] at this
      omega
    refine ⟨a :: parts, by simp [h1], ?_, ?_⟩
    · intro p hp
      rcases List.mem_cons.1 hp with rfl | hp
      · exact ⟨ha, hal⟩
      · exact h2 p hp
    · have := hr.append h3
      rwa [List.take_append_drop] at this
theorem readsC_array {t e : TypeId} {n z : Nat} {S : List AV → Prop} (ht : P.underlying t = some (.array n e)) (hz : P.cellsOf e = z) (hn : P.cellsOf t = n * z) (he : ReadsC P e S) :
    ReadsC P t (fun as => ∃ parts : List (List AV), parts.length = n ∧ (∀ p ∈ parts, S p ∧ p.length = z) ∧ as = parts.flatten) := by
  intro H enc W sp held fuel cs x h
  obtain ⟨xs, m, -, -, hl, hxs, hi⟩ := DataW.trod_array ht h
  rw [hn] at hl
  rw [hz] at hi
  obtain ⟨parts, h1, h2, h3⟩ := repL_flatten (D := storeOf W) (S := S) hl (fun i hin => by
    have := hi i hin
    rw [List.getElem?_eq_getElem (by omega)] at this
    exact he H enc W sp held m _ _ this)
  exact ⟨_, ⟨parts, h1, h2, rfl⟩, h3⟩
/-- Fields one behind the other. -/
def FieldsS : List (List AV → Prop) → List AV → Prop
  | [], as => as = []
  | S :: r, as => ∃ a b, S a ∧ FieldsS r b ∧ as = a ++ b
inductive ReadsFs (P : Program) : Nat → Nat → List Field → List (List AV → Prop) → Prop
  | nil {o : Nat} : ReadsFs P o o [] []
  | cons {o o' : Nat} {f : Field} {fs : List Field} {S : List AV → Prop} {Ss : List (List AV → Prop)} (z : Nat) : f.offset = o → P.cellsOf f.type = z → ReadsC P f.type S → ReadsFs P (o + z) o' fs Ss → ReadsFs P o o' (f :: fs) (S :: Ss)
theorem ReadsFs.rep {o o' : Nat} {fs : List Field} {Ss : List (List AV → Prop)} (h : ReadsFs P o o' fs Ss) {H : Type} {enc : TypeId × Value → H} {W : World} {sp : Nat → Bool} {held : Bool} {fuel : Nat} {cs : List Value} (hl : cs.length = o')
    (hf : ∀ f ∈ fs, ∃ x, DataW.trod enc P W 0 sp held fuel f.type ((cs.drop f.offset).take (P.cellsOf f.type)) = some x) : ∃ as, FieldsS Ss as ∧ RepL (storeOf W) [] as (cs.drop o) := by
  induction h with
  | @nil o => exact ⟨[], rfl, by rw [List.drop_of_length_le (by omega)]; simp [RepL]⟩
  | @cons o o' f fs S Ss z h1 h2 h3 h4 ih =>
    obtain ⟨b, hb, hb2⟩ := ih hl (fun g hg => hf g (by simp [hg]))
    obtain ⟨x, hx⟩ := hf f (by simp)
    obtain ⟨a, ha, ha2⟩ := h3 H enc W sp held fuel _ _ hx
    rw [h1, h2] at ha2
    refine ⟨a ++ b, ⟨a, b, ha, hb, rfl⟩, ?_⟩
    have := ha2.append hb2
    rwa [show cs.drop (o + z) = (cs.drop o).drop z from by rw [List.drop_drop], List.take_append_drop] at this
theorem readsC_struct {t : TypeId} {fs : Array Field} {n : Nat} {Ss : List (List AV → Prop)} (ht : P.underlying t = some (.struct fs)) (hn : P.cellsOf t = n) (h : ReadsFs P 0 n fs.toList Ss) : ReadsC P t (FieldsS Ss) := by
  intro H enc W sp held fuel cs x hx
  obtain ⟨xs, m, -, -, hl, hxs, hi⟩ := DataW.trod_struct ht hx
  obtain ⟨as, h1, h2⟩ := h.rep (enc := enc) (W := W) (sp := sp) (held := held) (fuel := m) (cs := cs) (by omega) (fun f hf => by
    obtain ⟨i, hi1, hi2⟩ := List.getElem_of_mem hf
    have hg : fs[i]? = some f := by
      rw [← hi2]; simp
    have := hi i f hg
    rw [List.getElem?_eq_getElem (by rw [hxs]; simpa using hi1)] at this
    exact ⟨_, this⟩)
  exact ⟨as, h1, by simpa using h2⟩
theorem cells?_get {W : World} {a : Addr} {n : Nat} {cs : List Value} (h : W.cells? 0 a n = some cs) : cs.length = n ∧ ∀ k, k < n → ∃ v, cs[k]? = some v ∧ W.cell? (a.add k) = some v := by
  unfold World.cells? at h
  rw [if_pos (Nat.zero_le _)] at h
  have hl := mapM_some_length h
  rw [List.length_range] at hl
  refine ⟨hl, fun k hk => ?_⟩
  have := mapM_some_get h k k (by simp [hk])
  rw [List.getElem?_eq_getElem (by omega)] at this
  exact ⟨_, List.getElem?_eq_getElem (by omega), this⟩
theorem addr_at {a : Addr} {k : Nat} (h : a.spot = none) : a.add k = ⟨a.block, a.off + k, none⟩ := by
  unfold Addr.add
  split
  · rename_i e; subst e; rw [← h]; rfl
  · rfl
/-- Cells of the world stay in the world's known store. -/
theorem repRow_of {W : World} {a : Addr} : ∀ {as : List AV} {vs : List Value} (o : Nat), RepL (storeOf W) [] as vs → (∀ k v, vs[k]? = some v → W.cell? ⟨a.block, a.off + (o + k), none⟩ = some v ∧ a.spot = none) → RepRow (storeOf W) (some a) o as
  | [], [], _, _, _ => by simp [RepRow]
  | c :: as, v :: vs, o, h, hc => by
    simp only [RepL] at h
    simp only [RepRow]
    obtain ⟨h1, h2⟩ := hc 0 v rfl
    refine ⟨⟨a, v, rfl, h2, h1, h.1⟩, repRow_of (o + 1) h.2 (fun k v hk => ?_)⟩
    obtain ⟨h3, h4⟩ := hc (k + 1) v (by simpa using hk)
    exact ⟨by rw [show o + 1 + k = o + (k + 1) from by omega]; exact h3, h4⟩
  | [], _ :: _, _, h, _ => by simp [RepL] at h
  | _ :: _, [], _, h, _ => by simp [RepL] at h
theorem readsC_slice {t e : TypeId} {z : Nat} {S : List AV → Prop} (ht : P.underlying t = some (.slice e)) (hz : P.cellsOf e = z) (he : ReadsC P e S) :
    ReadsC P t (fun as => ∃ parts : List (List AV), parts.length ≤ 9223372036854775807 ∧ (∀ p ∈ parts, S p ∧ p.length = z) ∧ as = [.ro z parts.length parts.flatten]) := by
  intro H enc W sp held fuel cs x h
  rcases DataW.trod_slice ht h with ⟨rfl, -⟩ | ⟨a, len, cap, elems, rest, n, -, rfl, -, -, hlc, hcm, hel, hi, -, -⟩
  · exact ⟨_, ⟨[], by simp, fun p hp => (by cases hp), rfl⟩, by simp [RepL, Rep, RepRow]⟩
  · rw [hz] at hi
    -- the cells of all elements
    have each : ∀ i, i < len → ∃ cs, W.cells? 0 (a.add (i * z)) z = some cs ∧ ∃ as, S as ∧ RepL (storeOf W) [] as cs := by
      intro i hil
      have := hi i hil
      rw [List.getElem?_eq_getElem (by omega), Option.bind_eq_some_iff] at this
      obtain ⟨cs, h1, h2⟩ := this
      exact ⟨cs, h1, he H enc W sp held n _ _ h2⟩
    have key : ∀ m, m ≤ len → ∃ parts : List (List AV), parts.length = m ∧ (∀ p ∈ parts, S p ∧ p.length = z) ∧ RepRow (storeOf W) (some a) 0 parts.flatten := by
      intro m
      induction m with
      | zero => intro _; exact ⟨[], rfl, fun p hp => (by cases hp), by simp [RepRow]⟩
      | succ m ih =>
        intro hm
        obtain ⟨parts, h1, h2, h3⟩ := ih (by omega)
        obtain ⟨cs, hcs, as, hs, hr⟩ := each m (by omega)
        obtain ⟨hl, hg⟩ := cells?_get hcs
        have hal : as.length = z := by rw [hr.length, hl]
        have hfl : parts.flatten.length = m * z := by
          rw [← h1]
          clear h3 hr hs h1
          induction parts with
          | nil => simp
          | cons p ps ih2 =>
            rw [List.flatten_cons, List.length_append, ih2 (fun q hq => h2 q (by simp [hq])), (h2 p (by simp)).2, List.length_cons, Nat.succ_mul]; omega
        refine ⟨parts ++ [as], by simp [h1], ?_, ?_⟩
        · intro p hp
          rcases List.mem_append.1 hp with hp | hp
          · exact h2 p hp
          · simp at hp; subst hp; exact ⟨hs, hal⟩
        · rw [List.flatten_append]
          have hrow : RepRow (storeOf W) (some a) (m * z) as := by
            refine repRow_of (m * z) hr (fun k v hk => ?_)
            have hkz : k < z := by
              have := (List.getElem?_eq_some_iff.1 hk).1; omega
            obtain ⟨v', h5, h6⟩ := hg k hkz
            rw [hk] at h5; injection h5 with h5; subst h5
            have hspot : a.spot = none := by
              have h7 := each 0 (by omega)
              obtain ⟨cs0, hcs0, -⟩ := h7
              obtain ⟨-, hg0⟩ := cells?_get hcs0
              obtain ⟨v0, -, h8⟩ := hg0 0 (by omega)
              have : (a.add (0 * z)).add 0 = a := by simp [Addr.add]
              rw [this] at h8
              exact World.cell?_spot h8
            refine ⟨?_, hspot⟩
            rw [addr_at hspot] at h6
            rw [addr_at (by rfl)] at h6
            simpa [Nat.add_assoc] using h6
          refine RepRow.of_get (fun i c hc => ?_)
          by_cases hlt : i < parts.flatten.length
          · rw [List.getElem?_append_left hlt] at hc
            exact h3.get hc
          · rw [List.getElem?_append_right (by omega)] at hc
            simp only [List.flatten_cons, List.flatten_nil, List.append_nil] at hc
            have := hrow.get hc
            rw [hfl] at this
            rw [hfl] at hlt
            rwa [show m * z + (i - m * z) = 0 + i from by omega] at this
    obtain ⟨parts, h1, h2, h3⟩ := key len (Nat.le_refl _)
    refine ⟨_, ⟨parts, by rw [h1]; exact Nat.le_trans hlc hcm, h2, rfl⟩, ?_⟩
    simp only [RepL, Rep, and_true]
    refine ⟨some a, cap, by rw [h1], by rw [h1]; exact hlc, ?_, h3⟩
    clear h3 h1
    induction parts with
    | nil => simp
    | cons p ps ih2 =>
      rw [List.flatten_cons, List.length_append, ih2 (fun q hq => h2 q (by simp [hq])), (h2 p (by simp)).2, List.length_cons, Nat.succ_mul]; omega
/-- The same of a value that is handed over. -/
def ReadsV (P : Program) (t : TypeId) (S : AV → Prop) : Prop :=
  ∀ (H : Type) (enc : TypeId × Value → H) (W : World) (sp : Nat → Bool) (held : Bool) (r : Reach) (b0 : Nat) (v : Value) (d : DataW H) (ps : List MemPlace), Value.okWide P W r b0 t v → DataW.Trod enc P W 0 sp held t v d ps → ∃ a, S a ∧ Rep (storeOf W) [] a v
theorem readsV_struct {t : TypeId} {fs : Array Field} {S : List AV → Prop} (ht : P.underlying t = some (.struct fs)) (h : ReadsC P t S) : ReadsV P t (fun a => ∃ as, S as ∧ a = .agg as) := by
  intro H enc W sp held r b0 v d ps hok hd
  obtain ⟨cs, rfl, -⟩ := okWide_struct ht hok
  obtain ⟨fuel, hf⟩ := hd
  obtain ⟨as, h1, h2⟩ := h H enc W sp held fuel _ _ hf
  exact ⟨_, ⟨as, h1, rfl⟩, by simp only [Rep]; exact ⟨cs.toList, by simp, h2⟩⟩
theorem readsV_slice {t e : TypeId} {S : List AV → Prop} (ht : P.underlying t = some (.slice e)) (h : ReadsC P t S) : ReadsV P t (fun a => S [a]) := by
  intro H enc W sp held r b0 v d ps hok hd
  obtain ⟨a, l, c, rfl⟩ := okWide_slice ht hok
  obtain ⟨fuel, hf⟩ := hd
  obtain ⟨as, h1, h2⟩ := h H enc W sp held fuel _ _ hf
  cases as with
  | nil => simp [RepL, Value.cells] at h2
  | cons a' as => cases as with
    | nil => simp only [Value.cells, RepL, and_true] at h2; exact ⟨a', h1, h2⟩
    | cons => simp [RepL, Value.cells] at h2
def ReadsAll (P : Program) : List TypeId → List (AV → Prop) → Prop
  | [], [] => True
  | t :: ts, S :: Ss => ReadsV P t S ∧ ReadsAll P ts Ss
  | _, _ => False
def AllS : List (AV → Prop) → List AV → Prop
  | [], [] => True
  | S :: Ss, a :: as => S a ∧ AllS Ss as
  | _, _ => False
theorem readsAll_rep {H : Type} {enc : TypeId × Value → H} {W : World} {sp : Nat → Bool} {held : Bool} {r : Reach} {b0 : Nat} : ∀ {ts : List TypeId} {Ss : List (AV → Prop)} {vs : List Value} {ds : List (DataW H)} {ps : List MemPlace}, ReadsAll P ts Ss →
    DataW.TrodAll enc P W 0 sp held ts vs ds ps → (∀ (j : Nat) t v, ts[j]? = some t → vs[j]? = some v → Value.okWide P W r b0 t v) → ∃ as, AllS Ss as ∧ RepL (storeOf W) [] as vs
  | [], [], vs, ds, ps, _, h, _ => by
    obtain ⟨rfl, rfl, rfl⟩ := trodAll_nil h
    exact ⟨[], trivial, by simp [RepL]⟩
  | t :: ts, S :: Ss, vs, ds, ps, hR, h, hval => by
    obtain ⟨v, vs', d, ds', p, q, rfl, rfl, rfl, h1, h2⟩ := trodAll_cons h
    obtain ⟨a, ha, ha2⟩ := hR.1 H enc W sp held r b0 v d p (hval 0 t v rfl rfl) h1
    obtain ⟨as, has, has2⟩ := readsAll_rep hR.2 h2 (fun j t v h3 h4 => hval (j + 1) t v (by simpa using h3) (by simpa using h4))
    exact ⟨a :: as, ⟨ha, has⟩, by simp only [RepL]; exact ⟨ha2, has2⟩⟩
  | [], _ :: _, _, _, _, h, _, _ => h.elim
  | _ :: _, [], _, _, _, h, _, _ => h.elim
theorem trodAll_stays (hl : laidOutB P = true) {H : Type} {enc : TypeId × Value → H} {W W' : World} (hb : Below W.heap.size W W') {sp : Nat → Bool} : ∀ {ts : List TypeId} {vs : List Value} {ds : List (DataW H)} {ps : List MemPlace},
    (∀ t ∈ ts, P.readableRec t = true ∧ t < P.types.size) → DataW.TrodAll enc P W 0 (fun _ => true) true ts vs ds ps → (∀ x ∈ ps, x.block < W.heap.size) → (∀ x ∈ ps, sp x.block = true) → DataW.TrodAll enc P W' 0 sp true ts vs ds ps
  | [], vs, ds, ps, _, h, _, _ => by
    obtain ⟨rfl, rfl, rfl⟩ := trodAll_nil h
    exact trodAll_mk0
  | t :: ts, vs, ds, ps, hr, h, hlt, hsp => by
    obtain ⟨v, vs', d, ds', p, q, rfl, rfl, rfl, h1, h2⟩ := trodAll_cons h
    obtain ⟨hr1, hr2⟩ := hr t (by simp)
    exact trodAll_cons_mk (WideElems.Trod_stays hl hr1 hr2 h1 (fun x hx => hb.same (hlt x (by simp [hx]))) (fun x hx => hsp x (by simp [hx])))
      (trodAll_stays hl hb (fun t ht => hr t (by simp [ht])) h2 (fun x hx => hlt x (by simp [hx])) (fun x hx => hsp x (by simp [hx])))
/-- What a law's row asks behind the call: the arguments as they were. -/
theorem post_old {f : Func} {s : ChangeSpec} {apart fresh handsOn again : Bool} {H : Type} {enc : TypeId × Value → H} {W W' : World} {args : Array Value} {v : Value} {ds gs : List (DataW H)} {before pa pv : List MemPlace}
    (hW : DataW.Whole enc P f.params.toList s.vars apart W args.toList ds gs before)
    (hres : ∀ (b : Nat) (sp : Nat → Bool) (hd : Bool), DataW.TrodAll enc P W' b sp hd f.resultTypes.toList (v.resultList f.resultTypes.size) (s.fn H (ds ++ gs)).results [])
    (hargs : ∀ sp : Nat → Bool, (∀ p ∈ before, sp p.block = true) → DataW.TrodAll enc P W' 0 sp true f.params.toList args.toList (s.fn H (ds ++ gs)).args pa)
    (hvars : ∀ sp : Nat → Bool, (∀ p ∈ before, sp p.block = true) → DataW.TrodVars enc P W' sp s.vars (s.fn H (ds ++ gs)).vars pv)
    (hps : before = pa ++ pv) (hb : Below W.heap.size W W')
    (hok : ∀ (j : Nat) (t : TypeId) (r : Value), f.resultTypes[j]? = some t → (v.resultList f.resultTypes.size)[j]? = some r → Value.okWide P W' .any 0 t r) :
    s.post enc P f apart fresh handsOn again W args v W' := by
  subst hps
  have hlt := hW.lt
  have hold : ∀ p ∈ pa ++ pv, (fun b => decide (b < W.heap.size)) p.block = true := fun p hp => by simpa using hlt p hp
  have hkeep := hW
  obtain ⟨_, _, _, _, _, hz, hn⟩ := hW
  have whole : ∀ b sp hd, DataW.TrodAll enc P W' b sp hd f.resultTypes.toList (v.resultList f.resultTypes.size) (s.fn H (ds ++ gs)).results [] := hres
  refine ⟨ds, gs, pa ++ pv, [], pa, pv, hkeep, whole _ _ _, hargs _ hold, hvars _ hold, World.keptBut_mono (fun p hp => ⟨hp, .inr (List.mem_append.1 hp)⟩) (hb.frame (· ∈ pa ++ pv)), fun _ => ⟨hok, _, _, ([] ++ pa) ++ pv, ⟨[] ++ pa, pv, trodAll_append (hargs _ (fun _ _ => rfl)) (whole _ _ _), hvars _ (fun _ _ => rfl), rfl, ?_, ?_⟩, ?_⟩⟩
  · intro b off hp
    rw [List.nil_append] at hp
    rw [hb.frozen (hlt _ hp)]
    exact hz b off hp
  · intro ha
    simpa using hn ha
  · intro p hp _
    simpa using hp
/-- The contract of a law's row, out of a contract over what is known. -/
theorem law_contract {fid : FuncId} {f : Func} {s : ChangeSpec} {ts : List TypeId} {Ss : List (AV → Prop)} {tb : TypeId} {fresh handsOn again : Bool} (hts : f.params.toList = ts) (hR : ReadsAll P ts Ss) (hl : laidOutB P = true) (hr : ∀ t ∈ ts, P.readableRec t = true ∧ t < P.types.size)
    (hres : f.resultTypes = #[tb]) (htb : P.underlying tb = some .bool) (hv : s.vars = []) (hfn : ∀ (H : Type) (ds : List (DataW H)), ds.length = ts.length → (s.fn H ds).results = [.lit (.bool true)] ∧ (s.fn H ds).args = ds ∧ (s.fn H ds).vars = [])
    (hct : ∀ as, AllS Ss as → Ct P fid as [] (fun v H' => H' = [] ∧ v = .raw (.bool true)))
    {H : Type} {enc : TypeId × Value → H} {W : World} {base : Nat} {args : Array Value} {ds gs : List (DataW H)} {before : List MemPlace}
    (hval : ∀ (j : Nat) t v, f.params[j]? = some t → args[j]? = some v → Value.okWide P W .any base t v) (hW : DataW.Whole enc P f.params.toList s.vars false W args.toList ds gs before) :
    Calls P fid args W fun e W' => ∃ v, e = .returned v ∧ s.post enc P f false fresh handsOn again W args v W' := by
  have hW' := hW
  obtain ⟨p, q, hA, hV, rfl, hfz, hnd⟩ := hW
  rw [hv] at hV
  obtain ⟨rfl, rfl⟩ := trodVars_none hV
  have hA' := hA
  rw [hts] at hA
  obtain ⟨as, has, hrep⟩ := readsAll_rep hR hA (fun j t v h1 h2 => hval j t v (by rw [← hts] at h1; simpa using h1) (by simpa using h2))
  have hlen : ds.length = ts.length := by
    clear hval hW' hfz hnd hV hA' hrep has hts hR hr hfn hct
    generalize args.toList = vs at hA
    induction ts generalizing vs ds p with
    | nil => obtain ⟨-, rfl, -⟩ := trodAll_nil hA; rfl
    | cons t ts ih =>
      obtain ⟨v, vs', d, ds', p', q', rfl, rfl, rfl, h1, h2⟩ := trodAll_cons hA
      simp [ih _ _ h2]
  obtain ⟨f1, f2, f3⟩ := hfn H (ds ++ []) (by simpa using hlen)
  have hcall := hct as has (storeOf W) [] W args.toList (inv0_start W) hrep
  rw [Array.toArray_toList] at hcall
  refine hcall.mono ?_
  rintro e W' ⟨v, x, D', ρ', H', rfl, hx, ⟨rfl, rfl⟩, hb⟩
  simp only [Rep] at hx
  subst hx
  have hfr : Fr (fun _ => False) W W' := by
    have := hb.fr
    have e : InH [] ([] : Heap) = fun _ => False := by
      funext a
      apply propext
      constructor
      · rintro ⟨i, l, j, hL, -⟩
        rcases hL with ⟨c, h⟩ | ⟨c, h⟩ <;> simp at h
      · exact False.elim
    rw [← e]; exact this
  have hbel := hfr.below
  refine ⟨_, rfl, post_old (pa := p) (pv := []) hW' (fun b sp hd => ?_) (fun sp hsp => ?_) (fun sp hsp => ?_) (by simp) hbel (ok_one hres rfl (okWide_bool_mk htb _))⟩
  · rw [f1, hres]
    exact trodAll_mk1 (shut_bool htb _)
  · rw [f2, hts, List.append_nil]
    exact trodAll_stays hl hbel hr hA (fun x hx => hW'.lt x (by simpa using hx)) (fun x hx => hsp x (by simpa using hx))
  · rw [f3, hv]; exact rfl
end
end Go.Proofs.Lite

namespace Go.Proofs.Lite
open Go Go.RowKit Go.ChangeShapes Go.WideShapes
theorem wf_i64 {n : Int} (h : (Lit.int .i64 n).wf = true) : -9223372036854775808 ≤ n ∧ n < 9223372036854775808 := by
  have : -9223372036854775808 ≤ n ∧ n ≤ 9223372036854775807 := by simpa [Lit.wf, IntKind.min, IntKind.max, IntKind.signed, IntKind.bits] using h
  omega
theorem wf_u32 {n : Int} (h : (Lit.int .u32 n).wf = true) : 0 ≤ n ∧ n < 4294967296 := by
  have : 0 ≤ n ∧ n ≤ 4294967295 := by simpa [Lit.wf, IntKind.min, IntKind.max, IntKind.signed, IntKind.bits] using h
  omega
section
variable {P : Program}
theorem ReadsC.mono {t : TypeId} {S S' : List AV → Prop} (h : ReadsC P t S) (hs : ∀ as, S as → S' as) : ReadsC P t S' := by
  intro H enc W sp held fuel cs x hx
  obtain ⟨as, h1, h2⟩ := h H enc W sp held fuel cs x hx
  exact ⟨as, hs as h1, h2⟩
theorem ReadsV.mono {t : TypeId} {S S' : AV → Prop} (h : ReadsV P t S) (hs : ∀ a, S a → S' a) : ReadsV P t S' := by
  intro H enc W sp held r b0 v d ps h1 h2
  obtain ⟨a, h3, h4⟩ := h H enc W sp held r b0 v d ps h1 h2
  exact ⟨a, hs a h3, h4⟩
theorem parts_u32 : ∀ {parts : List (List AV)}, (∀ p ∈ parts, (∃ n, (Lit.int .u32 n).wf = true ∧ p = [.raw (.int .u32 n)]) ∧ p.length = 1) → ∃ l : List Nat, l.length = parts.length ∧ Lim l ∧ parts.flatten = u32s l
  | [], _ => ⟨[], rfl, fun x hx => (by cases hx), rfl⟩
  | p :: ps, h => by
    obtain ⟨⟨n, hn, rfl⟩, -⟩ := h p (by simp)
    obtain ⟨l, h1, h2, h3⟩ := parts_u32 (parts := ps) (fun q hq => h q (by simp [hq]))
    obtain ⟨w1, w2⟩ := wf_u32 hn
    refine ⟨n.toNat :: l, by simp [h1], ?_, ?_⟩
    · intro x hx
      rcases List.mem_cons.1 hx with rfl | hx
      · omega
      · exact h2 x hx
    · rw [List.flatten_cons, h3]
      simp only [u32s, List.map_cons, List.cons_append, List.nil_append]
      rw [show ((n.toNat : Nat) : Int) = n from by omega]
theorem parts_i64 : ∀ {parts : List (List AV)}, (∀ p ∈ parts, (∃ n, (Lit.int .i64 n).wf = true ∧ p = [.raw (.int .i64 n)]) ∧ p.length = 1) → ∃ l : List Int, l.length = parts.length ∧ (∀ x ∈ l, -9223372036854775808 ≤ x ∧ x < 9223372036854775808) ∧ parts.flatten = i64s l
  | [], _ => ⟨[], rfl, fun x hx => (by cases hx), rfl⟩
  | p :: ps, h => by
    obtain ⟨⟨n, hn, rfl⟩, -⟩ := h p (by simp)
    obtain ⟨l, h1, h2, h3⟩ := parts_i64 (parts := ps) (fun q hq => h q (by simp [hq]))
    refine ⟨n :: l, by simp [h1], ?_, ?_⟩
    · intro x hx
      rcases List.mem_cons.1 hx with rfl | hx
      · exact wf_i64 hn
      · exact h2 x hx
    · rw [List.flatten_cons, h3]; rfl
theorem readsC_mg {t e : TypeId} (ht : P.underlying t = some (.array 6 e)) (hz : P.cellsOf e = 1) (hn : P.cellsOf t = 6) (he : P.underlying e = some (.int .u32)) : ReadsC P t (fun as => ∃ A, as = mg A) := by
  refine (readsC_array (n := 6) (z := 1) ht hz hn (readsC_int he)).mono ?_
  rintro as ⟨parts, h1, h2, rfl⟩
  obtain ⟨l, h3, h4, h5⟩ := parts_u32 h2
  exact ⟨valL l, by rw [h5]; exact mg_valL (by omega) h4⟩
theorem readsC_wd {t : TypeId} {fs : Array Field} {f0 f1 : Field} (ht : P.underlying t = some (.struct fs)) (hfs : fs.toList = [f0, f1]) (hn : P.cellsOf t = 7) (o0 : f0.offset = 0) (o1 : f1.offset = 1) (c0 : P.cellsOf f0.type = 1) (c1 : P.cellsOf f1.type = 6)
    (h0 : ReadsC P f0.type (fun as => ∃ b, as = [.raw (.bool b)])) (h1 : ReadsC P f1.type (fun as => ∃ A, as = mg A)) : ReadsC P t (fun as => ∃ n A, as = wd n A) := by
  refine (readsC_struct (n := 7) ht hn (Ss := [_, _]) (by rw [hfs]; exact .cons 1 o0 c0 h0 (.cons 6 o1 c1 h1 .nil))).mono ?_
  rintro as ⟨a, b, ⟨n, rfl⟩, ⟨c, d, ⟨A, rfl⟩, hd, rfl⟩, rfl⟩
  obtain rfl : d = [] := hd
  exact ⟨n, A, by rw [List.append_nil]; rfl⟩
theorem readsC_pc {t : TypeId} {fs : Array Field} {f0 f1 f2 : Field} (ht : P.underlying t = some (.struct fs)) (hfs : fs.toList = [f0, f1, f2]) (hn : P.cellsOf t = 15) (o0 : f0.offset = 0) (o1 : f1.offset = 7) (o2 : f2.offset = 14) (c0 : P.cellsOf f0.type = 7) (c1 : P.cellsOf f1.type = 7) (c2 : P.cellsOf f2.type = 1)
    (h0 : ReadsC P f0.type (fun as => ∃ n A, as = wd n A)) (h1 : ReadsC P f1.type (fun as => ∃ n A, as = wd n A)) (h2 : P.underlying f2.type = some (.int .i64)) : ReadsC P t (fun as => ∃ n1 A1 n2 A2 pl, -9223372036854775808 ≤ pl ∧ pl < 9223372036854775808 ∧ as = pc n1 A1 n2 A2 pl) := by
  refine (readsC_struct (n := 15) ht hn (Ss := [_, _, _]) (by rw [hfs]; exact .cons 7 o0 c0 h0 (.cons 7 o1 c1 h1 (.cons 1 o2 c2 (readsC_int h2) .nil)))).mono ?_
  rintro as ⟨a, b, ⟨n1, A1, rfl⟩, ⟨c, d, ⟨n2, A2, rfl⟩, ⟨e, f, ⟨pl, hw, rfl⟩, hd, rfl⟩, rfl⟩, rfl⟩
  obtain rfl : f = [] := hd
  obtain ⟨w1, w2⟩ := wf_i64 hw
  exact ⟨n1, A1, n2, A2, pl, w1, w2, rfl⟩
theorem readsV_ints {t e : TypeId} (ht : P.underlying t = some (.slice e)) (hz : P.cellsOf e = 1) (he : P.underlying e = some (.int .i64)) :
    ReadsV P t (fun a => ∃ l : List Int, l.length ≤ 9223372036854775807 ∧ (∀ x ∈ l, -9223372036854775808 ≤ x ∧ x < 9223372036854775808) ∧ a = roI l) := by
  refine (readsV_slice ht (readsC_slice ht hz (readsC_int he))).mono ?_
  rintro a ⟨parts, h1, h2, h3⟩
  obtain ⟨l, h4, h5, h6⟩ := parts_i64 h2
  refine ⟨l, by omega, h5, ?_⟩
  injection h3 with h3 _
  rw [h3, h6, ← h4]
end
theorem allS_nil {xs : List AV} (h : AllS [] xs) : xs = [] := by cases xs with
  | nil => rfl
  | cons => exact h.elim
theorem allS_cons {S : AV → Prop} {Ss : List (AV → Prop)} {xs : List AV} (h : AllS (S :: Ss) xs) : ∃ a ys, xs = a :: ys ∧ S a ∧ AllS Ss ys := by cases xs with
  | nil => exact h.elim
  | cons a ys => exact ⟨a, ys, rfl, h.1, h.2⟩
end Go.Proofs.Lite
