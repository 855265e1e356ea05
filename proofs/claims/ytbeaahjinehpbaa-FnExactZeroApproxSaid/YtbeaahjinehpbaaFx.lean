/- A layer over the walk, contracts of functions, and plain laws: parts of the proof in YtbeaahjinehpbaaProof. -/
import Derived.ProofKit
import Derived.OpenShut
import Derived.JoinedCond
import Derived.Test.YtbeaahjinehpbaaEx
set_option linter.all false
namespace Go.Proofs.Lite
open Go
/-- The cells of a sturm. -/
abbrev stc (b : Bool) (ls : List (List Int)) : List AV := [.raw (.bool b), roC ls]
def tuR (ov : Bool) (ls : List (List Int)) (o : Option Nat) (v' : AV) (c' : List AV) : Prop := ∃ n o', v' = .raw (.int .i64 (n : Nat)) ∧ n ≤ ls.length ∧ c' = stc o' ls ∧ Agr ov o' o n
theorem tuR_ok {ov : Bool} {ls : List (List Int)} {o : Option Nat} : ∀ v' c', tuR ov ls o v' c' → noix v' ∧ noixL c' ∧ c'.length = (stc ov ls).length := by
  rintro v' c' ⟨x, o', rfl, -, rfl, -⟩
  exact ⟨trivial, ⟨trivial, trivial, trivial⟩, rfl⟩
def coR (ov : Bool) (ls : List (List Int)) (o : Option Int) (v' : AV) (c' : List AV) : Prop := ∃ n o', v' = .raw (.int .i64 n) ∧ -2000 ≤ n ∧ n ≤ 2000 ∧ c' = stc o' ls ∧ Agr ov o' o n
theorem coR_ok {ov : Bool} {ls : List (List Int)} {o : Option Int} : ∀ v' c', coR ov ls o v' c' → noix v' ∧ noixL c' ∧ c'.length = (stc ov ls).length := by
  rintro v' c' ⟨x, o', rfl, -, -, rfl, -⟩
  exact ⟨trivial, ⟨trivial, trivial, trivial⟩, rfl⟩
theorem turns_next {a : Int} {pl c : Nat} {b x : Int} {p : List Int} {r : List (List Int)} {RES : Option Nat} {ov o o' : Bool} (h : (o = false ∧ ov = false ∧ turnsN a pl (p :: r) c b = RES) ∨ (o = true ∧ (ov = true ∨ RES = none))) (ha : Agr o o' (valueM p a pl) x) :
    (o' = false ∧ ov = false ∧ (if x.sign = 0 then turnsN a pl r c b else turnsN a pl r (if x.sign = -b then c + 1 else c) x.sign) = RES) ∨ (o' = true ∧ (ov = true ∨ RES = none)) := by
  simp only [turnsN] at h
  rcases ha with ⟨rfl, rfl, h1⟩ | ⟨rfl, h1⟩
  · rcases h with ⟨-, h2, h3⟩ | ⟨h2, -⟩
    · rw [h1] at h3; exact .inl ⟨rfl, h2, h3⟩
    · cases h2
  · right
    refine ⟨rfl, ?_⟩
    rcases h with ⟨rfl, h2, h3⟩ | ⟨-, h2⟩
    · rcases h1 with h1 | h1
      · cases h1
      · rw [h1] at h3; exact .inr h3.symm
    · exact h2
section
variable {P : Program} {F : FnsA} (h : IsA P F)
include h
set_option maxRecDepth 20000 in
theorem I_sturm_turns_or (ov : Bool) (ls : List (List Int)) (a : Int) (pl : Nat) (hok : chainOk ls) (ha : a.natAbs < bW) (hpl : pl ≤ 100) : OwR P F.I_sturm_turns (stc ov ls) [.agg (wi a), .raw (.int .i64 (pl : Nat))] (tuR ov ls (turnsN a pl ls 0 0)) := by
  refine owR_of h.I_sturm_turns ⟨noix_wi _, trivial, trivial⟩ ⟨trivial, trivial, trivial⟩ tuR_ok ?_
  obtain ⟨RES, hRES⟩ : ∃ R, turnsN a pl ls 0 0 = R := ⟨_, rfl⟩
  rw [hRES]
  obtain ⟨-, k2, k3⟩ := hok
  have hro : AV.ro 1 ls.length (List.map roW ls) = .ro 1 ls.length (rws ls) := rfl
  have hw2 : ∀ b b' x, wr [.raw (.bool b), x] 0 (oc b') = [.raw (.bool b'), x] := fun _ _ _ => rfl
  simp (disch := omega) only [seval, ↓SDX, isRes, slEl, bslParts, mmAll, mmR, SUX, List.replicate, List.append, pr, lr, er, binR, ev, putA, List.set, intOf, takeAg, cellsOf, wrAll, partsOk, ones, one, isOne, wok1, findPE, List.find?, nop, prlr, isPure, pickR, optInt, rets, rv, rvs, I_sturm_turns_c, CN, NW, hro, IntKind.bits]
  refine loop_st (fun s : Nat × Nat × Int × Bool => ls.length - s.1) (fun s => ([.ptr 0 0, .junk, .raw (.int .i64 (pl : Nat)), .junk, .ptr 1 0, .junk, .junk, .raw (.int .i64 (s.2.1 : Nat)), .raw (.int .i64 s.2.2.1), .junk, .junk, .junk, .junk, .junk, .junk, .ro 1 ls.length (rws ls), .raw (.int .i64 (ls.length : Nat)), .raw (.int .i64 (s.1 : Nat))] ++ List.replicate 22 .junk)) (fun s => [.c [.raw (.bool s.2.2.2), .ro 1 ls.length (rws ls)], .c (wi a)])
    (fun s => s.1 ≤ ls.length ∧ s.2.1 ≤ s.1 ∧ -1 ≤ s.2.2.1 ∧ s.2.2.1 ≤ 1 ∧ ((s.2.2.2 = false ∧ ov = false ∧ turnsN a pl (ls.drop s.1) s.2.1 s.2.2.1 = RES) ∨ (s.2.2.2 = true ∧ (ov = true ∨ RES = none)))) (0, 0, 0, ov) ⟨Nat.zero_le _, Nat.le_refl _, by dsimp only; omega, by dsimp only; omega, ?_⟩ (Wk.tmps (by simp only [fits, eq_self, and_self, Int.cast_ofNat_Int, Int.natCast_add, and_true, true_and, List.replicate, List.cons_append, List.nil_append])) ?_
  · dsimp only
    cases ov
    · exact .inl ⟨rfl, rfl, hRES⟩
    · exact .inr ⟨rfl, .inl rfl⟩
  rintro ⟨k, c, b, o⟩ ⟨hk, hc, hb1, hb2, hres⟩
  dsimp only at hk hc hb1 hb2 hres ⊢
  clear hRES
  by_cases hk2 : k < ls.length
  · have g1 := rws_get hk2
    have hm : ls.getD k [] ∈ ls := by rw [List.getD_eq_getElem?_getD, List.getElem?_eq_getElem hk2]; exact List.getElem_mem _
    obtain ⟨m1, m2, m3⟩ := k3 _ hm
    have hd : ls.drop k = ls.getD k [] :: ls.drop (k + 1) := by rw [List.getD_eq_getElem?_getD, List.getElem?_eq_getElem hk2]; simp
    rw [hd] at hres
    have hval := I_calc_valueAt_or h o (ls.getD k []) a pl m1 m2 m3 ha hpl
    have hnx := fun o' x hag => turns_next (o' := o') (x := x) hres hag
    generalize ls.getD k [] = p at *
    clear hres hd hm m3 k3
    simp (disch := omega) only [seval, ↓SDX, isRes, slEl, bslParts, mmAll, mmR, SUX, List.replicate, List.append, pr, lr, er, binR, ev, putA, List.set, intOf, takeAg, cellsOf, wrAll, partsOk, ones, one, isOne, wok1, findPE, List.find?, nop, prlr, isPure, pickR, optInt, rets, rv, rvs, CN, NW, g1, rws_length, IntKind.bits]
    refine hval.step (seg := [.raw (.bool o), .ro 1 ls.length (rws ls)]) rfl (by show 0 + 1 ≤ 2; decide) rfl ?_
    rintro v0 c0 ⟨x, o', rfl, hx, rfl, hag⟩
    have hres := hnx o' x hag
    clear hnx hag
    have hsg := I_sign_pf h x hx
    have hs3 : x.sign = -1 ∨ x.sign = 0 ∨ x.sign = 1 := by
      rcases Int.lt_trichotomy x 0 with e | e | e
      · exact .inl (Int.sign_eq_neg_one_of_neg e)
      · subst e; exact .inr (.inl rfl)
      · exact .inr (.inr (Int.sign_eq_one_of_pos e))
    generalize x.sign = sg at *
    simp (disch := omega) only [seval, ↓SDX, isRes, slEl, bslParts, mmAll, mmR, SUX, List.replicate, List.append, pr, lr, er, binR, ev, putA, List.set, intOf, takeAg, cellsOf, wrAll, partsOk, ones, one, isOne, wok1, findPE, List.find?, nop, prlr, isPure, pickR, optInt, rets, rv, rvs, CN, NW, hw2, IntKind.bits]
    refine hsg.step ?_
    by_cases h0 : sg = 0
    · rw [if_pos h0] at hres
      subst h0
      simp (disch := omega) only [seval, ↓SDX, isRes, slEl, bslParts, mmAll, mmR, SUX, List.replicate, List.append, pr, lr, er, binR, ev, putA, List.set, intOf, takeAg, cellsOf, wrAll, partsOk, ones, one, isOne, wok1, findPE, List.find?, nop, prlr, isPure, pickR, optInt, rets, rv, rvs, CN, NW, IntKind.bits]
      exact ⟨(k + 1, c, b, o'), by dsimp only; omega, ⟨by dsimp only; omega, by dsimp only; omega, hb1, hb2, hres⟩, Wk.shed (n := 2) (by decide) (by simp only [fits, eq_self, and_self, Int.cast_ofNat_Int, Int.natCast_add, and_true, true_and, List.replicate, List.cons_append, List.nil_append]) (by simp only [cutL, cutAV, cutSg, CU, List.replicate, List.cons_append, List.nil_append, Nat.reduceLT, if_true, if_false, List.map_cons, List.map_nil, List.take_succ_cons, List.take_zero, cutAV]) (by simp only [cutH, cutL, cutAV, cutSg, CU, List.replicate, List.cons_append, List.nil_append, Nat.reduceLT, if_true, if_false, List.map_cons, List.map_nil, List.take_succ_cons, List.take_zero, cutAV])⟩
    rw [if_neg h0] at hres
    by_cases h1 : sg = -b
    · rw [if_pos h1] at hres
      simp (disch := omega) only [seval, ↓SDX, isRes, slEl, bslParts, mmAll, mmR, SUX, List.replicate, List.append, pr, lr, er, binR, ev, putA, List.set, intOf, takeAg, cellsOf, wrAll, partsOk, ones, one, isOne, wok1, findPE, List.find?, nop, prlr, isPure, pickR, optInt, rets, rv, rvs, CN, NW, IntKind.bits]
      exact ⟨(k + 1, c + 1, sg, o'), by dsimp only; omega, ⟨by dsimp only; omega, by dsimp only; omega, by dsimp only; omega, by dsimp only; omega, hres⟩, Wk.shed (n := 2) (by decide) (by simp only [fits, eq_self, and_self, Int.cast_ofNat_Int, Int.natCast_add, and_true, true_and, List.replicate, List.cons_append, List.nil_append]) (by simp only [cutL, cutAV, cutSg, CU, List.replicate, List.cons_append, List.nil_append, Nat.reduceLT, if_true, if_false, List.map_cons, List.map_nil, List.take_succ_cons, List.take_zero, cutAV]) (by simp only [cutH, cutL, cutAV, cutSg, CU, List.replicate, List.cons_append, List.nil_append, Nat.reduceLT, if_true, if_false, List.map_cons, List.map_nil, List.take_succ_cons, List.take_zero, cutAV])⟩
    · rw [if_neg h1] at hres
      simp (disch := omega) only [seval, ↓SDX, isRes, slEl, bslParts, mmAll, mmR, SUX, List.replicate, List.append, pr, lr, er, binR, ev, putA, List.set, intOf, takeAg, cellsOf, wrAll, partsOk, ones, one, isOne, wok1, findPE, List.find?, nop, prlr, isPure, pickR, optInt, rets, rv, rvs, CN, NW, IntKind.bits]
      exact ⟨(k + 1, c, sg, o'), by dsimp only; omega, ⟨by dsimp only; omega, by dsimp only; omega, by dsimp only; omega, by dsimp only; omega, hres⟩, Wk.shed (n := 2) (by decide) (by simp only [fits, eq_self, and_self, Int.cast_ofNat_Int, Int.natCast_add, and_true, true_and, List.replicate, List.cons_append, List.nil_append]) (by simp only [cutL, cutAV, cutSg, CU, List.replicate, List.cons_append, List.nil_append, Nat.reduceLT, if_true, if_false, List.map_cons, List.map_nil, List.take_succ_cons, List.take_zero, cutAV]) (by simp only [cutH, cutL, cutAV, cutSg, CU, List.replicate, List.cons_append, List.nil_append, Nat.reduceLT, if_true, if_false, List.map_cons, List.map_nil, List.take_succ_cons, List.take_zero, cutAV])⟩
  · have hk3 : k = ls.length := by omega
    subst hk3
    rw [List.drop_length] at hres
    simp only [turnsN] at hres
    have hag : Agr ov o RES c := by
      rcases hres with ⟨h1, h2, h3⟩ | h1
      · exact .inl ⟨h1, h2, h3.symm⟩
      · exact .inr h1
    clear k3 hres
    simp (disch := omega) only [seval, ↓SDX, isRes, slEl, bslParts, mmAll, mmR, SUX, List.replicate, List.append, pr, lr, er, binR, ev, putA, List.set, intOf, takeAg, cellsOf, wrAll, partsOk, ones, one, isOne, wok1, findPE, List.find?, nop, prlr, isPure, pickR, optInt, rets, rv, rvs, CN, NW, rws_length, OR, IntKind.bits]
    exact ⟨_, _, ⟨c, o, rfl, hc, rfl, hag⟩, WkV.eq1 rfl trivial rfl ⟨trivial, trivial, trivial⟩⟩
set_option maxRecDepth 20000 in
theorem I_sturm_count_or (ov : Bool) (ls : List (List Int)) (a b : Int) (pl : Nat) (hok : chainOk ls) (ha : a.natAbs < bW) (hb : b.natAbs < bW) (hpl : pl ≤ 100) : OwR P F.I_sturm_count (stc ov ls) [.agg (wi a), .agg (wi b), .raw (.int .i64 (pl : Nat))] (coR ov ls (countM ls a b pl)) := by
  refine owR_of h.I_sturm_count ⟨noix_wi _, noix_wi _, trivial, trivial⟩ ⟨trivial, trivial, trivial⟩ coR_ok ?_
  have t1 := I_sturm_turns_or h ov ls a pl hok ha hpl
  have hl := hok.2.1
  simp (disch := omega) only [seval, ↓SDX, isRes, slEl, bslParts, mmAll, mmR, SUX, List.replicate, List.append, pr, lr, er, binR, ev, putA, List.set, intOf, takeAg, cellsOf, wrAll, partsOk, ones, one, isOne, wok1, findPE, List.find?, nop, prlr, isPure, pickR, optInt, rets, rv, rvs, I_sturm_count_c, CN, NW, IntKind.bits]
  refine t1.step0 rfl ?_
  rintro v0 c0 ⟨x, o1, rfl, hx, rfl, hag1⟩
  have t2 := I_sturm_turns_or h o1 ls b pl hok hb hpl
  simp (disch := omega) only [seval, ↓SDX, isRes, slEl, bslParts, mmAll, mmR, SUX, List.replicate, List.append, pr, lr, er, binR, ev, putA, List.set, intOf, takeAg, cellsOf, wrAll, partsOk, ones, one, isOne, wok1, findPE, List.find?, nop, prlr, isPure, pickR, optInt, rets, rv, rvs, CN, NW, IntKind.bits]
  refine t2.step0 rfl ?_
  rintro v0 c0 ⟨y, o2, rfl, hy, rfl, hag2⟩
  have hag : Agr ov o2 (countM ls a b pl) ((x : Int) - (y : Int)) := by
    unfold countM
    rcases hag2 with ⟨rfl, rfl, h2⟩ | ⟨rfl, h2⟩
    · rcases hag1 with ⟨-, rfl, h1⟩ | ⟨h1, -⟩
      · rw [h1, h2]; exact .inl ⟨rfl, rfl, rfl⟩
      · cases h1
    · right
      refine ⟨rfl, ?_⟩
      rcases h2 with rfl | h2
      · rcases hag1 with ⟨h1, -⟩ | ⟨-, h1⟩
        · cases h1
        · rcases h1 with h1 | h1
          · exact .inl h1
          · rw [h1]; exact .inr rfl
      · right
        cases turnsN a pl ls 0 0
        · rfl
        · rw [h2]
  clear hag1 hag2
  simp (disch := omega) only [seval, ↓SDX, isRes, slEl, bslParts, mmAll, mmR, SUX, List.replicate, List.append, pr, lr, er, binR, ev, putA, List.set, intOf, takeAg, cellsOf, wrAll, partsOk, ones, one, isOne, wok1, findPE, List.find?, nop, prlr, isPure, pickR, optInt, rets, rv, rvs, CN, NW, OR, IntKind.bits]
  exact ⟨_, _, ⟨(x : Int) - (y : Int), o2, rfl, by omega, by omega, rfl, hag⟩, WkV.eq1 rfl trivial rfl ⟨trivial, trivial, trivial⟩⟩
set_option maxRecDepth 20000 in
theorem I_ValidPart_pf (n1 : Bool) (A1 : Nat) (n2 : Bool) (A2 : Nat) (pl : Int) : Pf P F.I_ValidPart [.agg (pc n1 A1 n2 A2 pl)] (.raw (.bool (partOk n1 A1 n2 A2 pl))) := by
  refine pf_of h.I_ValidPart ⟨noixL_pc .., trivial⟩ trivial ?_
  unfold partOk
  by_cases h1 : okW n1 A1 = true
  · by_cases h2 : okW n2 A2 = true
    · rw [pc_ok h1 h2, h1, h2]
      have l1 := vW_lt n1 A1
      have l2 := vW_lt n2 A2
      generalize vW n1 A1 = a at *
      generalize vW n2 A2 = b at *
      have p1 := I_ValidWide_wi h a l1
      have p2 := I_ValidWide_wi h b l2
      have p3 := I_compare_pf h a b l1 l2
      have p4 := I_placesOk_pf h pl
      clear l1 l2 h1 h2
      simp (disch := omega) only [seval, ↓SDX, isRes, slEl, bslParts, mmAll, mmR, SUX, List.replicate, List.append, pr, lr, er, binR, ev, putA, List.set, intOf, takeAg, cellsOf, wrAll, partsOk, ones, one, isOne, wok1, findPE, List.find?, nop, prlr, isPure, pickR, optInt, rets, rv, rvs, I_ValidPart_c, PI, IntKind.bits]
      refine p1.step ?_
      simp (disch := omega) only [seval, ↓SDX, isRes, slEl, bslParts, mmAll, mmR, SUX, List.replicate, List.append, pr, lr, er, binR, ev, putA, List.set, intOf, takeAg, cellsOf, wrAll, partsOk, ones, one, isOne, wok1, findPE, List.find?, nop, prlr, isPure, pickR, optInt, rets, rv, rvs, PI, IntKind.bits]
      refine p2.step ?_
      simp (disch := omega) only [seval, ↓SDX, isRes, slEl, bslParts, mmAll, mmR, SUX, List.replicate, List.append, pr, lr, er, binR, ev, putA, List.set, intOf, takeAg, cellsOf, wrAll, partsOk, ones, one, isOne, wok1, findPE, List.find?, nop, prlr, isPure, pickR, optInt, rets, rv, rvs, PI, IntKind.bits]
      refine p3.step ?_
      by_cases h3 : a < b
      · simp only [h3, if_true, decide_true]
        simp (disch := omega) only [seval, ↓SDX, isRes, slEl, bslParts, mmAll, mmR, SUX, List.replicate, List.append, pr, lr, er, binR, ev, putA, List.set, intOf, takeAg, cellsOf, wrAll, partsOk, ones, one, isOne, wok1, findPE, List.find?, nop, prlr, isPure, pickR, optInt, rets, rv, rvs, PI, IntKind.bits]
        refine p4.step ?_
        simp (disch := omega) only [seval, ↓SDX, isRes, slEl, bslParts, mmAll, mmR, SUX, List.replicate, List.append, pr, lr, er, binR, ev, putA, List.set, intOf, takeAg, cellsOf, wrAll, partsOk, ones, one, isOne, wok1, findPE, List.find?, nop, prlr, isPure, pickR, optInt, rets, rv, rvs, PI, IntKind.bits]
        exact WkV.eq (by first | rfl | simp) (by first | trivial | (simp only [noix, noixL, NX, and_true, true_and]; done))
      · have : ¬ (if b < a then (1 : Int) else 0) < 0 := by split <;> decide
        simp only [h3, if_false, decide_false]
        generalize (if b < a then (1 : Int) else 0) = q at *
        simp (disch := omega) only [seval, ↓SDX, isRes, slEl, bslParts, mmAll, mmR, SUX, List.replicate, List.append, pr, lr, er, binR, ev, putA, List.set, intOf, takeAg, cellsOf, wrAll, partsOk, ones, one, isOne, wok1, findPE, List.find?, nop, prlr, isPure, pickR, optInt, rets, rv, rvs, PI, IntKind.bits]
        exact WkV.eq (by first | rfl | simp) (by first | trivial | (simp only [noix, noixL, NX, and_true, true_and]; done))
    · have h2' : okW n2 A2 = false := by simpa using h2
      rw [h1, h2']
      have p1 := I_ValidWide_pf h n1 A1
      have p2 := I_ValidWide_pf h n2 A2
      rw [h1] at p1
      rw [h2'] at p2
      clear h1 h2 h2'
      simp (disch := omega) only [seval, ↓SDX, isRes, slEl, bslParts, mmAll, mmR, SUX, List.replicate, List.append, pr, lr, er, binR, ev, putA, List.set, intOf, takeAg, cellsOf, wrAll, partsOk, ones, one, isOne, wok1, findPE, List.find?, nop, prlr, isPure, pickR, optInt, rets, rv, rvs, I_ValidPart_c, PI, IntKind.bits]
      refine p1.step ?_
      simp (disch := omega) only [seval, ↓SDX, isRes, slEl, bslParts, mmAll, mmR, SUX, List.replicate, List.append, pr, lr, er, binR, ev, putA, List.set, intOf, takeAg, cellsOf, wrAll, partsOk, ones, one, isOne, wok1, findPE, List.find?, nop, prlr, isPure, pickR, optInt, rets, rv, rvs, PI, IntKind.bits]
      refine p2.step ?_
      simp (disch := omega) only [seval, ↓SDX, isRes, slEl, bslParts, mmAll, mmR, SUX, List.replicate, List.append, pr, lr, er, binR, ev, putA, List.set, intOf, takeAg, cellsOf, wrAll, partsOk, ones, one, isOne, wok1, findPE, List.find?, nop, prlr, isPure, pickR, optInt, rets, rv, rvs, PI, IntKind.bits]
      exact WkV.eq (by first | rfl | simp) (by first | trivial | (simp only [noix, noixL, NX, and_true, true_and]; done))
  · have h1' : okW n1 A1 = false := by simpa using h1
    rw [h1']
    have p1 := I_ValidWide_pf h n1 A1
    rw [h1'] at p1
    clear h1 h1'
    simp (disch := omega) only [seval, ↓SDX, isRes, slEl, bslParts, mmAll, mmR, SUX, List.replicate, List.append, pr, lr, er, binR, ev, putA, List.set, intOf, takeAg, cellsOf, wrAll, partsOk, ones, one, isOne, wok1, findPE, List.find?, nop, prlr, isPure, pickR, optInt, rets, rv, rvs, I_ValidPart_c, PI, IntKind.bits]
    refine p1.step ?_
    simp (disch := omega) only [seval, ↓SDX, isRes, slEl, bslParts, mmAll, mmR, SUX, List.replicate, List.append, pr, lr, er, binR, ev, putA, List.set, intOf, takeAg, cellsOf, wrAll, partsOk, ones, one, isOne, wok1, findPE, List.find?, nop, prlr, isPure, pickR, optInt, rets, rv, rvs, PI, IntKind.bits]
    exact WkV.eq (by first | rfl | simp) (by first | trivial | (simp only [noix, noixL, NX, and_true, true_and]; done))
end
end Go.Proofs.Lite

namespace Go.Proofs.Lite
open Go
theorem wr_wdneg (b n : Bool) (A : Nat) : wr (wd b A) 0 [.raw (.bool n)] = wd n A := by simp [wr, wd]
theorem wr_wdmg (n : Bool) (A B : Nat) : wr (wd n A) 1 (mg B) = wd n B := by
  unfold wr
  rw [mg_length, List.drop_of_length_le (by rw [wd_length]; decide), List.append_nil]
  rfl
theorem raws_pc : raws [.bool false, .int .u32 0, .int .u32 0, .int .u32 0, .int .u32 0, .int .u32 0, .int .u32 0, .bool false, .int .u32 0, .int .u32 0, .int .u32 0, .int .u32 0, .int .u32 0, .int .u32 0, .int .i64 0] = pc false 0 false 0 0 := by
  unfold pc; rw [← raws_wd0]; rfl
section
variable (n1 n2 n3 n4 : Bool) (A1 A2 A3 A4 : Nat) (pl pl2 : Int)
theorem wr_pc0 : wr (pc n1 A1 n2 A2 pl) 0 (wd n3 A3) = pc n3 A3 n2 A2 pl := by
  unfold wr; rw [wd_length, Nat.zero_add, pc_drop7, List.take_zero]; rfl
theorem wr_pc7 : wr (pc n1 A1 n2 A2 pl) 7 (wd n3 A3) = pc n1 A1 n3 A3 pl := by
  unfold wr; rw [wd_length, pc_drop14, pc_take7]; rfl
theorem wr_pc14 : wr (pc n1 A1 n2 A2 pl) 14 [.raw (.int .i64 pl2)] = pc n1 A1 n2 A2 pl2 := by
  have h14 : (pc n1 A1 n2 A2 pl).take 14 = wd n1 A1 ++ wd n2 A2 := by
    unfold pc
    rw [← List.append_assoc, List.take_append_of_le_length (by simp [wd_length]), List.take_of_length_le (by simp [wd_length])]
  unfold wr
  rw [h14, List.drop_of_length_le (by rw [pc_length]; simp), List.append_nil, List.append_assoc]; rfl
theorem wr_pcpc : wr (pc n1 A1 n2 A2 pl) 0 (pc n3 A3 n4 A4 pl2) = pc n3 A3 n4 A4 pl2 := wr_full (by rw [pc_length, pc_length])
theorem pc_take15 : (pc n1 A1 n2 A2 pl).take 15 = pc n1 A1 n2 A2 pl := List.take_of_length_le (by rw [pc_length]; decide)
end
def PW := And.intro @wr_wdneg <| And.intro @wr_wdmg <| And.intro @raws_pc <| And.intro @wr_pc0 <| And.intro @wr_pc7 <| And.intro @wr_pc14 <| And.intro @wr_pcpc @pc_take15
section
variable {P : Program} {F : FnsA} (h : IsA P F)
include h
set_option maxRecDepth 20000 in
theorem W_toInt64S_pf (l : List Int) (hl : l.length ≤ 1048576) : Pf P F.W_toInt64S [roI l] (roI l) := by
  refine pf_of h.W_toInt64S ⟨trivial, trivial⟩ trivial ?_
  obtain ⟨n, hn⟩ : ∃ n, l.length = n := ⟨_, rfl⟩
  rw [hn] at hl
  simp (disch := omega) only [seval, ↓SDX, isRes, slEl, bslParts, mmAll, mmR, SUX, List.replicate, List.append, pr, lr, er, binR, ev, putA, List.set, intOf, takeAg, cellsOf, wrAll, partsOk, ones, one, isOne, wok1, findPE, List.find?, nop, prlr, isPure, pickR, optInt, rets, rv, rvs, W_toInt64S_c, CN, NW, hn, RW, IntKind.bits]
  refine loop_st (fun s : Nat × List Int => n - s.1) (fun s => ([roI l, .junk, .junk, .sl 0 1 0 n true, .raw (.int .i64 (s.1 : Nat))] ++ List.replicate 17 .junk)) (fun s => [.c (i64s s.2)])
    (fun s => s.1 ≤ n ∧ s.2.length = n ∧ s.2.take s.1 = l.take s.1) (0, List.replicate n 0) ⟨Nat.zero_le _, by simp, rfl⟩ (Wk.tmps (by simp only [fits, eq_self, and_self, Int.cast_ofNat_Int, Int.natCast_add, and_true, true_and, List.replicate, List.cons_append, List.nil_append])) ?_
  rintro ⟨k, s⟩ ⟨hk, hs, ht⟩
  dsimp only at hk hs ht ⊢
  by_cases hk2 : k < n
  · have hx := i64s_get (l := l) (i := k) (by omega)
    have hst := set_take (k := k) (hs.trans hn.symm) (by omega) ht rfl
    have hsl : (s.set k (l.getD k 0)).length = n := by rw [List.length_set]; exact hs
    generalize l.getD k 0 = x at *
    simp (disch := omega) only [seval, ↓SDX, isRes, slEl, bslParts, mmAll, mmR, SUX, List.replicate, List.append, pr, lr, er, binR, ev, putA, List.set, intOf, takeAg, cellsOf, wrAll, partsOk, ones, one, isOne, wok1, findPE, List.find?, nop, prlr, isPure, pickR, optInt, rets, rv, rvs, CN, NW, hx, hs, RW, hn, IntKind.bits]
    exact ⟨(k + 1, s.set k x), by dsimp only; omega, ⟨by dsimp only; omega, hsl, hst⟩, Wk.shed (n := 1) (by decide) (by simp only [fits, eq_self, and_self, Int.cast_ofNat_Int, Int.natCast_add, and_true, true_and, List.replicate, List.cons_append, List.nil_append]) (by simp only [cutL, cutAV, cutSg, CU, List.replicate, List.cons_append, List.nil_append, Nat.reduceLT, if_true, if_false, List.map_cons, List.map_nil, List.take_succ_cons, List.take_zero, cut_i64s]) (by simp only [cutH, cutL, cutAV, cutSg, CU, List.replicate, List.cons_append, List.nil_append, Nat.reduceLT, if_true, if_false, List.map_cons, List.map_nil, List.take_succ_cons, List.take_zero, cut_i64s])⟩
  · have hk3 : k = n := by omega
    subst hk3
    rw [List.take_of_length_le (by omega), List.take_of_length_le (by omega)] at ht
    subst ht
    simp (disch := omega) only [seval, ↓SDX, isRes, slEl, bslParts, mmAll, mmR, SUX, List.replicate, List.append, pr, lr, er, binR, ev, putA, List.set, intOf, takeAg, cellsOf, wrAll, partsOk, ones, one, isOne, wok1, findPE, List.find?, nop, prlr, isPure, pickR, optInt, rets, rv, rvs, CN, NW, hn, IntKind.bits]
    refine WkV.frz (i := 0) rfl (noixL_i64s _) (WkV.eq ?_ trivial)
    simp [frz, i64s_length, List.take_of_length_le, hs]
set_option maxRecDepth 20000 in
theorem W_eqInt64S_pf (l : List Int) (hl : l.length ≤ 1048576) : Pf P F.W_eqInt64S [roI l, roI l] (.raw (.bool true)) := by
  refine pf_of h.W_eqInt64S ⟨trivial, trivial, trivial⟩ trivial ?_
  simp (disch := omega) only [seval, ↓SDX, isRes, slEl, bslParts, mmAll, mmR, SUX, List.replicate, List.append, pr, lr, er, binR, ev, putA, List.set, intOf, takeAg, cellsOf, wrAll, partsOk, ones, one, isOne, wok1, findPE, List.find?, nop, prlr, isPure, pickR, optInt, rets, rv, rvs, W_eqInt64S_c, CN, NW, IntKind.bits]
  refine loop_st (fun s : Nat => l.length - s) (fun k => ([roI l, roI l, .junk, .junk, .junk, .raw (.int .i64 (k : Nat))] ++ List.replicate 20 .junk)) (fun k => []) (fun k => k ≤ l.length) 0 (Nat.zero_le _) (Wk.tmps (by simp only [fits, eq_self, and_self, Int.cast_ofNat_Int, Int.natCast_add, and_true, true_and, List.replicate, List.cons_append, List.nil_append])) ?_
  intro k hk
  by_cases hk2 : k < l.length
  · have hx := i64s_get hk2
    generalize l.getD k 0 = x at *
    simp (disch := omega) only [seval, ↓SDX, isRes, slEl, bslParts, mmAll, mmR, SUX, List.replicate, List.append, pr, lr, er, binR, ev, putA, List.set, intOf, takeAg, cellsOf, wrAll, partsOk, ones, one, isOne, wok1, findPE, List.find?, nop, prlr, isPure, pickR, optInt, rets, rv, rvs, CN, NW, hx, IntKind.bits]
    exact ⟨k + 1, by omega, by omega, Wk.tmps (by simp only [fits, eq_self, and_self, Int.cast_ofNat_Int, Int.natCast_add, and_true, true_and, List.replicate, List.cons_append, List.nil_append])⟩
  · have : k = l.length := by omega
    subst this
    simp (disch := omega) only [seval, ↓SDX, isRes, slEl, bslParts, mmAll, mmR, SUX, List.replicate, List.append, pr, lr, er, binR, ev, putA, List.set, intOf, takeAg, cellsOf, wrAll, partsOk, ones, one, isOne, wok1, findPE, List.find?, nop, prlr, isPure, pickR, optInt, rets, rv, rvs, CN, NW, IntKind.bits]
    exact WkV.eq (by first | rfl | simp) (by first | trivial | (simp only [noix, noixL, NX, and_true, true_and]; done))
set_option maxRecDepth 20000 in
theorem W_toUint32A6_pf (A : Nat) : Pf P F.W_toUint32A6 [.agg (mg A)] (.agg (mg A)) := by
  refine pf_of h.W_toUint32A6 (by simp only [noixL, noix, NX, and_true, true_and]) (by simp only [noixL, noix, NX, and_true, true_and]) ?_
  simp (disch := omega) only [seval, ↓SDX, isRes, slEl, bslParts, mmAll, mmR, SUX, List.replicate, List.append, pr, lr, er, binR, ev, putA, List.set, intOf, takeAg, cellsOf, wrAll, partsOk, ones, one, isOne, wok1, findPE, List.find?, nop, prlr, isPure, pickR, optInt, rets, rv, rvs, W_toUint32A6_c, raws_mg0, IntKind.bits]
  refine loop_st (fun s : Nat × Nat => 6 - s.1) (fun s => ([.junk, .ptr 0 0, .ptr 1 0, .ptr 2 0, .raw (.int .i64 (s.1 : Nat))] ++ List.replicate 10 .junk)) (fun s => [.c (mg A), .c (mg 0), .c (mg s.2)])
    (fun s => s.1 ≤ 6 ∧ ∀ j, j < s.1 → dig s.2 j = dig A j) (0, 0) ⟨by decide, fun j hj => by dsimp only at hj; omega⟩ (Wk.tmps (by simp only [fits, eq_self, and_self, Int.cast_ofNat_Int, Int.natCast_add, and_true, true_and, List.replicate, List.cons_append, List.nil_append])) ?_
  rintro ⟨k, X⟩ ⟨hk, hX⟩
  dsimp only at hk hX ⊢
  by_cases hk2 : k < 6
  · have hd := dig_lt A k
    have hs : ∀ j, j < k + 1 → dig (setd X k (dig A k)) j = dig A j := fun j hj => by
      by_cases e : j = k
      · subst e; exact dig_setd hd
      · rw [dig_setd_ne hd e]; exact hX j (by omega)
    clear hX
    simp (disch := omega) only [seval, ↓SDX, isRes, slEl, bslParts, mmAll, mmR, SUX, List.replicate, List.append, pr, lr, er, binR, ev, putA, List.set, intOf, takeAg, cellsOf, wrAll, partsOk, ones, one, isOne, wok1, findPE, List.find?, nop, prlr, isPure, pickR, optInt, rets, rv, rvs, CN, mg_wrd, IntKind.bits]
    exact ⟨(k + 1, setd X k (dig A k)), by dsimp only; omega, ⟨by dsimp only; omega, hs⟩, Wk.shed (n := 3) (by decide) (by simp only [fits, eq_self, and_self, Int.cast_ofNat_Int, Int.natCast_add, and_true, true_and, List.replicate, List.cons_append, List.nil_append]) (by simp only [cutL, cutAV, cutSg, CU, List.replicate, List.cons_append, List.nil_append, Nat.reduceLT, if_true, if_false, List.map_cons, List.map_nil, List.take_succ_cons, List.take_zero]) (by simp only [cutH, cutL, cutAV, cutSg, CU, List.replicate, List.cons_append, List.nil_append, Nat.reduceLT, if_true, if_false, List.map_cons, List.map_nil, List.take_succ_cons, List.take_zero])⟩
  · have : k = 6 := by omega
    subst this
    have hm : mg X = mg A := mg_digs (fun j hj => hX j hj)
    clear hX
    simp (disch := omega) only [seval, ↓SDX, isRes, slEl, bslParts, mmAll, mmR, SUX, List.replicate, List.append, pr, lr, er, binR, ev, putA, List.set, intOf, takeAg, cellsOf, wrAll, partsOk, ones, one, isOne, wok1, findPE, List.find?, nop, prlr, isPure, pickR, optInt, rets, rv, rvs, CN, hm, IntKind.bits]
    exact WkV.eq (by first | rfl | simp) (by first | trivial | (simp only [noix, noixL, NX, and_true, true_and]; done))
set_option maxRecDepth 20000 in
theorem W_toWide_pf (n : Bool) (A : Nat) : Pf P F.W_toWide [.agg (wd n A)] (.agg (wd n A)) := by
  refine pf_of h.W_toWide (by simp only [noixL, noix, NX, and_true, true_and]) (by simp only [noixL, noix, NX, and_true, true_and]) ?_
  simp (disch := omega) only [seval, ↓SDX, isRes, slEl, bslParts, mmAll, mmR, SUX, List.replicate, List.append, pr, lr, er, binR, ev, putA, List.set, intOf, takeAg, cellsOf, wrAll, partsOk, ones, one, isOne, wok1, findPE, List.find?, nop, prlr, isPure, pickR, optInt, rets, rv, rvs, W_toWide_c, PW, IntKind.bits]
  refine (W_toUint32A6_pf h A).step ?_
  simp (disch := omega) only [seval, ↓SDX, isRes, slEl, bslParts, mmAll, mmR, SUX, List.replicate, List.append, pr, lr, er, binR, ev, putA, List.set, intOf, takeAg, cellsOf, wrAll, partsOk, ones, one, isOne, wok1, findPE, List.find?, nop, prlr, isPure, pickR, optInt, rets, rv, rvs, PW, IntKind.bits]
  exact WkV.eq (by first | rfl | simp) (by first | trivial | (simp only [noix, noixL, NX, and_true, true_and]; done))
set_option maxRecDepth 20000 in
theorem W_toPart_pf (n1 : Bool) (A1 : Nat) (n2 : Bool) (A2 : Nat) (pl : Int) : Pf P F.W_toPart [.agg (pc n1 A1 n2 A2 pl)] (.agg (pc n1 A1 n2 A2 pl)) := by
  refine pf_of h.W_toPart ⟨noixL_pc .., trivial⟩ (noixL_pc ..) ?_
  simp (disch := omega) only [seval, ↓SDX, isRes, slEl, bslParts, mmAll, mmR, SUX, List.replicate, List.append, pr, lr, er, binR, ev, putA, List.set, intOf, takeAg, cellsOf, wrAll, partsOk, ones, one, isOne, wok1, findPE, List.find?, nop, prlr, isPure, pickR, optInt, rets, rv, rvs, W_toPart_c, PI, PW, IntKind.bits]
  refine (W_toWide_pf h n1 A1).step ?_
  simp (disch := omega) only [seval, ↓SDX, isRes, slEl, bslParts, mmAll, mmR, SUX, List.replicate, List.append, pr, lr, er, binR, ev, putA, List.set, intOf, takeAg, cellsOf, wrAll, partsOk, ones, one, isOne, wok1, findPE, List.find?, nop, prlr, isPure, pickR, optInt, rets, rv, rvs, PI, PW, IntKind.bits]
  refine (W_toWide_pf h n2 A2).step ?_
  simp (disch := omega) only [seval, ↓SDX, isRes, slEl, bslParts, mmAll, mmR, SUX, List.replicate, List.append, pr, lr, er, binR, ev, putA, List.set, intOf, takeAg, cellsOf, wrAll, partsOk, ones, one, isOne, wok1, findPE, List.find?, nop, prlr, isPure, pickR, optInt, rets, rv, rvs, PI, PW, IntKind.bits]
  exact WkV.eq rfl (noixL_pc ..)
end
end Go.Proofs.Lite

namespace Go.Proofs.Lite
open Go
section
variable {P : Program} {F : FnsA} (h : IsA P F)
include h
set_option maxRecDepth 20000 in
theorem I_divide_pf (a b : Int) (ha : a.natAbs < bW) (hb0 : b ≠ 0) (hb : b.natAbs < bW) : Pf P F.I_divide [.agg (wi a), .agg (wi b)] (.tup [.agg (wi (a.fdiv b)), .agg (wi (a.fmod b))]) := by
  refine pf_of h.I_divide (by simp only [noixL, noix, NX, and_true, true_and]) (by simp only [noixL, noix, NX, and_true, true_and]) ?_
  have hB : 0 < b.natAbs := by omega
  have hp := I_size_by_pf h a.natAbs b.natAbs ha hB hb
  have hf := fdiv_parts a b hb0
  rw [hf.1, hf.2]
  have hq : a.natAbs / b.natAbs < bW := Nat.lt_of_le_of_lt (Nat.div_le_self _ _) ha
  have hr : a.natAbs % b.natAbs < b.natAbs := Nat.mod_lt _ hB
  have hr2 : a.natAbs % b.natAbs < bW := Nat.lt_trans hr hb
  have hrm : a.natAbs % b.natAbs % bW = a.natAbs % b.natAbs := Nat.mod_eq_of_lt hr2
  rw [show wi a = wd (decide (a < 0)) a.natAbs from rfl, show wi b = wd (decide (b < 0)) b.natAbs from rfl]
  clear hf
  generalize decide (a < 0) = na at *
  rw [show (if b < 0 then -((rM (na != decide (b < 0)) a.natAbs b.natAbs : Nat) : Int) else ((rM (na != decide (b < 0)) a.natAbs b.natAbs : Nat) : Int)) = (if decide (b < 0) = true then -((rM (na != decide (b < 0)) a.natAbs b.natAbs : Nat) : Int) else ((rM (na != decide (b < 0)) a.natAbs b.natAbs : Nat) : Int)) from by simp]
  generalize decide (b < 0) = nb' at *
  generalize a.natAbs = A at *
  generalize b.natAbs = B at *
  have fin : ∀ (q r : Nat), q < bW → r < bW → qM (na != nb') A B = q → rM (na != nb') A B = r →
      (AV.tup [.agg (wd ((na != nb') && !decide (q % bW = 0)) q), .agg (wd (nb' && !decide (r % bW = 0)) r)]) =
      AV.tup [.agg (wi (if (na != nb') = true then -((qM (na != nb') A B : Nat) : Int) else ((qM (na != nb') A B : Nat) : Int))), .agg (wi (if nb' = true then -((rM (na != nb') A B : Nat) : Int) else ((rM (na != nb') A B : Nat) : Int)))] := by
    intro q r h1 h2 h3 h4
    rw [made_wi _ _ h1, made_wi _ _ h2, h3, h4]
  by_cases hn : (na != nb') = true
  · have hn2 : na = !nb' := by cases na <;> cases nb' <;> first | rfl | (exact absurd hn (by decide))
    subst hn2
    have e : ((!nb') == nb') = false := by cases nb' <;> rfl
    have e2 : ((!nb') != nb') = true := by cases nb' <;> rfl
    by_cases hr0 : A % B = 0
    · rw [← fin (A / B) 0 hq (by decide) (by unfold qM; rw [if_neg (by simp [hr0])]) (by unfold rM; rw [if_neg (by simp [hr0])]; exact hr0)]
      rw [e2]
      simp (disch := omega) only [seval, ↓SDX, isRes, slEl, bslParts, mmAll, mmR, SUX, List.replicate, List.append, pr, lr, er, binR, ev, putA, List.set, intOf, takeAg, cellsOf, wrAll, partsOk, ones, one, isOne, wok1, findPE, List.find?, nop, prlr, isPure, pickR, optInt, rets, rv, rvs, I_divide_c, raws_mg0, IntKind.bits]
      refine hp.step ?_
      simp (disch := omega) only [seval, ↓SDX, isRes, slEl, bslParts, mmAll, mmR, SUX, List.replicate, List.append, pr, lr, er, binR, ev, putA, List.set, intOf, takeAg, cellsOf, wrAll, partsOk, ones, one, isOne, wok1, findPE, List.find?, nop, prlr, isPure, pickR, optInt, rets, rv, rvs, e, hrm, hr0, raws_mg0, IntKind.bits]
      refine (I_wide_pf h _ _).step ?_
      simp (disch := omega) only [seval, ↓SDX, isRes, slEl, bslParts, mmAll, mmR, SUX, List.replicate, List.append, pr, lr, er, binR, ev, putA, List.set, intOf, takeAg, cellsOf, wrAll, partsOk, ones, one, isOne, wok1, findPE, List.find?, nop, prlr, isPure, pickR, optInt, rets, rv, rvs, e, IntKind.bits]
      refine (I_wide_pf h _ _).step ?_
      simp (disch := omega) only [seval, ↓SDX, isRes, slEl, bslParts, mmAll, mmR, SUX, List.replicate, List.append, pr, lr, er, binR, ev, putA, List.set, intOf, takeAg, cellsOf, wrAll, partsOk, ones, one, isOne, wok1, findPE, List.find?, nop, prlr, isPure, pickR, optInt, rets, rv, rvs, IntKind.bits]
      exact WkV.eq (by first | rfl | simp) (by first | trivial | (simp only [noix, noixL, NX, and_true, true_and]; done))
    · have h1 : A / B + 1 < bW := by
        rcases Nat.lt_or_ge B 2 with h1 | h1
        · have : B = 1 := by omega
          subst this; rw [Nat.mod_one] at hr0; exact absurd rfl hr0
        · have h2 := Nat.div_le_div_left (a := A) h1 (by decide)
          have h3 : bW / 2 + 1 < bW := by decide
          have h4 : A / 2 ≤ bW / 2 := Nat.div_le_div_right (Nat.le_of_lt ha)
          omega
      have h2 : B - A % B < bW := Nat.lt_of_le_of_lt (Nat.sub_le _ _) hb
      rw [← fin (A / B + 1) (B - A % B) h1 h2 (by unfold qM; rw [if_pos (by simp [hr0])]) (by unfold rM; rw [if_pos (by simp [hr0])])]
      rw [e2]
      have hmin := I_size_minus_pf h B (A % B) (Nat.le_of_lt hr)
      have hpl := I_size_plus_pf h (A / B) 1
      have hone := I_one_pf h
      generalize A / B + 1 = Q at *
      generalize B - A % B = R at *
      simp (disch := omega) only [seval, ↓SDX, isRes, slEl, bslParts, mmAll, mmR, SUX, List.replicate, List.append, pr, lr, er, binR, ev, putA, List.set, intOf, takeAg, cellsOf, wrAll, partsOk, ones, one, isOne, wok1, findPE, List.find?, nop, prlr, isPure, pickR, optInt, rets, rv, rvs, I_divide_c, raws_mg0, IntKind.bits]
      refine hp.step ?_
      simp (disch := omega) only [seval, ↓SDX, isRes, slEl, bslParts, mmAll, mmR, SUX, List.replicate, List.append, pr, lr, er, binR, ev, putA, List.set, intOf, takeAg, cellsOf, wrAll, partsOk, ones, one, isOne, wok1, findPE, List.find?, nop, prlr, isPure, pickR, optInt, rets, rv, rvs, e, hrm, hr0, raws_mg0, IntKind.bits]
      refine hone.step ?_
      simp (disch := omega) only [seval, ↓SDX, isRes, slEl, bslParts, mmAll, mmR, SUX, List.replicate, List.append, pr, lr, er, binR, ev, putA, List.set, intOf, takeAg, cellsOf, wrAll, partsOk, ones, one, isOne, wok1, findPE, List.find?, nop, prlr, isPure, pickR, optInt, rets, rv, rvs, e, IntKind.bits]
      refine hpl.step ?_
      simp (disch := omega) only [seval, ↓SDX, isRes, slEl, bslParts, mmAll, mmR, SUX, List.replicate, List.append, pr, lr, er, binR, ev, putA, List.set, intOf, takeAg, cellsOf, wrAll, partsOk, ones, one, isOne, wok1, findPE, List.find?, nop, prlr, isPure, pickR, optInt, rets, rv, rvs, e, IntKind.bits]
      refine hmin.step ?_
      simp (disch := omega) only [seval, ↓SDX, isRes, slEl, bslParts, mmAll, mmR, SUX, List.replicate, List.append, pr, lr, er, binR, ev, putA, List.set, intOf, takeAg, cellsOf, wrAll, partsOk, ones, one, isOne, wok1, findPE, List.find?, nop, prlr, isPure, pickR, optInt, rets, rv, rvs, e, IntKind.bits]
      refine (I_wide_pf h _ _).step ?_
      simp (disch := omega) only [seval, ↓SDX, isRes, slEl, bslParts, mmAll, mmR, SUX, List.replicate, List.append, pr, lr, er, binR, ev, putA, List.set, intOf, takeAg, cellsOf, wrAll, partsOk, ones, one, isOne, wok1, findPE, List.find?, nop, prlr, isPure, pickR, optInt, rets, rv, rvs, e, IntKind.bits]
      refine (I_wide_pf h _ _).step ?_
      simp (disch := omega) only [seval, ↓SDX, isRes, slEl, bslParts, mmAll, mmR, SUX, List.replicate, List.append, pr, lr, er, binR, ev, putA, List.set, intOf, takeAg, cellsOf, wrAll, partsOk, ones, one, isOne, wok1, findPE, List.find?, nop, prlr, isPure, pickR, optInt, rets, rv, rvs, IntKind.bits]
      exact WkV.eq (by first | rfl | simp) (by first | trivial | (simp only [noix, noixL, NX, and_true, true_and]; done))
  · have hn' : (na != nb') = false := by simpa using hn
    have hn2 : na = nb' := by cases na <;> cases nb' <;> first | rfl | (exact absurd hn' (by decide))
    subst hn2
    have e : (na == na) = true := by simp
    have e2 : (na != na) = false := by simp
    rw [← fin (A / B) (A % B) hq hr2 (by unfold qM; rw [if_neg (by simp [e2])]) (by unfold rM; rw [if_neg (by simp [e2])])]
    rw [e2]
    simp (disch := omega) only [seval, ↓SDX, isRes, slEl, bslParts, mmAll, mmR, SUX, List.replicate, List.append, pr, lr, er, binR, ev, putA, List.set, intOf, takeAg, cellsOf, wrAll, partsOk, ones, one, isOne, wok1, findPE, List.find?, nop, prlr, isPure, pickR, optInt, rets, rv, rvs, I_divide_c, raws_mg0, IntKind.bits]
    refine hp.step ?_
    simp (disch := omega) only [seval, ↓SDX, isRes, slEl, bslParts, mmAll, mmR, SUX, List.replicate, List.append, pr, lr, er, binR, ev, putA, List.set, intOf, takeAg, cellsOf, wrAll, partsOk, ones, one, isOne, wok1, findPE, List.find?, nop, prlr, isPure, pickR, optInt, rets, rv, rvs, e, hrm, raws_mg0, IntKind.bits]
    refine (I_wide_pf h _ _).step ?_
    simp (disch := omega) only [seval, ↓SDX, isRes, slEl, bslParts, mmAll, mmR, SUX, List.replicate, List.append, pr, lr, er, binR, ev, putA, List.set, intOf, takeAg, cellsOf, wrAll, partsOk, ones, one, isOne, wok1, findPE, List.find?, nop, prlr, isPure, pickR, optInt, rets, rv, rvs, e, IntKind.bits]
    refine (I_wide_pf h _ _).step ?_
    simp (disch := omega) only [seval, ↓SDX, isRes, slEl, bslParts, mmAll, mmR, SUX, List.replicate, List.append, pr, lr, er, binR, ev, putA, List.set, intOf, takeAg, cellsOf, wrAll, partsOk, ones, one, isOne, wok1, findPE, List.find?, nop, prlr, isPure, pickR, optInt, rets, rv, rvs, IntKind.bits]
    exact WkV.eq (by first | rfl | simp) (by first | trivial | (simp only [noix, noixL, NX, and_true, true_and]; done))
end
end Go.Proofs.Lite

namespace Go.Proofs.Lite
open Go
section
variable (n1 n2 : Bool) (A1 A2 : Nat) (a b c d pl pl2 : Int)
theorem wr_pipi : wr (pi a b pl) 0 (pi c d pl2) = pi c d pl2 := wr_pcpc ..
theorem wr_pcpi : wr (pc n1 A1 n2 A2 pl) 0 (pi c d pl2) = pi c d pl2 := wr_pcpc ..
theorem wr_pipc : wr (pi c d pl2) 0 (pc n1 A1 n2 A2 pl) = pc n1 A1 n2 A2 pl := wr_pcpc ..
theorem pi_take15 : (pi a b pl).take 15 = pi a b pl := pc_take15 ..
theorem wr_piw0 : wr (pi a b pl) 0 (wi c) = pi c b pl := wr_pc0 ..
theorem wr_piw7 : wr (pi a b pl) 7 (wi c) = pi a c pl := wr_pc7 ..
theorem wr_pi14 : wr (pi a b pl) 14 [.raw (.int .i64 pl2)] = pi a b pl2 := wr_pc14 ..
theorem raws_pi : raws [.bool false, .int .u32 0, .int .u32 0, .int .u32 0, .int .u32 0, .int .u32 0, .int .u32 0, .bool false, .int .u32 0, .int .u32 0, .int .u32 0, .int .u32 0, .int .u32 0, .int .u32 0, .int .i64 0] = pi 0 0 0 := raws_pc
theorem cut_pi (n : Nat) : cutL n (pi a b pl) = pi a b pl := cutL_noix _ (noixL_pi ..)
end
def QW := And.intro @raws_pi <| And.intro @wr_piw0 <| And.intro @wr_piw7 <| And.intro @wr_pi14 <| And.intro @wr_pipi <| And.intro @pi_take15 <| And.intro @wr_pcpi <| And.intro @wr_pipc @pc_take15
/-- A part with one zero, halved till its ends are neighbours. -/
def refM (ls : List (List Int)) (pl : Nat) : Nat → Int → Int → Option (Int × Int)
  | 0, _, _ => none
  | f + 1, lo, hi =>
    if (lo + 1).natAbs < bW then
      if hi ≤ lo + 1 then some (lo, hi)
      else if (lo + hi).natAbs < bW then match countM ls lo ((lo + hi).fdiv 2) pl with
        | none => none
        | some n => if n = 1 then refM ls pl f lo ((lo + hi).fdiv 2) else refM ls pl f ((lo + hi).fdiv 2) hi
      else none
    else none
def refineM (ls : List (List Int)) (a b : Int) (d pl : Nat) : Option (Int × Int) :=
  if a.natAbs * 2 ^ d < bW ∧ b.natAbs * 2 ^ d < bW then refM ls pl ((b * 2 ^ d - a * 2 ^ d).toNat + 1) (a * 2 ^ d) (b * 2 ^ d) else none
theorem half_lt {x : Int} (h : x.natAbs < bW) : (x.fdiv 2).natAbs < bW := Nat.lt_of_le_of_lt (natAbs_fdiv_le x 2 (by decide)) h
theorem half_eq (x : Int) : x.fdiv 2 = x / 2 := Int.fdiv_eq_ediv_of_nonneg _ (by omega)
theorem ref_exit {ls : List (List Int)} {pl f : Nat} {lo hi : Int} {RES : Option (Int × Int)} (h : refM ls pl (f + 1) lo hi = RES) (hc : ¬ cl (lo + 1) < hi) : Agr false (!decide ((lo + 1).natAbs < bW)) RES (lo, hi) := by
  simp only [refM] at h
  by_cases h1 : (lo + 1).natAbs < bW
  · rw [if_pos h1] at h
    rw [cl_eq h1] at hc
    rw [if_pos (by omega)] at h
    left; exact ⟨by simp [h1], rfl, h.symm⟩
  · rw [if_neg h1] at h
    right; exact ⟨by simp [h1], .inr h.symm⟩
theorem ref_next {ls : List (List Int)} {pl f : Nat} {lo hi n : Int} {o3 : Bool} {RES : Option (Int × Int)} (h : refM ls pl (f + 1) lo hi = RES) (hc : cl (lo + 1) < hi) (hm : (hi - lo).toNat < f + 1)
    (ha : Agr (!decide ((lo + 1).natAbs < bW) || !decide ((lo + hi).natAbs < bW)) o3 (countM ls lo ((cl (lo + hi)).fdiv 2) pl) n) :
    (o3 = false ∧ (n = 1 → ((cl (lo + hi)).fdiv 2 - lo).toNat < f ∧ refM ls pl f lo ((cl (lo + hi)).fdiv 2) = RES) ∧ (n ≠ 1 → (hi - (cl (lo + hi)).fdiv 2).toNat < f ∧ refM ls pl f ((cl (lo + hi)).fdiv 2) hi = RES)) ∨ (o3 = true ∧ RES = none) := by
  simp only [refM] at h
  rcases ha with ⟨rfl, h2, h3⟩ | ⟨rfl, h2⟩
  · left
    simp only [Bool.or_eq_false_iff, Bool.not_eq_false', decide_eq_true_eq] at h2
    obtain ⟨h4, h5⟩ := h2
    rw [cl_eq h4] at hc
    rw [cl_eq h5] at h3 ⊢
    rw [if_pos h4, if_neg (by omega), if_pos h5, h3] at h
    dsimp only at h
    refine ⟨rfl, fun hn => ?_, fun hn => ?_⟩
    · rw [if_pos hn] at h
      exact ⟨by rw [half_eq]; omega, h⟩
    · rw [if_neg hn] at h
      exact ⟨by rw [half_eq]; omega, h⟩
  · right
    refine ⟨rfl, ?_⟩
    by_cases h4 : (lo + 1).natAbs < bW
    · rw [if_pos h4] at h
      rw [cl_eq h4] at hc
      rw [if_neg (by omega)] at h
      by_cases h5 : (lo + hi).natAbs < bW
      · rw [if_pos h5] at h
        rw [cl_eq h5] at h2
        rcases h2 with h2 | h2
        · simp [h4, h5] at h2
        · rw [h2] at h; exact h.symm
      · rw [if_neg h5] at h; exact h.symm
    · rw [if_neg h4] at h; exact h.symm
end Go.Proofs.Lite

namespace Go.Proofs.Lite
open Go
def rfR (ov : Bool) (ls : List (List Int)) (pl : Nat) (o : Option (Int × Int)) (v' : AV) (c' : List AV) : Prop := ∃ a b o', v' = .agg (pi a b (pl : Nat)) ∧ a.natAbs < bW ∧ b.natAbs < bW ∧ c' = stc o' ls ∧ Agr ov o' o (a, b)
theorem rfR_ok {ov : Bool} {ls : List (List Int)} {pl : Nat} {o : Option (Int × Int)} : ∀ v' c', rfR ov ls pl o v' c' → noix v' ∧ noixL c' ∧ c'.length = (stc ov ls).length := by
  rintro v' c' ⟨a, b, o', rfl, -, -, rfl, -⟩
  exact ⟨noixL_pi .., ⟨trivial, trivial, trivial⟩, rfl⟩
section
variable {P : Program} {F : FnsA} (h : IsA P F)
include h
set_option maxRecDepth 20000 in
theorem I_sturm_refine_or (ov : Bool) (ls : List (List Int)) (a b : Int) (px d pl : Nat) (hok : chainOk ls) (ha : a.natAbs < bW) (hb : b.natAbs < bW) (hd : px + d = pl) (hpl : pl ≤ 100) :
    OwR P F.I_sturm_refine (stc ov ls) [.agg (pi a b (px : Nat)), .raw (.int .i64 (pl : Nat))] (rfR ov ls pl (refineM ls a b d pl)) := by
  refine owR_of h.I_sturm_refine ⟨noixL_pi .., trivial, trivial⟩ ⟨trivial, trivial, trivial⟩ rfR_ok ?_
  have hw2 : ∀ b b' x, wr [.raw (.bool b), x] 0 (oc b') = [.raw (.bool b'), x] := fun _ _ _ => rfl
  have hro : AV.ro 1 ls.length (List.map roW ls) = .ro 1 ls.length (rws ls) := rfl
  have sd : ((pl : Nat) : Int) - ((px : Nat) : Int) = (d : Nat) := by omega
  have hu1 : Ow P F.I_calc_up (oc ov) [.agg (wi a), .raw (.int .i64 (d : Nat))] (.agg (wi (upO a d))) (oc (ov || !decide (d ≤ 191 ∧ a.natAbs * 2 ^ d < bW))) := I_calc_up_ow h ov a d ha (by omega)
  obtain ⟨o1, ho1⟩ : ∃ x, (ov || !decide (d ≤ 191 ∧ a.natAbs * 2 ^ d < bW)) = x := ⟨_, rfl⟩
  rw [ho1] at hu1
  have hu2 : Ow P F.I_calc_up (oc o1) [.agg (wi b), .raw (.int .i64 (d : Nat))] (.agg (wi (upO b d))) (oc (o1 || !decide (d ≤ 191 ∧ b.natAbs * 2 ^ d < bW))) := I_calc_up_ow h o1 b d hb (by omega)
  obtain ⟨o2, ho2⟩ : ∃ x, (o1 || !decide (d ≤ 191 ∧ b.natAbs * 2 ^ d < bW)) = x := ⟨_, rfl⟩
  rw [ho2] at hu2
  obtain ⟨RES, hRES⟩ : ∃ R, refineM ls a b d pl = R := ⟨_, rfl⟩
  rw [hRES]
  have h0 : (o2 = false ∧ ov = false ∧ refM ls pl ((upO b d - upO a d).toNat + 1) (upO a d) (upO b d) = RES) ∨ (o2 = true ∧ (ov = true ∨ RES = none)) := by
    rw [← ho2, ← ho1]
    unfold refineM at hRES
    cases ov
    · by_cases h1 : a.natAbs * 2 ^ d < bW
      · by_cases h2 : b.natAbs * 2 ^ d < bW
        · rw [if_pos ⟨h1, h2⟩] at hRES
          rw [show upO a d = a * 2 ^ d from if_pos ⟨by omega, h1⟩, show upO b d = b * 2 ^ d from if_pos ⟨by omega, h2⟩]
          left; exact ⟨by simp [h1, h2]; omega, rfl, hRES⟩
        · rw [if_neg (fun k => h2 k.2)] at hRES
          right; exact ⟨by simp [h2], .inr hRES.symm⟩
      · rw [if_neg (fun k => h1 k.1)] at hRES
        right; exact ⟨by simp [h1], .inr hRES.symm⟩
    · right; exact ⟨by simp, .inl rfl⟩
  have hl1 := upO_lt a d
  have hl2 := upO_lt b d
  generalize upO a d = lo at *
  generalize upO b d = hi at *
  clear hRES ho1 ho2
  simp (disch := omega) only [seval, ↓SDX, isRes, slEl, bslParts, mmAll, mmR, SUX, List.replicate, List.append, pr, lr, er, binR, ev, putA, List.set, intOf, takeAg, cellsOf, wrAll, partsOk, ones, one, isOne, wok1, findPE, List.find?, nop, prlr, isPure, pickR, optInt, rets, rv, rvs, I_sturm_refine_c, CN, hro, QW, PI, sd, IntKind.bits]
  refine hu1.step (seg := [.raw (.bool ov), .ro 1 ls.length (rws ls)]) rfl (by show 0 + 1 ≤ 2; decide) rfl ?_
  simp (disch := omega) only [seval, ↓SDX, isRes, slEl, bslParts, mmAll, mmR, SUX, List.replicate, List.append, pr, lr, er, binR, ev, putA, List.set, intOf, takeAg, cellsOf, wrAll, partsOk, ones, one, isOne, wok1, findPE, List.find?, nop, prlr, isPure, pickR, optInt, rets, rv, rvs, QW, PI, sd, hw2, IntKind.bits]
  refine hu2.step (seg := [.raw (.bool o1), .ro 1 ls.length (rws ls)]) rfl (by show 0 + 1 ≤ 2; decide) rfl ?_
  simp (disch := omega) only [seval, ↓SDX, isRes, slEl, bslParts, mmAll, mmR, SUX, List.replicate, List.append, pr, lr, er, binR, ev, putA, List.set, intOf, takeAg, cellsOf, wrAll, partsOk, ones, one, isOne, wok1, findPE, List.find?, nop, prlr, isPure, pickR, optInt, rets, rv, rvs, QW, PI, sd, hw2, IntKind.bits]
  refine loop_cut (fun s : Int × Int × Bool => ([.junk, .junk, .raw (.int .i64 (pl : Nat)), .junk, .junk, .junk, .ptr 2 0, .ptr 3 0, .ptr 4 0] ++ List.replicate 64 .junk)) (fun s => [.c [.raw (.bool s.2.2), .ro 1 ls.length (rws ls)], .c (pi a b (px : Nat)), .c (pi 0 0 0), .c (wi s.1), .c (wi s.2.1)])
    (fun s => s.1.natAbs < bW ∧ s.2.1.natAbs < bW ∧ Agr ov s.2.2 RES (s.1, s.2.1)) ?_ ?_
  · refine loop_st (fun s : Nat × Int × Int × Bool => if s.2.2.2 then 0 else s.1) (fun s => ([.ptr 0 0, .junk, .raw (.int .i64 (pl : Nat)), .junk, .junk, .junk, .ptr 2 0, .ptr 3 0, .ptr 4 0] ++ List.replicate 64 .junk)) (fun s => [.c [.raw (.bool s.2.2.2), .ro 1 ls.length (rws ls)], .c (pi a b (px : Nat)), .c (pi 0 0 0), .c (wi s.2.1), .c (wi s.2.2.1)])
      (fun s => s.2.1.natAbs < bW ∧ s.2.2.1.natAbs < bW ∧ (s.2.2.1 - s.2.1).toNat < s.1 ∧ ((s.2.2.2 = false ∧ ov = false ∧ refM ls pl s.1 s.2.1 s.2.2.1 = RES) ∨ (s.2.2.2 = true ∧ (ov = true ∨ RES = none)))) ((hi - lo).toNat + 1, lo, hi, o2) ⟨hl1, hl2, Nat.lt_succ_self _, h0⟩ (Wk.tmps (by simp only [fits, eq_self, and_self, Int.cast_ofNat_Int, Int.natCast_add, and_true, true_and, List.replicate, List.cons_append, List.nil_append])) ?_
    rintro ⟨f, x, y, o⟩ ⟨hx, hy, hf, hres⟩
    dsimp only at hx hy hf hres ⊢
    clear hu1 hu2 h0 hl1 hl2
    rcases hres with ⟨rfl, rfl, hres⟩ | ⟨rfl, hres⟩
    · obtain ⟨f, rfl⟩ : ∃ f', f = f' + 1 := ⟨f - 1, by omega⟩
      have hadd := I_calc_add_ow h false x 1 hx (by decide)
      rw [Bool.false_or] at hadd
      have hof := I_WideOf_pf h 1 (by decide) (by decide)
      have hsl := cl_lt (x + 1)
      have hcm := I_compare_pf h (cl (x + 1)) y hsl hy
      by_cases hc : cl (x + 1) < y
      · have hadd2 := I_calc_add_ow h (!decide ((x + 1).natAbs < bW)) x y hx hy
        have hof2 := I_WideOf_pf h 2 (by decide) (by decide)
        have hsl2 := cl_lt (x + y)
        have hdv := I_divide_pf h (cl (x + y)) 2 hsl2 (by decide) (by decide)
        have hml := half_lt hsl2
        have hct := I_sturm_count_or h (!decide ((x + 1).natAbs < bW) || !decide ((x + y).natAbs < bW)) ls x ((cl (x + y)).fdiv 2) pl hok hx hml hpl
        have hnx := fun n o3 hag => ref_next (n := n) (o3 := o3) hres hc hf hag
        rw [if_pos hc] at hcm
        generalize (cl (x + y)).fmod 2 = rm at *
        generalize (cl (x + y)).fdiv 2 = m at *
        generalize cl (x + y) = sm at *
        generalize cl (x + 1) = x1 at *
        generalize (!decide ((x + 1).natAbs < bW)) = o4 at *
        generalize (!decide ((x + y).natAbs < bW)) = o5 at *
        clear hres hc hf
        simp (disch := omega) only [seval, ↓SDX, isRes, slEl, bslParts, mmAll, mmR, SUX, List.replicate, List.append, pr, lr, er, binR, ev, putA, List.set, intOf, takeAg, cellsOf, wrAll, partsOk, ones, one, isOne, wok1, findPE, List.find?, nop, prlr, isPure, pickR, optInt, rets, rv, rvs, CN, IntKind.bits]
        refine hof.step ?_
        simp (disch := omega) only [seval, ↓SDX, isRes, slEl, bslParts, mmAll, mmR, SUX, List.replicate, List.append, pr, lr, er, binR, ev, putA, List.set, intOf, takeAg, cellsOf, wrAll, partsOk, ones, one, isOne, wok1, findPE, List.find?, nop, prlr, isPure, pickR, optInt, rets, rv, rvs, CN, IntKind.bits]
        refine hadd.step (seg := [.raw (.bool false), .ro 1 ls.length (rws ls)]) rfl (by show 0 + 1 ≤ 2; decide) rfl ?_
        simp (disch := omega) only [seval, ↓SDX, isRes, slEl, bslParts, mmAll, mmR, SUX, List.replicate, List.append, pr, lr, er, binR, ev, putA, List.set, intOf, takeAg, cellsOf, wrAll, partsOk, ones, one, isOne, wok1, findPE, List.find?, nop, prlr, isPure, pickR, optInt, rets, rv, rvs, CN, hw2, IntKind.bits]
        refine hcm.step ?_
        simp (disch := omega) only [seval, ↓SDX, isRes, slEl, bslParts, mmAll, mmR, SUX, List.replicate, List.append, pr, lr, er, binR, ev, putA, List.set, intOf, takeAg, cellsOf, wrAll, partsOk, ones, one, isOne, wok1, findPE, List.find?, nop, prlr, isPure, pickR, optInt, rets, rv, rvs, CN, hw2, IntKind.bits]
        refine hadd2.step (seg := [.raw (.bool o4), .ro 1 ls.length (rws ls)]) rfl (by show 0 + 1 ≤ 2; decide) rfl ?_
        simp (disch := omega) only [seval, ↓SDX, isRes, slEl, bslParts, mmAll, mmR, SUX, List.replicate, List.append, pr, lr, er, binR, ev, putA, List.set, intOf, takeAg, cellsOf, wrAll, partsOk, ones, one, isOne, wok1, findPE, List.find?, nop, prlr, isPure, pickR, optInt, rets, rv, rvs, CN, hw2, IntKind.bits]
        refine hof2.step ?_
        simp (disch := omega) only [seval, ↓SDX, isRes, slEl, bslParts, mmAll, mmR, SUX, List.replicate, List.append, pr, lr, er, binR, ev, putA, List.set, intOf, takeAg, cellsOf, wrAll, partsOk, ones, one, isOne, wok1, findPE, List.find?, nop, prlr, isPure, pickR, optInt, rets, rv, rvs, CN, hw2, IntKind.bits]
        refine hdv.step ?_
        simp (disch := omega) only [seval, ↓SDX, isRes, slEl, bslParts, mmAll, mmR, SUX, List.replicate, List.append, pr, lr, er, binR, ev, putA, List.set, intOf, takeAg, cellsOf, wrAll, partsOk, ones, one, isOne, wok1, findPE, List.find?, nop, prlr, isPure, pickR, optInt, rets, rv, rvs, CN, hw2, IntKind.bits]
        refine hct.step0 rfl ?_
        rintro v0 c0 ⟨n, o3, rfl, -, -, rfl, hag⟩
        have hn := hnx n o3 hag
        clear hnx hag
        by_cases h1 : n = 1
        · have key : ∃ f2, (m - x).toNat < f2 ∧ (if o3 then 0 else f2) < f + 1 ∧ ((o3 = false ∧ refM ls pl f2 x m = RES) ∨ (o3 = true ∧ RES = none)) := by
            rcases hn with ⟨rfl, hn1, -⟩ | ⟨rfl, hn⟩
            · obtain ⟨h2, h3⟩ := hn1 h1
              exact ⟨f, h2, by simp, .inl ⟨rfl, h3⟩⟩
            · exact ⟨(m - x).toNat + 1, by omega, by simp, .inr ⟨rfl, hn⟩⟩
          obtain ⟨f2, k1, k2, k3⟩ := key
          clear hn
          simp (disch := omega) only [seval, ↓SDX, isRes, slEl, bslParts, mmAll, mmR, SUX, List.replicate, List.append, pr, lr, er, binR, ev, putA, List.set, intOf, takeAg, cellsOf, wrAll, partsOk, ones, one, isOne, wok1, findPE, List.find?, nop, prlr, isPure, pickR, optInt, rets, rv, rvs, CN, hw2, h1, hro, IntKind.bits]
          refine ⟨(f2, x, m, o3), ?_, ⟨hx, hml, k1, k3⟩, Wk.shed (n := 5) (by decide) (by simp only [fits, eq_self, and_self, Int.cast_ofNat_Int, Int.natCast_add, and_true, true_and, List.replicate, List.cons_append, List.nil_append]) (by simp only [cutL, cutAV, cutSg, CU, List.replicate, List.cons_append, List.nil_append, Nat.reduceLT, if_true, if_false, List.map_cons, List.map_nil, List.take_succ_cons, List.take_zero, cutAV, cut_pi, hro]) (by simp only [cutH, cutL, cutAV, cutSg, CU, List.replicate, List.cons_append, List.nil_append, Nat.reduceLT, if_true, if_false, List.map_cons, List.map_nil, List.take_succ_cons, List.take_zero, cutAV, cut_pi, hro])⟩
          simpa using k2
        · have key : ∃ f2, (y - m).toNat < f2 ∧ (if o3 then 0 else f2) < f + 1 ∧ ((o3 = false ∧ refM ls pl f2 m y = RES) ∨ (o3 = true ∧ RES = none)) := by
            rcases hn with ⟨rfl, -, hn1⟩ | ⟨rfl, hn⟩
            · obtain ⟨h2, h3⟩ := hn1 h1
              exact ⟨f, h2, by simp, .inl ⟨rfl, h3⟩⟩
            · exact ⟨(y - m).toNat + 1, by omega, by simp, .inr ⟨rfl, hn⟩⟩
          obtain ⟨f2, k1, k2, k3⟩ := key
          clear hn
          simp (disch := omega) only [seval, ↓SDX, isRes, slEl, bslParts, mmAll, mmR, SUX, List.replicate, List.append, pr, lr, er, binR, ev, putA, List.set, intOf, takeAg, cellsOf, wrAll, partsOk, ones, one, isOne, wok1, findPE, List.find?, nop, prlr, isPure, pickR, optInt, rets, rv, rvs, CN, hw2, h1, hro, IntKind.bits]
          refine ⟨(f2, m, y, o3), ?_, ⟨hml, hy, k1, k3⟩, Wk.shed (n := 5) (by decide) (by simp only [fits, eq_self, and_self, Int.cast_ofNat_Int, Int.natCast_add, and_true, true_and, List.replicate, List.cons_append, List.nil_append]) (by simp only [cutL, cutAV, cutSg, CU, List.replicate, List.cons_append, List.nil_append, Nat.reduceLT, if_true, if_false, List.map_cons, List.map_nil, List.take_succ_cons, List.take_zero, cutAV, cut_pi, hro]) (by simp only [cutH, cutL, cutAV, cutSg, CU, List.replicate, List.cons_append, List.nil_append, Nat.reduceLT, if_true, if_false, List.map_cons, List.map_nil, List.take_succ_cons, List.take_zero, cutAV, cut_pi, hro])⟩
          simpa using k2
      · have hex := ref_exit hres hc
        rw [if_neg hc] at hcm
        have hge : 0 ≤ (if y < cl (x + 1) then (1 : Int) else 0) := by split <;> decide
        generalize (if y < cl (x + 1) then (1 : Int) else 0) = q at *
        generalize cl (x + 1) = x1 at *
        generalize (!decide ((x + 1).natAbs < bW)) = o4 at *
        clear hres hc hf
        simp (disch := omega) only [seval, ↓SDX, isRes, slEl, bslParts, mmAll, mmR, SUX, List.replicate, List.append, pr, lr, er, binR, ev, putA, List.set, intOf, takeAg, cellsOf, wrAll, partsOk, ones, one, isOne, wok1, findPE, List.find?, nop, prlr, isPure, pickR, optInt, rets, rv, rvs, CN, IntKind.bits]
        refine hof.step ?_
        simp (disch := omega) only [seval, ↓SDX, isRes, slEl, bslParts, mmAll, mmR, SUX, List.replicate, List.append, pr, lr, er, binR, ev, putA, List.set, intOf, takeAg, cellsOf, wrAll, partsOk, ones, one, isOne, wok1, findPE, List.find?, nop, prlr, isPure, pickR, optInt, rets, rv, rvs, CN, IntKind.bits]
        refine hadd.step (seg := [.raw (.bool false), .ro 1 ls.length (rws ls)]) rfl (by show 0 + 1 ≤ 2; decide) rfl ?_
        simp (disch := omega) only [seval, ↓SDX, isRes, slEl, bslParts, mmAll, mmR, SUX, List.replicate, List.append, pr, lr, er, binR, ev, putA, List.set, intOf, takeAg, cellsOf, wrAll, partsOk, ones, one, isOne, wok1, findPE, List.find?, nop, prlr, isPure, pickR, optInt, rets, rv, rvs, CN, hw2, IntKind.bits]
        refine hcm.step ?_
        simp (disch := omega) only [seval, ↓SDX, isRes, slEl, bslParts, mmAll, mmR, SUX, List.replicate, List.append, pr, lr, er, binR, ev, putA, List.set, intOf, takeAg, cellsOf, wrAll, partsOk, ones, one, isOne, wok1, findPE, List.find?, nop, prlr, isPure, pickR, optInt, rets, rv, rvs, CN, hw2, IntKind.bits]
        exact ⟨(x, y, o4), ⟨hx, hy, hex⟩, Wk.shed (n := 5) (by decide) (by simp only [fits, eq_self, and_self, Int.cast_ofNat_Int, Int.natCast_add, and_true, true_and, List.replicate, List.cons_append, List.nil_append]) (by simp only [cutL, cutAV, cutSg, CU, List.replicate, List.cons_append, List.nil_append, Nat.reduceLT, if_true, if_false, List.map_cons, List.map_nil, List.take_succ_cons, List.take_zero, cutAV, cut_pi]) (by simp only [cutH, cutL, cutAV, cutSg, CU, List.replicate, List.cons_append, List.nil_append, Nat.reduceLT, if_true, if_false, List.map_cons, List.map_nil, List.take_succ_cons, List.take_zero, cutAV, cut_pi])⟩
    · simp (disch := omega) only [seval, ↓SDX, isRes, slEl, bslParts, mmAll, mmR, SUX, List.replicate, List.append, pr, lr, er, binR, ev, putA, List.set, intOf, takeAg, cellsOf, wrAll, partsOk, ones, one, isOne, wok1, findPE, List.find?, nop, prlr, isPure, pickR, optInt, rets, rv, rvs, CN, IntKind.bits]
      exact ⟨(x, y, true), ⟨hx, hy, .inr ⟨rfl, hres⟩⟩, Wk.shed (n := 5) (by decide) (by simp only [fits, eq_self, and_self, Int.cast_ofNat_Int, Int.natCast_add, and_true, true_and, List.replicate, List.cons_append, List.nil_append]) (by simp only [cutL, cutAV, cutSg, CU, List.replicate, List.cons_append, List.nil_append, Nat.reduceLT, if_true, if_false, List.map_cons, List.map_nil, List.take_succ_cons, List.take_zero, cutAV, cut_pi]) (by simp only [cutH, cutL, cutAV, cutSg, CU, List.replicate, List.cons_append, List.nil_append, Nat.reduceLT, if_true, if_false, List.map_cons, List.map_nil, List.take_succ_cons, List.take_zero, cutAV, cut_pi])⟩
  · rintro ⟨x, y, o⟩ ⟨hx, hy, hag⟩
    dsimp only at hx hy hag ⊢
    clear hu1 hu2 h0 hl1 hl2
    simp (disch := omega) only [seval, ↓SDX, isRes, slEl, bslParts, mmAll, mmR, SUX, List.replicate, List.append, pr, lr, er, binR, ev, putA, List.set, intOf, takeAg, cellsOf, wrAll, partsOk, ones, one, isOne, wok1, findPE, List.find?, nop, prlr, isPure, pickR, optInt, rets, rv, rvs, CN, OR, QW, PI, IntKind.bits]
    exact ⟨_, _, ⟨x, y, o, rfl, hx, hy, rfl, hag⟩, WkV.eq1 rfl (noixL_pi ..) rfl ⟨trivial, trivial, trivial⟩⟩
end
end Go.Proofs.Lite

namespace Go.Proofs.Lite
open Go
def oP (pl : Nat) : Option (Int × Int) → AV
  | some (x, y) => .tup [.agg (pi x y (pl : Nat)), .raw (.int .i64 0)]
  | none => .tup [.agg (pi 0 0 0), .raw (.int .i64 3)]
theorem noix_oP (pl : Nat) (o : Option (Int × Int)) : noix (oP pl o) := by rcases o with _ | ⟨x, y⟩ <;> exact ⟨noixL_pi .., trivial, trivial⟩
/-- The code of what is asked. -/
def partedM (p : List Int) (n1 : Bool) (A1 : Nat) (n2 : Bool) (A2 : Nat) (px pl : Int) : Int :=
  if polyOk p && partOk n1 A1 n2 A2 px then if decide (0 ≤ pl) && decide (pl ≤ 64) then 0 else 2 else 1
section
variable {P : Program} {F : FnsA} (h : IsA P F)
include h
set_option maxRecDepth 20000 in
theorem S_l05Parted_pf (p : List Int) (hl : p.length ≤ 1048576) (n1 : Bool) (A1 : Nat) (n2 : Bool) (A2 : Nat) (px pl : Int) : Pf P F.S_l05Parted [roI p, .rp (pc n1 A1 n2 A2 px), .raw (.int .i64 pl)] (.raw (.int .i64 (partedM p n1 A1 n2 A2 px pl))) := by
  refine pf_of h.S_l05Parted ⟨trivial, trivial, trivial, trivial⟩ trivial ?_
  have h1 := S_l05Ok_pf h p hl
  have h2 := S_l05Part_pf h n1 A1 n2 A2 px
  have h3 := S_l02Places_pf h pl
  unfold partedM
  generalize polyOk p = b1 at *
  generalize partOk n1 A1 n2 A2 px = b2 at *
  generalize (decide (0 ≤ pl) && decide (pl ≤ 64)) = b3 at *
  cases b1
  · simp (disch := omega) only [seval, ↓SDX, isRes, slEl, bslParts, mmAll, mmR, SUX, List.replicate, List.append, pr, lr, er, binR, ev, putA, List.set, intOf, takeAg, cellsOf, wrAll, partsOk, ones, one, isOne, wok1, findPE, List.find?, nop, prlr, isPure, pickR, optInt, rets, rv, rvs, S_l05Parted_c, IntKind.bits]
    refine h1.step ?_
    simp (disch := omega) only [seval, ↓SDX, isRes, slEl, bslParts, mmAll, mmR, SUX, List.replicate, List.append, pr, lr, er, binR, ev, putA, List.set, intOf, takeAg, cellsOf, wrAll, partsOk, ones, one, isOne, wok1, findPE, List.find?, nop, prlr, isPure, pickR, optInt, rets, rv, rvs, IntKind.bits]
    exact WkV.eq (by first | rfl | simp) (by first | trivial | (simp only [noix, noixL, NX, and_true, true_and]; done))
  · cases b2
    · simp (disch := omega) only [seval, ↓SDX, isRes, slEl, bslParts, mmAll, mmR, SUX, List.replicate, List.append, pr, lr, er, binR, ev, putA, List.set, intOf, takeAg, cellsOf, wrAll, partsOk, ones, one, isOne, wok1, findPE, List.find?, nop, prlr, isPure, pickR, optInt, rets, rv, rvs, S_l05Parted_c, IntKind.bits]
      refine h1.step ?_
      simp (disch := omega) only [seval, ↓SDX, isRes, slEl, bslParts, mmAll, mmR, SUX, List.replicate, List.append, pr, lr, er, binR, ev, putA, List.set, intOf, takeAg, cellsOf, wrAll, partsOk, ones, one, isOne, wok1, findPE, List.find?, nop, prlr, isPure, pickR, optInt, rets, rv, rvs, IntKind.bits]
      refine h2.step ?_
      simp (disch := omega) only [seval, ↓SDX, isRes, slEl, bslParts, mmAll, mmR, SUX, List.replicate, List.append, pr, lr, er, binR, ev, putA, List.set, intOf, takeAg, cellsOf, wrAll, partsOk, ones, one, isOne, wok1, findPE, List.find?, nop, prlr, isPure, pickR, optInt, rets, rv, rvs, IntKind.bits]
      exact WkV.eq (by first | rfl | simp) (by first | trivial | (simp only [noix, noixL, NX, and_true, true_and]; done))
    · cases b3
      all_goals
        simp (disch := omega) only [seval, ↓SDX, isRes, slEl, bslParts, mmAll, mmR, SUX, List.replicate, List.append, pr, lr, er, binR, ev, putA, List.set, intOf, takeAg, cellsOf, wrAll, partsOk, ones, one, isOne, wok1, findPE, List.find?, nop, prlr, isPure, pickR, optInt, rets, rv, rvs, S_l05Parted_c, IntKind.bits]
        refine h1.step ?_
        simp (disch := omega) only [seval, ↓SDX, isRes, slEl, bslParts, mmAll, mmR, SUX, List.replicate, List.append, pr, lr, er, binR, ev, putA, List.set, intOf, takeAg, cellsOf, wrAll, partsOk, ones, one, isOne, wok1, findPE, List.find?, nop, prlr, isPure, pickR, optInt, rets, rv, rvs, IntKind.bits]
        refine h2.step ?_
        simp (disch := omega) only [seval, ↓SDX, isRes, slEl, bslParts, mmAll, mmR, SUX, List.replicate, List.append, pr, lr, er, binR, ev, putA, List.set, intOf, takeAg, cellsOf, wrAll, partsOk, ones, one, isOne, wok1, findPE, List.find?, nop, prlr, isPure, pickR, optInt, rets, rv, rvs, IntKind.bits]
        refine h3.step ?_
        simp (disch := omega) only [seval, ↓SDX, isRes, slEl, bslParts, mmAll, mmR, SUX, List.replicate, List.append, pr, lr, er, binR, ev, putA, List.set, intOf, takeAg, cellsOf, wrAll, partsOk, ones, one, isOne, wok1, findPE, List.find?, nop, prlr, isPure, pickR, optInt, rets, rv, rvs, IntKind.bits]
        exact WkV.eq (by first | rfl | simp) (by first | trivial | (simp only [noix, noixL, NX, and_true, true_and]; done))
set_option maxRecDepth 20000 in
theorem S_l05Refine_pf (ls : List (List Int)) (a b : Int) (px d pl : Nat) (hok : chainOk ls) (ha : a.natAbs < bW) (hb : b.natAbs < bW) (hd : px + d = pl) (hpl : pl ≤ 100) :
    Pf P F.S_l05Refine [.ro 1 ls.length (rws ls), .agg (pi a b (px : Nat)), .raw (.int .i64 (pl : Nat))] (oP pl (refineM ls a b d pl)) := by
  refine pf_of h.S_l05Refine ⟨trivial, noixL_pi .., trivial, trivial⟩ (noix_oP _ _) ?_
  have sd : ((pl : Nat) : Int) - ((px : Nat) : Int) = (d : Nat) := by omega
  have hu1 := S_l01Up_pf h a d ha (by omega)
  have hu2 := S_l01Up_pf h b d hb (by omega)
  unfold refineM
  by_cases h1 : a.natAbs * 2 ^ d < bW
  · by_cases h2 : b.natAbs * 2 ^ d < bW
    · rw [if_pos h1] at hu1
      rw [if_pos h2] at hu2
      rw [if_pos ⟨h1, h2⟩]
      have hl1 : (a * 2 ^ d).natAbs < bW := by rw [Int.natAbs_mul, Int.natAbs_pow]; exact h1
      have hl2 : (b * 2 ^ d).natAbs < bW := by rw [Int.natAbs_mul, Int.natAbs_pow]; exact h2
      generalize a * 2 ^ d = lo at *
      generalize b * 2 ^ d = hi at *
      obtain ⟨RES, hRES⟩ : ∃ R, refM ls pl ((hi - lo).toNat + 1) lo hi = R := ⟨_, rfl⟩
      rw [hRES]
      clear h1 h2
      simp (disch := omega) only [seval, ↓SDX, isRes, slEl, bslParts, mmAll, mmR, SUX, List.replicate, List.append, pr, lr, er, binR, ev, putA, List.set, intOf, takeAg, cellsOf, wrAll, partsOk, ones, one, isOne, wok1, findPE, List.find?, nop, prlr, isPure, pickR, optInt, rets, rv, rvs, S_l05Refine_c, CN, QW, PI, sd, IntKind.bits]
      refine hu1.step ?_
      simp (disch := omega) only [seval, ↓SDX, isRes, slEl, bslParts, mmAll, mmR, SUX, List.replicate, List.append, pr, lr, er, binR, ev, putA, List.set, intOf, takeAg, cellsOf, wrAll, partsOk, ones, one, isOne, wok1, findPE, List.find?, nop, prlr, isPure, pickR, optInt, rets, rv, rvs, CN, QW, PI, sd, IntKind.bits]
      refine hu2.step ?_
      simp (disch := omega) only [seval, ↓SDX, isRes, slEl, bslParts, mmAll, mmR, SUX, List.replicate, List.append, pr, lr, er, binR, ev, putA, List.set, intOf, takeAg, cellsOf, wrAll, partsOk, ones, one, isOne, wok1, findPE, List.find?, nop, prlr, isPure, pickR, optInt, rets, rv, rvs, CN, QW, PI, sd, IntKind.bits]
      refine loop_st (fun s : Nat × Int × Int => s.1) (fun s => ([.ro 1 ls.length (rws ls), .junk, .raw (.int .i64 (pl : Nat)), .junk, .junk, .junk, .ptr 1 0, .junk, .ptr 2 0, .junk, .ptr 3 0] ++ List.replicate 84 .junk)) (fun s => [.c (pi a b (px : Nat)), .c (pi 0 0 0), .c (wi s.2.1), .c (wi s.2.2)])
        (fun s => s.2.1.natAbs < bW ∧ s.2.2.natAbs < bW ∧ (s.2.2 - s.2.1).toNat < s.1 ∧ refM ls pl s.1 s.2.1 s.2.2 = RES) ((hi - lo).toNat + 1, lo, hi) ⟨hl1, hl2, Nat.lt_succ_self _, hRES⟩ (Wk.tmps (by simp only [fits, eq_self, and_self, Int.cast_ofNat_Int, Int.natCast_add, and_true, true_and, List.replicate, List.cons_append, List.nil_append])) ?_
      rintro ⟨f, x, y⟩ ⟨hx, hy, hf, hres⟩
      dsimp only at hx hy hf hres ⊢
      clear hu1 hu2 hRES hl1 hl2
      obtain ⟨f, rfl⟩ : ∃ f', f = f' + 1 := ⟨f - 1, by omega⟩
      simp only [refM] at hres
      have hof := S_l01Of_pf h 1 (by decide) (by decide)
      have hadd := S_l01Add_pf h x 1 hx (by decide)
      by_cases h1 : (x + 1).natAbs < bW
      · rw [if_pos h1] at hadd hres
        have hcm := S_l01Compare_pf h y (x + 1) hy h1
        by_cases h2 : y ≤ x + 1
        · rw [if_pos h2] at hres
          have hle : (if y < x + 1 then (-1 : Int) else if x + 1 < y then 1 else 0) ≤ 0 := by
            by_cases k : y < x + 1
            · rw [if_pos k]; decide
            · rw [if_neg k, if_neg (by omega)]; decide
          generalize (if y < x + 1 then (-1 : Int) else if x + 1 < y then 1 else 0) = q at *
          subst hres
          unfold oP
          generalize x + 1 = x1 at *
          clear h2 hf
          simp (disch := omega) only [seval, ↓SDX, isRes, slEl, bslParts, mmAll, mmR, SUX, List.replicate, List.append, pr, lr, er, binR, ev, putA, List.set, intOf, takeAg, cellsOf, wrAll, partsOk, ones, one, isOne, wok1, findPE, List.find?, nop, prlr, isPure, pickR, optInt, rets, rv, rvs, CN, IntKind.bits]
          refine hof.step ?_
          simp (disch := omega) only [seval, ↓SDX, isRes, slEl, bslParts, mmAll, mmR, SUX, List.replicate, List.append, pr, lr, er, binR, ev, putA, List.set, intOf, takeAg, cellsOf, wrAll, partsOk, ones, one, isOne, wok1, findPE, List.find?, nop, prlr, isPure, pickR, optInt, rets, rv, rvs, CN, IntKind.bits]
          refine hadd.step ?_
          simp (disch := omega) only [seval, ↓SDX, isRes, slEl, bslParts, mmAll, mmR, SUX, List.replicate, List.append, pr, lr, er, binR, ev, putA, List.set, intOf, takeAg, cellsOf, wrAll, partsOk, ones, one, isOne, wok1, findPE, List.find?, nop, prlr, isPure, pickR, optInt, rets, rv, rvs, CN, IntKind.bits]
          refine hcm.lend (.p0 rfl (by simp only [CX]) (.p0 rfl (by simp only [CX]) .nil)) (by simp only [clean, cleanL, CX, and_true, true_and]) ?_
          simp (disch := omega) only [seval, ↓SDX, isRes, slEl, bslParts, mmAll, mmR, SUX, List.replicate, List.append, pr, lr, er, binR, ev, putA, List.set, intOf, takeAg, cellsOf, wrAll, partsOk, ones, one, isOne, wok1, findPE, List.find?, nop, prlr, isPure, pickR, optInt, rets, rv, rvs, CN, QW, PI, IntKind.bits]
          exact WkV.eq rfl ⟨noixL_pi .., trivial, trivial⟩
        · rw [if_neg h2] at hres
          rw [if_neg (by omega), if_pos (by omega)] at hcm
          have hadd2 := S_l01Add_pf h x y hx hy
          by_cases h3 : (x + y).natAbs < bW
          · rw [if_pos h3] at hadd2 hres
            have hof2 := S_l01Of_pf h 2 (by decide) (by decide)
            have hdv := S_l01Div_pf h (x + y) 2 h3 (by decide) (by decide)
            have hml := half_lt h3
            have hct := S_l05Count_pf h ls x ((x + y).fdiv 2) pl hok hx hml hpl
            have m1 : ((x + y).fdiv 2 - x).toNat < f := by rw [half_eq]; omega
            have m2 : (y - (x + y).fdiv 2).toNat < f := by rw [half_eq]; omega
            generalize (x + y).fmod 2 = rm at *
            generalize (x + y).fdiv 2 = m at *
            generalize x + y = sm at *
            generalize x + 1 = x1 at *
            clear h2 hf
            obtain ⟨C, hC⟩ : ∃ C, countM ls x m pl = C := ⟨_, rfl⟩
            rw [hC] at hct hres
            clear hC
            simp (disch := omega) only [seval, ↓SDX, isRes, slEl, bslParts, mmAll, mmR, SUX, List.replicate, List.append, pr, lr, er, binR, ev, putA, List.set, intOf, takeAg, cellsOf, wrAll, partsOk, ones, one, isOne, wok1, findPE, List.find?, nop, prlr, isPure, pickR, optInt, rets, rv, rvs, CN, IntKind.bits]
            refine hof.step ?_
            simp (disch := omega) only [seval, ↓SDX, isRes, slEl, bslParts, mmAll, mmR, SUX, List.replicate, List.append, pr, lr, er, binR, ev, putA, List.set, intOf, takeAg, cellsOf, wrAll, partsOk, ones, one, isOne, wok1, findPE, List.find?, nop, prlr, isPure, pickR, optInt, rets, rv, rvs, CN, IntKind.bits]
            refine hadd.step ?_
            simp (disch := omega) only [seval, ↓SDX, isRes, slEl, bslParts, mmAll, mmR, SUX, List.replicate, List.append, pr, lr, er, binR, ev, putA, List.set, intOf, takeAg, cellsOf, wrAll, partsOk, ones, one, isOne, wok1, findPE, List.find?, nop, prlr, isPure, pickR, optInt, rets, rv, rvs, CN, IntKind.bits]
            refine hcm.lend (.p0 rfl (by simp only [CX]) (.p0 rfl (by simp only [CX]) .nil)) (by simp only [clean, cleanL, CX, and_true, true_and]) ?_
            simp (disch := omega) only [seval, ↓SDX, isRes, slEl, bslParts, mmAll, mmR, SUX, List.replicate, List.append, pr, lr, er, binR, ev, putA, List.set, intOf, takeAg, cellsOf, wrAll, partsOk, ones, one, isOne, wok1, findPE, List.find?, nop, prlr, isPure, pickR, optInt, rets, rv, rvs, CN, IntKind.bits]
            refine hadd2.step ?_
            simp (disch := omega) only [seval, ↓SDX, isRes, slEl, bslParts, mmAll, mmR, SUX, List.replicate, List.append, pr, lr, er, binR, ev, putA, List.set, intOf, takeAg, cellsOf, wrAll, partsOk, ones, one, isOne, wok1, findPE, List.find?, nop, prlr, isPure, pickR, optInt, rets, rv, rvs, CN, IntKind.bits]
            refine hof2.step ?_
            simp (disch := omega) only [seval, ↓SDX, isRes, slEl, bslParts, mmAll, mmR, SUX, List.replicate, List.append, pr, lr, er, binR, ev, putA, List.set, intOf, takeAg, cellsOf, wrAll, partsOk, ones, one, isOne, wok1, findPE, List.find?, nop, prlr, isPure, pickR, optInt, rets, rv, rvs, CN, IntKind.bits]
            refine hdv.step ?_
            simp (disch := omega) only [seval, ↓SDX, isRes, slEl, bslParts, mmAll, mmR, SUX, List.replicate, List.append, pr, lr, er, binR, ev, putA, List.set, intOf, takeAg, cellsOf, wrAll, partsOk, ones, one, isOne, wok1, findPE, List.find?, nop, prlr, isPure, pickR, optInt, rets, rv, rvs, CN, IntKind.bits]
            refine hct.step ?_
            cases C with
            | none =>
              dsimp only at hres
              subst hres
              unfold oZ oP
              simp (disch := omega) only [seval, ↓SDX, isRes, slEl, bslParts, mmAll, mmR, SUX, List.replicate, List.append, pr, lr, er, binR, ev, putA, List.set, intOf, takeAg, cellsOf, wrAll, partsOk, ones, one, isOne, wok1, findPE, List.find?, nop, prlr, isPure, pickR, optInt, rets, rv, rvs, CN, QW, PI, IntKind.bits]
              exact WkV.eq rfl ⟨noixL_pi .., trivial, trivial⟩
            | some n =>
              dsimp only at hres
              unfold oZ
              by_cases hn : n = 1
              · rw [if_pos hn] at hres
                subst hn
                simp (disch := omega) only [seval, ↓SDX, isRes, slEl, bslParts, mmAll, mmR, SUX, List.replicate, List.append, pr, lr, er, binR, ev, putA, List.set, intOf, takeAg, cellsOf, wrAll, partsOk, ones, one, isOne, wok1, findPE, List.find?, nop, prlr, isPure, pickR, optInt, rets, rv, rvs, CN, IntKind.bits]
                exact ⟨(f, x, m), by dsimp only; omega, ⟨hx, hml, m1, hres⟩, Wk.shed (n := 4) (by decide) (by simp only [fits, eq_self, and_self, Int.cast_ofNat_Int, Int.natCast_add, and_true, true_and, List.replicate, List.cons_append, List.nil_append]) (by simp only [cutL, cutAV, cutSg, CU, List.replicate, List.cons_append, List.nil_append, Nat.reduceLT, if_true, if_false, List.map_cons, List.map_nil, List.take_succ_cons, List.take_zero, cutAV, cut_pi]) (by simp only [cutH, cutL, cutAV, cutSg, CU, List.replicate, List.cons_append, List.nil_append, Nat.reduceLT, if_true, if_false, List.map_cons, List.map_nil, List.take_succ_cons, List.take_zero, cutAV, cut_pi])⟩
              · rw [if_neg hn] at hres
                simp (disch := omega) only [seval, ↓SDX, isRes, slEl, bslParts, mmAll, mmR, SUX, List.replicate, List.append, pr, lr, er, binR, ev, putA, List.set, intOf, takeAg, cellsOf, wrAll, partsOk, ones, one, isOne, wok1, findPE, List.find?, nop, prlr, isPure, pickR, optInt, rets, rv, rvs, CN, hn, IntKind.bits]
                exact ⟨(f, m, y), by dsimp only; omega, ⟨hml, hy, m2, hres⟩, Wk.shed (n := 4) (by decide) (by simp only [fits, eq_self, and_self, Int.cast_ofNat_Int, Int.natCast_add, and_true, true_and, List.replicate, List.cons_append, List.nil_append]) (by simp only [cutL, cutAV, cutSg, CU, List.replicate, List.cons_append, List.nil_append, Nat.reduceLT, if_true, if_false, List.map_cons, List.map_nil, List.take_succ_cons, List.take_zero, cutAV, cut_pi]) (by simp only [cutH, cutL, cutAV, cutSg, CU, List.replicate, List.cons_append, List.nil_append, Nat.reduceLT, if_true, if_false, List.map_cons, List.map_nil, List.take_succ_cons, List.take_zero, cutAV, cut_pi])⟩
          · rw [if_neg h3] at hadd2 hres
            subst hres
            unfold oP
            generalize x + y = sm at *
            generalize x + 1 = x1 at *
            clear h2 hf
            simp (disch := omega) only [seval, ↓SDX, isRes, slEl, bslParts, mmAll, mmR, SUX, List.replicate, List.append, pr, lr, er, binR, ev, putA, List.set, intOf, takeAg, cellsOf, wrAll, partsOk, ones, one, isOne, wok1, findPE, List.find?, nop, prlr, isPure, pickR, optInt, rets, rv, rvs, CN, IntKind.bits]
            refine hof.step ?_
            simp (disch := omega) only [seval, ↓SDX, isRes, slEl, bslParts, mmAll, mmR, SUX, List.replicate, List.append, pr, lr, er, binR, ev, putA, List.set, intOf, takeAg, cellsOf, wrAll, partsOk, ones, one, isOne, wok1, findPE, List.find?, nop, prlr, isPure, pickR, optInt, rets, rv, rvs, CN, IntKind.bits]
            refine hadd.step ?_
            simp (disch := omega) only [seval, ↓SDX, isRes, slEl, bslParts, mmAll, mmR, SUX, List.replicate, List.append, pr, lr, er, binR, ev, putA, List.set, intOf, takeAg, cellsOf, wrAll, partsOk, ones, one, isOne, wok1, findPE, List.find?, nop, prlr, isPure, pickR, optInt, rets, rv, rvs, CN, IntKind.bits]
            refine hcm.lend (.p0 rfl (by simp only [CX]) (.p0 rfl (by simp only [CX]) .nil)) (by simp only [clean, cleanL, CX, and_true, true_and]) ?_
            simp (disch := omega) only [seval, ↓SDX, isRes, slEl, bslParts, mmAll, mmR, SUX, List.replicate, List.append, pr, lr, er, binR, ev, putA, List.set, intOf, takeAg, cellsOf, wrAll, partsOk, ones, one, isOne, wok1, findPE, List.find?, nop, prlr, isPure, pickR, optInt, rets, rv, rvs, CN, IntKind.bits]
            refine hadd2.step ?_
            simp (disch := omega) only [seval, ↓SDX, isRes, slEl, bslParts, mmAll, mmR, SUX, List.replicate, List.append, pr, lr, er, binR, ev, putA, List.set, intOf, takeAg, cellsOf, wrAll, partsOk, ones, one, isOne, wok1, findPE, List.find?, nop, prlr, isPure, pickR, optInt, rets, rv, rvs, CN, QW, PI, IntKind.bits]
            exact WkV.eq rfl ⟨noixL_pi .., trivial, trivial⟩
      · rw [if_neg h1] at hadd hres
        subst hres
        unfold oP
        generalize x + 1 = x1 at *
        clear hf
        simp (disch := omega) only [seval, ↓SDX, isRes, slEl, bslParts, mmAll, mmR, SUX, List.replicate, List.append, pr, lr, er, binR, ev, putA, List.set, intOf, takeAg, cellsOf, wrAll, partsOk, ones, one, isOne, wok1, findPE, List.find?, nop, prlr, isPure, pickR, optInt, rets, rv, rvs, CN, IntKind.bits]
        refine hof.step ?_
        simp (disch := omega) only [seval, ↓SDX, isRes, slEl, bslParts, mmAll, mmR, SUX, List.replicate, List.append, pr, lr, er, binR, ev, putA, List.set, intOf, takeAg, cellsOf, wrAll, partsOk, ones, one, isOne, wok1, findPE, List.find?, nop, prlr, isPure, pickR, optInt, rets, rv, rvs, CN, IntKind.bits]
        refine hadd.step ?_
        simp (disch := omega) only [seval, ↓SDX, isRes, slEl, bslParts, mmAll, mmR, SUX, List.replicate, List.append, pr, lr, er, binR, ev, putA, List.set, intOf, takeAg, cellsOf, wrAll, partsOk, ones, one, isOne, wok1, findPE, List.find?, nop, prlr, isPure, pickR, optInt, rets, rv, rvs, CN, QW, PI, IntKind.bits]
        exact WkV.eq rfl ⟨noixL_pi .., trivial, trivial⟩
    · rw [if_neg h2] at hu2
      rw [if_neg (fun k => h2 k.2)]
      rw [if_pos h1] at hu1
      generalize a * 2 ^ d = lo at *
      unfold oP
      clear h1 h2
      simp (disch := omega) only [seval, ↓SDX, isRes, slEl, bslParts, mmAll, mmR, SUX, List.replicate, List.append, pr, lr, er, binR, ev, putA, List.set, intOf, takeAg, cellsOf, wrAll, partsOk, ones, one, isOne, wok1, findPE, List.find?, nop, prlr, isPure, pickR, optInt, rets, rv, rvs, S_l05Refine_c, CN, QW, PI, sd, IntKind.bits]
      refine hu1.step ?_
      simp (disch := omega) only [seval, ↓SDX, isRes, slEl, bslParts, mmAll, mmR, SUX, List.replicate, List.append, pr, lr, er, binR, ev, putA, List.set, intOf, takeAg, cellsOf, wrAll, partsOk, ones, one, isOne, wok1, findPE, List.find?, nop, prlr, isPure, pickR, optInt, rets, rv, rvs, CN, QW, PI, sd, IntKind.bits]
      refine hu2.step ?_
      simp (disch := omega) only [seval, ↓SDX, isRes, slEl, bslParts, mmAll, mmR, SUX, List.replicate, List.append, pr, lr, er, binR, ev, putA, List.set, intOf, takeAg, cellsOf, wrAll, partsOk, ones, one, isOne, wok1, findPE, List.find?, nop, prlr, isPure, pickR, optInt, rets, rv, rvs, CN, QW, PI, sd, IntKind.bits]
      exact WkV.eq rfl ⟨noixL_pi .., trivial, trivial⟩
  · rw [if_neg h1] at hu1
    rw [if_neg (fun k => h1 k.1)]
    unfold oP
    clear h1
    by_cases h2 : b.natAbs * 2 ^ d < bW
    case' pos => rw [if_pos h2] at hu2
    case' neg => rw [if_neg h2] at hu2
    all_goals
      generalize b * 2 ^ d = hi at *
      clear h2
      simp (disch := omega) only [seval, ↓SDX, isRes, slEl, bslParts, mmAll, mmR, SUX, List.replicate, List.append, pr, lr, er, binR, ev, putA, List.set, intOf, takeAg, cellsOf, wrAll, partsOk, ones, one, isOne, wok1, findPE, List.find?, nop, prlr, isPure, pickR, optInt, rets, rv, rvs, S_l05Refine_c, CN, QW, PI, sd, IntKind.bits]
      refine hu1.step ?_
      simp (disch := omega) only [seval, ↓SDX, isRes, slEl, bslParts, mmAll, mmR, SUX, List.replicate, List.append, pr, lr, er, binR, ev, putA, List.set, intOf, takeAg, cellsOf, wrAll, partsOk, ones, one, isOne, wok1, findPE, List.find?, nop, prlr, isPure, pickR, optInt, rets, rv, rvs, CN, QW, PI, sd, IntKind.bits]
      refine hu2.step ?_
      simp (disch := omega) only [seval, ↓SDX, isRes, slEl, bslParts, mmAll, mmR, SUX, List.replicate, List.append, pr, lr, er, binR, ev, putA, List.set, intOf, takeAg, cellsOf, wrAll, partsOk, ones, one, isOne, wok1, findPE, List.find?, nop, prlr, isPure, pickR, optInt, rets, rv, rvs, CN, QW, PI, sd, IntKind.bits]
      exact WkV.eq rfl ⟨noixL_pi .., trivial, trivial⟩
end
end Go.Proofs.Lite

namespace Go.Proofs.Lite
open Go
theorem oneM_ok {p : List Int} (hp : polyOk p = true) {a b : Int} {pl : Nat} {ls : List (List Int)} (h : oneM p a b pl = .ok ls) : chainOk ls := by
  unfold oneM at h
  split at h
  · cases h
  · rename_i ls' hs
    split at h
    · cases h
    · split at h
      · injection h with h; subst h; exact simpleM_ok hp hs
      · cases h
section
variable {P : Program} {F : FnsA} (h : IsA P F)
include h
set_option maxRecDepth 20000 in
theorem I_oneZero_ct (p : List Int) (hp : polyOk p = true) (a b : Int) (pl : Nat) (ha : a.natAbs < bW) (hb : b.natAbs < bW) (hpl : pl ≤ 100) : Ct P F.I_oneZero [roI p, .agg (pi a b (pl : Nat))] [] (newR (oneM p a b pl)) := by
  refine fresh_of h.I_oneZero ?_
  have hst := I_newSturm_ct h p hp
  have hok := fun ls hls => simpleM_ok hp (ls := ls) hls
  have her := fun e he => simpleM_err (p := p) (e := e) he
  unfold oneM
  generalize simpleM p = S at *
  simp (disch := omega) only [seval, ↓SDX, isRes, slEl, bslParts, mmAll, mmR, SUX, List.replicate, List.append, pr, lr, er, binR, ev, putA, List.set, intOf, takeAg, cellsOf, wrAll, partsOk, ones, one, isOne, wok1, findPE, List.find?, nop, prlr, isPure, pickR, optInt, rets, rv, rvs, I_oneZero_c, CN, PI, FR, IntKind.bits]
  refine callD_fresh hst ⟨trivial, trivial⟩ ?_
  intro v0 H0 hR
  cases S with
  | error e =>
    obtain ⟨rfl, rfl⟩ := hR
    have := her e rfl
    clear her hok
    simp (disch := omega) only [seval, ↓SDX, isRes, slEl, bslParts, mmAll, mmR, SUX, List.replicate, List.append, pr, lr, er, binR, ev, putA, List.set, intOf, takeAg, cellsOf, wrAll, partsOk, ones, one, isOne, wok1, findPE, List.find?, nop, prlr, isPure, pickR, optInt, rets, rv, rvs, RN, CN, FR, IntKind.bits]
    exact ⟨_, _, ⟨rfl, rfl⟩, Wk.cut (n := 0) (Nat.le_refl 0)⟩
  | ok ls =>
    obtain ⟨rfl, rfl⟩ := hR
    have hc := I_sturm_count_or h false ls a b pl (hok ls rfl) ha hb hpl
    clear her hok
    dsimp only
    generalize countM ls a b pl = C at *
    simp (disch := omega) only [seval, ↓SDX, isRes, slEl, bslParts, mmAll, mmR, SUX, List.replicate, List.append, pr, lr, er, binR, ev, putA, List.set, intOf, takeAg, cellsOf, wrAll, partsOk, ones, one, isOne, wok1, findPE, List.find?, nop, prlr, isPure, pickR, optInt, rets, rv, rvs, RN, CN, PI, IntKind.bits]
    refine hc.step0 rfl ?_
    rintro v0 c0 ⟨n, o, rfl, -, -, rfl, hag⟩
    rcases hag with ⟨rfl, -, rfl⟩ | ⟨rfl, hag⟩
    · dsimp only
      by_cases hn : n = 1
      · rw [if_pos hn]
        subst hn
        have hro : AV.ro 1 ls.length (List.map roW ls) = .ro 1 ls.length (rws ls) := rfl
        simp (disch := omega) only [seval, ↓SDX, isRes, slEl, bslParts, mmAll, mmR, SUX, List.replicate, List.append, pr, lr, er, binR, ev, putA, List.set, intOf, takeAg, cellsOf, wrAll, partsOk, ones, one, isOne, wok1, findPE, List.find?, nop, prlr, isPure, pickR, optInt, rets, rv, rvs, CN, FR, IntKind.bits]
        refine ⟨_, _, ⟨rfl, rfl⟩, ?_⟩
        refine (Wk.kill 0).trans ?_
        exact Wk.back (i := 0) (j := 1) (n := 1) (by decide) (by decide) (by decide) rfl rfl (by simp only [mvL, mvAV, cutL, cutAV, fits, DU, eq_self, and_self, and_true, true_and, Int.cast_ofNat_Int, Int.natCast_add, List.replicate, List.cons_append, List.nil_append, ↓reduceIte, Nat.reduceEqDiff, Nat.reduceLT, reduceCtorEq, if_true, if_false, List.map_cons, List.map_nil, List.take_succ_cons, List.take_zero, List.set, mvAV, cutAV]) (by simp only [cutH, mvH, mvSg, cutSg, mvL, cutL, DU, eq_self, and_self, and_true, true_and, Int.cast_ofNat_Int, Int.natCast_add, List.replicate, List.cons_append, List.nil_append, ↓reduceIte, Nat.reduceEqDiff, Nat.reduceLT, reduceCtorEq, if_true, if_false, List.map_cons, List.map_nil, List.take_succ_cons, List.take_zero, List.set, mvAV, cutAV])
      · rw [if_neg hn]
        simp (disch := omega) only [seval, ↓SDX, isRes, slEl, bslParts, mmAll, mmR, SUX, List.replicate, List.append, pr, lr, er, binR, ev, putA, List.set, intOf, takeAg, cellsOf, wrAll, partsOk, ones, one, isOne, wok1, findPE, List.find?, nop, prlr, isPure, pickR, optInt, rets, rv, rvs, CN, FR, hn, IntKind.bits]
        exact ⟨_, _, ⟨rfl, rfl⟩, Wk.cut (n := 0) (Nat.le_refl 0)⟩
    · have : C = none := by rcases hag with h1 | h1; cases h1; exact h1
      subst this
      simp (disch := omega) only [seval, ↓SDX, isRes, slEl, bslParts, mmAll, mmR, SUX, List.replicate, List.append, pr, lr, er, binR, ev, putA, List.set, intOf, takeAg, cellsOf, wrAll, partsOk, ones, one, isOne, wok1, findPE, List.find?, nop, prlr, isPure, pickR, optInt, rets, rv, rvs, CN, FR, IntKind.bits]
      exact ⟨_, _, ⟨rfl, rfl⟩, Wk.cut (n := 0) (Nat.le_refl 0)⟩
end
end Go.Proofs.Lite

namespace Go.Proofs.Lite
open Go
section
variable {P : Program} {F : FnsA} (h : IsA P F)
include h
set_option maxRecDepth 20000 in
theorem W_eqUint32A6_pf (A : Nat) : Pf P F.W_eqUint32A6 [.agg (mg A), .agg (mg A)] (.raw (.bool true)) := by
  refine pf_of h.W_eqUint32A6 (by simp only [noixL, noix, NX, and_true, true_and]) trivial ?_
  simp (disch := omega) only [seval, ↓SDX, isRes, slEl, bslParts, mmAll, mmR, SUX, List.replicate, List.append, pr, lr, er, binR, ev, putA, List.set, intOf, takeAg, cellsOf, wrAll, partsOk, ones, one, isOne, wok1, findPE, List.find?, nop, prlr, isPure, pickR, optInt, rets, rv, rvs, W_eqUint32A6_c, IntKind.bits]
  refine loop_st (fun k : Nat => 6 - k) (fun k => ([.junk, .junk, .ptr 0 0, .ptr 1 0, .junk, .raw (.int .i64 (k : Nat))] ++ List.replicate 11 .junk)) (fun k => [.c (mg A), .c (mg A)]) (fun k => k ≤ 6) 0 (by decide) (Wk.tmps (by simp only [fits, eq_self, and_self, Int.cast_ofNat_Int, Int.natCast_add, and_true, true_and, List.replicate, List.cons_append, List.nil_append])) ?_
  intro k hk
  by_cases hk2 : k < 6
  · simp (disch := omega) only [seval, ↓SDX, isRes, slEl, bslParts, mmAll, mmR, SUX, List.replicate, List.append, pr, lr, er, binR, ev, putA, List.set, intOf, takeAg, cellsOf, wrAll, partsOk, ones, one, isOne, wok1, findPE, List.find?, nop, prlr, isPure, pickR, optInt, rets, rv, rvs, CN, bne_self_eq_false, IntKind.bits]
    exact ⟨k + 1, by omega, by omega, Wk.tmps (by simp only [fits, eq_self, and_self, Int.cast_ofNat_Int, Int.natCast_add, and_true, true_and, List.replicate, List.cons_append, List.nil_append])⟩
  · have : k = 6 := by omega
    subst this
    simp (disch := omega) only [seval, ↓SDX, isRes, slEl, bslParts, mmAll, mmR, SUX, List.replicate, List.append, pr, lr, er, binR, ev, putA, List.set, intOf, takeAg, cellsOf, wrAll, partsOk, ones, one, isOne, wok1, findPE, List.find?, nop, prlr, isPure, pickR, optInt, rets, rv, rvs, CN, IntKind.bits]
    exact WkV.eq (by first | rfl | simp) (by first | trivial | (simp only [noix, noixL, NX, and_true, true_and]; done))
set_option maxRecDepth 20000 in
theorem W_eqWide_pf (n : Bool) (A : Nat) : Pf P F.W_eqWide [.agg (wd n A), .agg (wd n A)] (.raw (.bool true)) := by
  refine pf_of h.W_eqWide (by simp only [noixL, noix, NX, and_true, true_and]) trivial ?_
  have h1 := W_eqUint32A6_pf h A
  simp (disch := omega) only [seval, ↓SDX, isRes, slEl, bslParts, mmAll, mmR, SUX, List.replicate, List.append, pr, lr, er, binR, ev, putA, List.set, intOf, takeAg, cellsOf, wrAll, partsOk, ones, one, isOne, wok1, findPE, List.find?, nop, prlr, isPure, pickR, optInt, rets, rv, rvs, W_eqWide_c, IntKind.bits]
  refine h1.step ?_
  simp (disch := omega) only [seval, ↓SDX, isRes, slEl, bslParts, mmAll, mmR, SUX, List.replicate, List.append, pr, lr, er, binR, ev, putA, List.set, intOf, takeAg, cellsOf, wrAll, partsOk, ones, one, isOne, wok1, findPE, List.find?, nop, prlr, isPure, pickR, optInt, rets, rv, rvs, IntKind.bits]
  exact WkV.eq (by first | rfl | simp) (by first | trivial | (simp only [noix, noixL, NX, and_true, true_and]; done))
end
end Go.Proofs.Lite

namespace Go.Proofs.Lite
open Go
theorem down_two {x y r : Nat} (hx : x < 4294967296) (hr : r < 32) : (x + y * 4294967296) / 2 ^ r % 4294967296 = x / 2 ^ r + y * 2 ^ (32 - r) % 4294967296 := by
  have hb : 4294967296 = 2 ^ r * 2 ^ (32 - r) := by rw [← Nat.pow_add, show r + (32 - r) = 32 from by omega]
  have hP : 0 < 2 ^ r := Nat.pow_pos (by decide)
  have h1 : (x + y * 4294967296) / 2 ^ r = x / 2 ^ r + y * 2 ^ (32 - r) := by
    conv => lhs; rw [hb]
    rw [show y * (2 ^ r * 2 ^ (32 - r)) = 2 ^ r * (y * 2 ^ (32 - r)) from by rw [Nat.mul_left_comm], Nat.add_mul_div_left _ _ hP]
  rw [h1]
  have h2 : x / 2 ^ r < 2 ^ (32 - r) := by
    rw [Nat.div_lt_iff_lt_mul hP, Nat.mul_comm, ← hb]; exact hx
  generalize 2 ^ (32 - r) = Q at *
  generalize 2 ^ r = P at *
  have h3 : y * Q % (P * Q) = y % P * Q := Nat.mul_mod_mul_right Q y P
  have h4 : y % P * Q + Q ≤ P * Q := by
    rw [← Nat.succ_mul]; exact Nat.mul_le_mul_right _ (Nat.mod_lt _ hP)
  rw [Nat.add_mod, hb, h3, Nat.mod_eq_of_lt (show x / P < P * Q by omega), Nat.mod_eq_of_lt (by omega)]
section
variable {P : Program} {F : FnsA} (h : IsA P F)
include h
set_option maxRecDepth 20000 in
theorem S_l01DownMag_pf (A n : Nat) (hA : A < bW) (hn : n ≤ 191) : Pf P F.S_l01DownMag [.rp (mg A), .raw (.int .i64 (n : Nat))] (.agg (mg (A / 2 ^ n))) := by
  refine pf_of h.S_l01DownMag (by simp only [noixL, noix, NX, and_true, true_and]) (by simp only [noixL, noix, NX, and_true, true_and]) ?_
  obtain ⟨q, r, hr, hq⟩ : ∃ q r, r < 32 ∧ n = 32 * q + r := ⟨n / 32, n % 32, by omega, by omega⟩
  have hq1 : n / 32 = q := by omega
  have hr1 : n % 32 = r := by omega
  have hW : A / 2 ^ n = A / b32 ^ q / 2 ^ r := by rw [hq, Nat.pow_add, ← b32_pow, Nat.div_div_eq_div_mul]
  have hWd : ∀ k, (dig A (k + q) + dig A (k + 1 + q) * 4294967296) / 2 ^ r % 4294967296 = dig (A / 2 ^ n) k := fun k => by
    rw [down_two (dig_lt A _) hr, hW, dig_down_add (by omega), dig_divq, dig_divq]
  simp (disch := omega) only [seval, ↓SDX, isRes, slEl, bslParts, mmAll, mmR, SUX, List.replicate, List.append, pr, lr, er, binR, ev, putA, List.set, intOf, takeAg, cellsOf, wrAll, partsOk, ones, one, isOne, wok1, findPE, List.find?, nop, prlr, isPure, pickR, optInt, rets, rv, rvs, S_l01DownMag_c, CN, hq1, hr1, raws_mg0, IntKind.bits]
  clear hW
  generalize A / 2 ^ n = W at *
  have hq5 : q ≤ 5 := by omega
  refine loop_st (fun s : Nat × Nat => 6 - s.1) (fun s => ([.rp (mg A), .raw (.int .i64 (n : Nat)), .junk, .junk, .ptr 0 0, .ptr 1 0, .raw (.int .i64 ((q + s.1 : Nat) : Int))] ++ List.replicate 39 .junk)) (fun s => [.c (mg 0), .c (mg s.2)])
    (fun s => s.1 + q ≤ 6 ∧ ∀ j, j < 6 → dig s.2 j = if j < s.1 then dig W j else 0) (0, 0) ⟨by simp only []; omega, fun j hj => by
      simp only []; rw [if_neg (by omega)]; exact digB_low_ge (b := 4294967296) (A := 0) (k := 0) (by decide) (by omega)⟩ (Wk.tmps (by simp [fits])) ?_
  rintro ⟨k, X⟩ ⟨hs, hX⟩
  dsimp only at hs hX ⊢
  by_cases h0 : k + q = 6
  · have hm : mg X = mg W := mg_digs (fun j hj => by
      rw [hX j hj]
      by_cases hj2 : j < k
      · rw [if_pos hj2]
      · rw [if_neg hj2, ← hWd, dig_top hA (by omega), dig_top hA (by omega)]; simp)
    have h6 : q + k = 6 := by omega
    clear hX hWd hn hq hq1 hr1
    simp (disch := omega) only [seval, ↓SDX, isRes, slEl, bslParts, mmAll, mmR, SUX, List.replicate, List.append, pr, lr, er, binR, ev, putA, List.set, intOf, takeAg, cellsOf, wrAll, partsOk, ones, one, isOne, wok1, findPE, List.find?, nop, prlr, isPure, pickR, optInt, rets, rv, rvs, CN, hm, h6, IntKind.bits]
    exact WkV.eq (by first | rfl | simp) (by first | trivial | (simp only [noix, noixL, NX, and_true, true_and]; done))
  have hdq := dig_lt W k
  have hstep : ∀ d, d = dig W k → ∃ s' : Nat × Nat, 6 - s'.1 < 6 - k ∧ (s'.1 + q ≤ 6 ∧ ∀ j, j < 6 → dig s'.2 j = if j < s'.1 then dig W j else 0) ∧ s' = (k + 1, setd X k d) := by
    intro d hd
    refine ⟨_, by dsimp only; omega, ⟨by dsimp only; omega, fun j hj => ?_⟩, rfl⟩
    subst hd
    dsimp only
    by_cases hjk : j = k
    · subst hjk; rw [dig_setd hdq, if_pos (by omega)]
    · rw [dig_setd_ne hdq hjk, hX j hj]
      by_cases hlt : j < k
      · rw [if_pos hlt, if_pos (by omega)]
      · rw [if_neg hlt, if_neg (by omega)]
  have hdm := dig_lt A (k + q)
  have hWk := hWd k
  have hsub : ((q + k : Nat) : Int) - ((q : Nat) : Int) = (k : Nat) := by omega
  rw [show k + 1 + q = q + k + 1 from by omega, show k + q = q + k from by omega] at hWk
  rw [show k + q = q + k from by omega] at hdm
  have hst : ((q + (k + 1) : Nat) : Int) = ((q + k + 1 : Nat) : Int) := by omega
  by_cases hk5 : q + k + 1 < 6
  · have hdm2 := dig_lt A (q + k + 1)
    have hwr := mg_wrd (A := X) (k := k) (by omega) (show (dig A (q + k) + dig A (q + k + 1) * 4294967296) / 2 ^ r % 4294967296 < b32 from Nat.mod_lt _ (by decide))
    obtain ⟨s', g1, g2, rfl⟩ := hstep _ hWk
    clear hX hWd hstep hWk hn hq
    generalize hu : dig A (q + k) + dig A (q + k + 1) * 4294967296 = u at *
    simp (disch := omega) only [seval, ↓SDX, isRes, slEl, bslParts, mmAll, mmR, SUX, List.replicate, List.append, pr, lr, er, binR, ev, putA, List.set, intOf, takeAg, cellsOf, wrAll, partsOk, ones, one, isOne, wok1, findPE, List.find?, nop, prlr, isPure, pickR, optInt, rets, rv, rvs, CN, hq1, hr1, hsub, hu, hwr, IntKind.bits]
    exact ⟨_, g1, g2, Wk.tmps (by simp [fits, Nat.add_assoc])⟩
  · have e0 : dig A (q + k + 1) = 0 := dig_top hA (by omega)
    have hlt : dig A (q + k) / 2 ^ r < 4294967296 := Nat.lt_of_le_of_lt (Nat.div_le_self _ _) hdm
    rw [e0, Nat.zero_mul, Nat.add_zero, Nat.mod_eq_of_lt hlt] at hWk
    obtain ⟨s', g1, g2, rfl⟩ := hstep _ hWk
    have hwr := mg_wrd (A := X) (k := k) (by omega) (show dig A (q + k) / 2 ^ r < b32 from hlt)
    clear hX hWd hstep hWk hn hq
    simp (disch := omega) only [seval, ↓SDX, isRes, slEl, bslParts, mmAll, mmR, SUX, List.replicate, List.append, pr, lr, er, binR, ev, putA, List.set, intOf, takeAg, cellsOf, wrAll, partsOk, ones, one, isOne, wok1, findPE, List.find?, nop, prlr, isPure, pickR, optInt, rets, rv, rvs, CN, hq1, hr1, hsub, hwr, IntKind.bits]
    exact ⟨_, g1, g2, Wk.tmps (by simp [fits, Nat.add_assoc])⟩
end
end Go.Proofs.Lite

namespace Go.Proofs.Lite
open Go
def nearN (neg : Bool) (A n : Nat) : Nat := A / 2 ^ n + (if 2 ^ (n - 1) < A % 2 ^ n ∨ (A % 2 ^ n = 2 ^ (n - 1) ∧ neg = false) then 1 else 0)
/-- The number nearest to a divided by a power of 2. -/
def nearM (a : Int) (n : Nat) : Int := if n = 0 then a else if decide (a < 0) = true then -((nearN (decide (a < 0)) a.natAbs n : Nat) : Int) else ((nearN (decide (a < 0)) a.natAbs n : Nat) : Int)
theorem near_lt {neg : Bool} {A n : Nat} (hA : A < bW) (hn : 1 ≤ n) : nearN neg A n < bW ∧ A / 2 ^ n + 1 < bW := by
  have h1 : A / 2 ^ n + 1 < bW := by
    have h2 : 2 ^ 1 ≤ 2 ^ n := Nat.pow_le_pow_right (by decide) hn
    have h3 := Nat.div_le_div_left (a := A) (b := 2 ^ n) (c := 2) h2 (by decide)
    have h4 : A / 2 ≤ bW / 2 := Nat.div_le_div_right (Nat.le_of_lt hA)
    have h5 : bW / 2 + 1 < bW := by decide
    omega
  unfold nearN
  split <;> omega
theorem nearM_lt {a : Int} {n : Nat} (ha : a.natAbs < bW) : (nearM a n).natAbs < bW := by
  unfold nearM
  split
  · exact ha
  · have := (near_lt (neg := decide (a < 0)) ha (show 1 ≤ n by omega)).1
    split <;> omega
theorem near_bit (A m : Nat) : A / 2 ^ m % 2 = 1 ↔ 2 ^ m ≤ A % 2 ^ (m + 1) := by
  rw [Nat.pow_succ]
  have hP : 0 < 2 ^ m := Nat.pow_pos (by decide)
  generalize 2 ^ m = P at *
  have h1 := Nat.mod_mul_right_div_self A P 2
  rw [← h1]
  have h2 : A % (P * 2) < P * 2 := Nat.mod_lt _ (by omega)
  generalize A % (P * 2) = R at *
  constructor
  · intro h
    rcases Nat.lt_or_ge R P with h3 | h3
    · rw [Nat.div_eq_of_lt h3] at h; omega
    · exact h3
  · intro h
    have h4 : R / P < 2 := by rw [Nat.div_lt_iff_lt_mul hP]; omega
    have h5 : 1 ≤ R / P := (Nat.le_div_iff_mul_le hP).2 (by omega)
    omega
theorem dig0_bit (X : Nat) : dig X 0 % 2 = X % 2 := by
  rw [dig_def, Nat.pow_zero, Nat.div_one]
  show X % 4294967296 % 2 = X % 2
  omega
section
variable {P : Program} {F : FnsA} (h : IsA P F)
include h
theorem S_l00Max_pf (a b : Int) : Pf P F.S_l00Max [.raw (.int .i64 a), .raw (.int .i64 b)] (.raw (.int .i64 (max a b))) := by
  refine pf_of h.S_l00Max (by simp only [noixL, noix, NX, and_true, true_and]) trivial ?_
  by_cases hc : b < a
  · rw [show max a b = a from by omega]
    simp (disch := omega) only [seval, ↓SDX, isRes, slEl, bslParts, mmAll, mmR, SUX, List.replicate, List.append, pr, lr, er, binR, ev, putA, List.set, intOf, takeAg, cellsOf, wrAll, partsOk, ones, one, isOne, wok1, findPE, List.find?, nop, prlr, isPure, pickR, optInt, rets, rv, rvs, S_l00Max_c, IntKind.bits]
    exact WkV.eq (by first | rfl | simp) (by first | trivial | (simp only [noix, noixL, NX, and_true, true_and]; done))
  · rw [show max a b = b from by omega]
    simp (disch := omega) only [seval, ↓SDX, isRes, slEl, bslParts, mmAll, mmR, SUX, List.replicate, List.append, pr, lr, er, binR, ev, putA, List.set, intOf, takeAg, cellsOf, wrAll, partsOk, ones, one, isOne, wok1, findPE, List.find?, nop, prlr, isPure, pickR, optInt, rets, rv, rvs, S_l00Max_c, IntKind.bits]
    exact WkV.eq (by first | rfl | simp) (by first | trivial | (simp only [noix, noixL, NX, and_true, true_and]; done))
set_option maxRecDepth 20000 in
theorem S_l01Near_pf (a : Int) (n : Nat) (ha : a.natAbs < bW) (hn : n ≤ 191) : Pf P F.S_l01Near [.agg (wi a), .raw (.int .i64 (n : Nat))] (.agg (wi (nearM a n))) := by
  refine pf_of h.S_l01Near (by simp only [noixL, noix, NX, and_true, true_and]) (noix_wi _) ?_
  unfold nearM
  by_cases h0 : n = 0
  · subst h0
    rw [if_pos rfl]
    simp (disch := omega) only [seval, ↓SDX, isRes, slEl, bslParts, mmAll, mmR, SUX, List.replicate, List.append, pr, lr, er, binR, ev, putA, List.set, intOf, takeAg, cellsOf, wrAll, partsOk, ones, one, isOne, wok1, findPE, List.find?, nop, prlr, isPure, pickR, optInt, rets, rv, rvs, S_l01Near_c, CN, IntKind.bits]
    exact WkV.eq (by first | rfl | simp) (by first | trivial | (simp only [noix, noixL, NX, and_true, true_and]; done))
  rw [if_neg h0]
  obtain ⟨m, rfl⟩ : ∃ m, n = m + 1 := ⟨n - 1, by omega⟩
  have s1 : ((m + 1 : Nat) : Int) - 1 = (m : Int) := by omega
  rw [show wi a = wd (decide (a < 0)) a.natAbs from rfl]
  obtain ⟨hN1, hN2⟩ := near_lt (neg := decide (a < 0)) ha (show 1 ≤ m + 1 by omega)
  rw [← made_wi _ _ hN1]
  generalize decide (a < 0) = neg at *
  generalize a.natAbs = A at *
  have h1 := S_l01DownMag_pf h A (m + 1) ha hn
  have h2 := S_l01DownMag_pf h A m ha (by omega)
  have h3 := S_l01UpMag_pf h (A / 2 ^ (m + 1)) (m + 1) (Nat.lt_of_le_of_lt (Nat.div_le_self _ _) ha) hn
  have hle : A / 2 ^ (m + 1) * 2 ^ (m + 1) ≤ A := Nat.div_mul_le_self _ _
  rw [if_pos (Nat.lt_of_le_of_lt hle ha)] at h3
  have h4 := S_l01Minus_pf h A (A / 2 ^ (m + 1) * 2 ^ (m + 1)) hle
  have hR : A - A / 2 ^ (m + 1) * 2 ^ (m + 1) = A % 2 ^ (m + 1) := by
    have := Nat.div_add_mod A (2 ^ (m + 1))
    rw [Nat.mul_comm] at this; omega
  rw [hR] at h4
  have h5 := S_l01UpMag_pf h 1 m (by decide) (by omega)
  have hpm : 1 * 2 ^ m < bW := by
    rw [Nat.one_mul]
    exact Nat.lt_of_le_of_lt (Nat.pow_le_pow_right (by decide) (show m ≤ 191 by omega)) (by decide)
  rw [if_pos hpm, Nat.one_mul] at h5
  rw [Nat.one_mul] at hpm
  have h6 := S_l01Plus_pf h (A / 2 ^ (m + 1)) 1
  have hbit := near_bit A m
  have hRlt : A % 2 ^ (m + 1) < bW := Nat.lt_of_le_of_lt (Nat.mod_le _ _) ha
  have hRm : A % 2 ^ (m + 1) % bW = A % 2 ^ (m + 1) := Nat.mod_eq_of_lt hRlt
  have hHm : 2 ^ m % bW = 2 ^ m := Nat.mod_eq_of_lt hpm
  have hb0 := dig0_bit (A / 2 ^ m)
  have hNd : nearN neg A (m + 1) = A / 2 ^ (m + 1) + (if 2 ^ m < A % 2 ^ (m + 1) ∨ (A % 2 ^ (m + 1) = 2 ^ m ∧ neg = false) then 1 else 0) := rfl
  rw [hNd] at hN1 ⊢
  clear hNd hle hR
  have hdl := dig_lt (A / 2 ^ m) 0
  generalize A / 2 ^ (m + 1) * 2 ^ (m + 1) = B at *
  generalize A % 2 ^ (m + 1) = R at *
  generalize A / 2 ^ (m + 1) = D at *
  generalize 2 ^ m = H at *
  generalize A / H = HH at *
  rw [← hb0] at hbit
  have e1 : (decide (R = H) : Bool) = decide (R % bW = H % bW) := by rw [hRm, hHm]
  by_cases hlt : H < R
  · have hup : dig HH 0 % 2 = 1 := hbit.2 (by omega)
    have hne : ¬ R = H := by omega
    rw [if_pos (.inl hlt)] at hN1 ⊢
    clear hbit hb0
    cases neg
    all_goals
      simp (disch := omega) only [seval, ↓SDX, isRes, slEl, bslParts, mmAll, mmR, SUX, List.replicate, List.append, pr, lr, er, binR, ev, putA, List.set, intOf, takeAg, cellsOf, wrAll, partsOk, ones, one, isOne, wok1, findPE, List.find?, nop, prlr, isPure, pickR, optInt, rets, rv, rvs, S_l01Near_c, CN, s1, raws_mg0, IntKind.bits]
      refine h1.lend (.p0 rfl (by simp only [CX]) (.v .nil)) (by simp only [clean, cleanL, CX, and_true, true_and]) ?_
      simp (disch := omega) only [seval, ↓SDX, isRes, slEl, bslParts, mmAll, mmR, SUX, List.replicate, List.append, pr, lr, er, binR, ev, putA, List.set, intOf, takeAg, cellsOf, wrAll, partsOk, ones, one, isOne, wok1, findPE, List.find?, nop, prlr, isPure, pickR, optInt, rets, rv, rvs, CN, s1, IntKind.bits]
      refine h2.lend (.p0 rfl (by simp only [CX]) (.v .nil)) (by simp only [clean, cleanL, CX, and_true, true_and]) ?_
      simp (disch := omega) only [seval, ↓SDX, isRes, slEl, bslParts, mmAll, mmR, SUX, List.replicate, List.append, pr, lr, er, binR, ev, putA, List.set, intOf, takeAg, cellsOf, wrAll, partsOk, ones, one, isOne, wok1, findPE, List.find?, nop, prlr, isPure, pickR, optInt, rets, rv, rvs, CN, s1, IntKind.bits]
      refine h3.lend (.p0 rfl (by simp only [CX]) (.v .nil)) (by simp only [clean, cleanL, CX, and_true, true_and]) ?_
      simp (disch := omega) only [seval, ↓SDX, isRes, slEl, bslParts, mmAll, mmR, SUX, List.replicate, List.append, pr, lr, er, binR, ev, putA, List.set, intOf, takeAg, cellsOf, wrAll, partsOk, ones, one, isOne, wok1, findPE, List.find?, nop, prlr, isPure, pickR, optInt, rets, rv, rvs, CN, s1, IntKind.bits]
      refine h4.lend (.p0 rfl (by simp only [CX]) (.p0 rfl (by simp only [CX]) .nil)) (by simp only [clean, cleanL, CX, and_true, true_and]) ?_
      simp (disch := omega) only [seval, ↓SDX, isRes, slEl, bslParts, mmAll, mmR, SUX, List.replicate, List.append, pr, lr, er, binR, ev, putA, List.set, intOf, takeAg, cellsOf, wrAll, partsOk, ones, one, isOne, wok1, findPE, List.find?, nop, prlr, isPure, pickR, optInt, rets, rv, rvs, CN, s1, setd_00, raws_mg0, IntKind.bits]
      refine h5.lend (.p0 rfl (by simp only [CX]) (.v .nil)) (by simp only [clean, cleanL, CX, and_true, true_and]) ?_
      simp (disch := omega) only [seval, ↓SDX, isRes, slEl, bslParts, mmAll, mmR, SUX, List.replicate, List.append, pr, lr, er, binR, ev, putA, List.set, intOf, takeAg, cellsOf, wrAll, partsOk, ones, one, isOne, wok1, findPE, List.find?, nop, prlr, isPure, pickR, optInt, rets, rv, rvs, CN, s1, hup, hRm, hHm, hne, IntKind.bits]
      refine h6.lend (.p0 rfl (by simp only [CX]) (.p0 rfl (by simp only [CX]) .nil)) (by simp only [clean, cleanL, CX, and_true, true_and]) ?_
      simp (disch := omega) only [seval, ↓SDX, isRes, slEl, bslParts, mmAll, mmR, SUX, List.replicate, List.append, pr, lr, er, binR, ev, putA, List.set, intOf, takeAg, cellsOf, wrAll, partsOk, ones, one, isOne, wok1, findPE, List.find?, nop, prlr, isPure, pickR, optInt, rets, rv, rvs, CN, IntKind.bits]
      refine (S_l01Made_pf h _ _).step ?_
      simp (disch := omega) only [seval, ↓SDX, isRes, slEl, bslParts, mmAll, mmR, SUX, List.replicate, List.append, pr, lr, er, binR, ev, putA, List.set, intOf, takeAg, cellsOf, wrAll, partsOk, ones, one, isOne, wok1, findPE, List.find?, nop, prlr, isPure, pickR, optInt, rets, rv, rvs, CN, IntKind.bits]
      exact WkV.eq (by first | rfl | simp) (by first | trivial | (simp only [noix, noixL, NX, and_true, true_and]; done))
  · by_cases heq : R = H
    · have hup : dig HH 0 % 2 = 1 := hbit.2 (by omega)
      subst heq
      clear hbit hb0 e1
      cases neg
      · rw [if_pos (.inr ⟨rfl, rfl⟩)] at hN1 ⊢
        simp (disch := omega) only [seval, ↓SDX, isRes, slEl, bslParts, mmAll, mmR, SUX, List.replicate, List.append, pr, lr, er, binR, ev, putA, List.set, intOf, takeAg, cellsOf, wrAll, partsOk, ones, one, isOne, wok1, findPE, List.find?, nop, prlr, isPure, pickR, optInt, rets, rv, rvs, S_l01Near_c, CN, s1, raws_mg0, IntKind.bits]
        refine h1.lend (.p0 rfl (by simp only [CX]) (.v .nil)) (by simp only [clean, cleanL, CX, and_true, true_and]) ?_
        simp (disch := omega) only [seval, ↓SDX, isRes, slEl, bslParts, mmAll, mmR, SUX, List.replicate, List.append, pr, lr, er, binR, ev, putA, List.set, intOf, takeAg, cellsOf, wrAll, partsOk, ones, one, isOne, wok1, findPE, List.find?, nop, prlr, isPure, pickR, optInt, rets, rv, rvs, CN, s1, IntKind.bits]
        refine h2.lend (.p0 rfl (by simp only [CX]) (.v .nil)) (by simp only [clean, cleanL, CX, and_true, true_and]) ?_
        simp (disch := omega) only [seval, ↓SDX, isRes, slEl, bslParts, mmAll, mmR, SUX, List.replicate, List.append, pr, lr, er, binR, ev, putA, List.set, intOf, takeAg, cellsOf, wrAll, partsOk, ones, one, isOne, wok1, findPE, List.find?, nop, prlr, isPure, pickR, optInt, rets, rv, rvs, CN, s1, IntKind.bits]
        refine h3.lend (.p0 rfl (by simp only [CX]) (.v .nil)) (by simp only [clean, cleanL, CX, and_true, true_and]) ?_
        simp (disch := omega) only [seval, ↓SDX, isRes, slEl, bslParts, mmAll, mmR, SUX, List.replicate, List.append, pr, lr, er, binR, ev, putA, List.set, intOf, takeAg, cellsOf, wrAll, partsOk, ones, one, isOne, wok1, findPE, List.find?, nop, prlr, isPure, pickR, optInt, rets, rv, rvs, CN, s1, IntKind.bits]
        refine h4.lend (.p0 rfl (by simp only [CX]) (.p0 rfl (by simp only [CX]) .nil)) (by simp only [clean, cleanL, CX, and_true, true_and]) ?_
        simp (disch := omega) only [seval, ↓SDX, isRes, slEl, bslParts, mmAll, mmR, SUX, List.replicate, List.append, pr, lr, er, binR, ev, putA, List.set, intOf, takeAg, cellsOf, wrAll, partsOk, ones, one, isOne, wok1, findPE, List.find?, nop, prlr, isPure, pickR, optInt, rets, rv, rvs, CN, s1, setd_00, raws_mg0, IntKind.bits]
        refine h5.lend (.p0 rfl (by simp only [CX]) (.v .nil)) (by simp only [clean, cleanL, CX, and_true, true_and]) ?_
        simp (disch := omega) only [seval, ↓SDX, isRes, slEl, bslParts, mmAll, mmR, SUX, List.replicate, List.append, pr, lr, er, binR, ev, putA, List.set, intOf, takeAg, cellsOf, wrAll, partsOk, ones, one, isOne, wok1, findPE, List.find?, nop, prlr, isPure, pickR, optInt, rets, rv, rvs, CN, s1, hup, hRm, IntKind.bits]
        refine h6.lend (.p0 rfl (by simp only [CX]) (.p0 rfl (by simp only [CX]) .nil)) (by simp only [clean, cleanL, CX, and_true, true_and]) ?_
        simp (disch := omega) only [seval, ↓SDX, isRes, slEl, bslParts, mmAll, mmR, SUX, List.replicate, List.append, pr, lr, er, binR, ev, putA, List.set, intOf, takeAg, cellsOf, wrAll, partsOk, ones, one, isOne, wok1, findPE, List.find?, nop, prlr, isPure, pickR, optInt, rets, rv, rvs, CN, IntKind.bits]
        refine (S_l01Made_pf h _ _).step ?_
        simp (disch := omega) only [seval, ↓SDX, isRes, slEl, bslParts, mmAll, mmR, SUX, List.replicate, List.append, pr, lr, er, binR, ev, putA, List.set, intOf, takeAg, cellsOf, wrAll, partsOk, ones, one, isOne, wok1, findPE, List.find?, nop, prlr, isPure, pickR, optInt, rets, rv, rvs, CN, IntKind.bits]
        exact WkV.eq (by first | rfl | simp) (by first | trivial | (simp only [noix, noixL, NX, and_true, true_and]; done))
      · rw [if_neg (by simp)] at hN1 ⊢
        simp (disch := omega) only [seval, ↓SDX, isRes, slEl, bslParts, mmAll, mmR, SUX, List.replicate, List.append, pr, lr, er, binR, ev, putA, List.set, intOf, takeAg, cellsOf, wrAll, partsOk, ones, one, isOne, wok1, findPE, List.find?, nop, prlr, isPure, pickR, optInt, rets, rv, rvs, S_l01Near_c, CN, s1, raws_mg0, IntKind.bits]
        refine h1.lend (.p0 rfl (by simp only [CX]) (.v .nil)) (by simp only [clean, cleanL, CX, and_true, true_and]) ?_
        simp (disch := omega) only [seval, ↓SDX, isRes, slEl, bslParts, mmAll, mmR, SUX, List.replicate, List.append, pr, lr, er, binR, ev, putA, List.set, intOf, takeAg, cellsOf, wrAll, partsOk, ones, one, isOne, wok1, findPE, List.find?, nop, prlr, isPure, pickR, optInt, rets, rv, rvs, CN, s1, IntKind.bits]
        refine h2.lend (.p0 rfl (by simp only [CX]) (.v .nil)) (by simp only [clean, cleanL, CX, and_true, true_and]) ?_
        simp (disch := omega) only [seval, ↓SDX, isRes, slEl, bslParts, mmAll, mmR, SUX, List.replicate, List.append, pr, lr, er, binR, ev, putA, List.set, intOf, takeAg, cellsOf, wrAll, partsOk, ones, one, isOne, wok1, findPE, List.find?, nop, prlr, isPure, pickR, optInt, rets, rv, rvs, CN, s1, IntKind.bits]
        refine h3.lend (.p0 rfl (by simp only [CX]) (.v .nil)) (by simp only [clean, cleanL, CX, and_true, true_and]) ?_
        simp (disch := omega) only [seval, ↓SDX, isRes, slEl, bslParts, mmAll, mmR, SUX, List.replicate, List.append, pr, lr, er, binR, ev, putA, List.set, intOf, takeAg, cellsOf, wrAll, partsOk, ones, one, isOne, wok1, findPE, List.find?, nop, prlr, isPure, pickR, optInt, rets, rv, rvs, CN, s1, IntKind.bits]
        refine h4.lend (.p0 rfl (by simp only [CX]) (.p0 rfl (by simp only [CX]) .nil)) (by simp only [clean, cleanL, CX, and_true, true_and]) ?_
        simp (disch := omega) only [seval, ↓SDX, isRes, slEl, bslParts, mmAll, mmR, SUX, List.replicate, List.append, pr, lr, er, binR, ev, putA, List.set, intOf, takeAg, cellsOf, wrAll, partsOk, ones, one, isOne, wok1, findPE, List.find?, nop, prlr, isPure, pickR, optInt, rets, rv, rvs, CN, s1, setd_00, raws_mg0, IntKind.bits]
        refine h5.lend (.p0 rfl (by simp only [CX]) (.v .nil)) (by simp only [clean, cleanL, CX, and_true, true_and]) ?_
        simp (disch := omega) only [seval, ↓SDX, isRes, slEl, bslParts, mmAll, mmR, SUX, List.replicate, List.append, pr, lr, er, binR, ev, putA, List.set, intOf, takeAg, cellsOf, wrAll, partsOk, ones, one, isOne, wok1, findPE, List.find?, nop, prlr, isPure, pickR, optInt, rets, rv, rvs, CN, s1, hup, hRm, IntKind.bits]
        refine (S_l01Made_pf h _ _).step ?_
        simp (disch := omega) only [seval, ↓SDX, isRes, slEl, bslParts, mmAll, mmR, SUX, List.replicate, List.append, pr, lr, er, binR, ev, putA, List.set, intOf, takeAg, cellsOf, wrAll, partsOk, ones, one, isOne, wok1, findPE, List.find?, nop, prlr, isPure, pickR, optInt, rets, rv, rvs, CN, IntKind.bits]
        exact WkV.eq (by first | rfl | simp) (by first | trivial | (simp only [noix, noixL, NX, and_true, true_and]; done))
    · have hup : dig HH 0 % 2 = 0 := by
        have : ¬ dig HH 0 % 2 = 1 := fun k => by have := hbit.1 k; omega
        omega
      rw [if_neg (by omega)] at hN1 ⊢
      clear hbit hb0
      cases neg
      all_goals
        simp (disch := omega) only [seval, ↓SDX, isRes, slEl, bslParts, mmAll, mmR, SUX, List.replicate, List.append, pr, lr, er, binR, ev, putA, List.set, intOf, takeAg, cellsOf, wrAll, partsOk, ones, one, isOne, wok1, findPE, List.find?, nop, prlr, isPure, pickR, optInt, rets, rv, rvs, S_l01Near_c, CN, s1, raws_mg0, IntKind.bits]
        refine h1.lend (.p0 rfl (by simp only [CX]) (.v .nil)) (by simp only [clean, cleanL, CX, and_true, true_and]) ?_
        simp (disch := omega) only [seval, ↓SDX, isRes, slEl, bslParts, mmAll, mmR, SUX, List.replicate, List.append, pr, lr, er, binR, ev, putA, List.set, intOf, takeAg, cellsOf, wrAll, partsOk, ones, one, isOne, wok1, findPE, List.find?, nop, prlr, isPure, pickR, optInt, rets, rv, rvs, CN, s1, IntKind.bits]
        refine h2.lend (.p0 rfl (by simp only [CX]) (.v .nil)) (by simp only [clean, cleanL, CX, and_true, true_and]) ?_
        simp (disch := omega) only [seval, ↓SDX, isRes, slEl, bslParts, mmAll, mmR, SUX, List.replicate, List.append, pr, lr, er, binR, ev, putA, List.set, intOf, takeAg, cellsOf, wrAll, partsOk, ones, one, isOne, wok1, findPE, List.find?, nop, prlr, isPure, pickR, optInt, rets, rv, rvs, CN, s1, IntKind.bits]
        refine h3.lend (.p0 rfl (by simp only [CX]) (.v .nil)) (by simp only [clean, cleanL, CX, and_true, true_and]) ?_
        simp (disch := omega) only [seval, ↓SDX, isRes, slEl, bslParts, mmAll, mmR, SUX, List.replicate, List.append, pr, lr, er, binR, ev, putA, List.set, intOf, takeAg, cellsOf, wrAll, partsOk, ones, one, isOne, wok1, findPE, List.find?, nop, prlr, isPure, pickR, optInt, rets, rv, rvs, CN, s1, IntKind.bits]
        refine h4.lend (.p0 rfl (by simp only [CX]) (.p0 rfl (by simp only [CX]) .nil)) (by simp only [clean, cleanL, CX, and_true, true_and]) ?_
        simp (disch := omega) only [seval, ↓SDX, isRes, slEl, bslParts, mmAll, mmR, SUX, List.replicate, List.append, pr, lr, er, binR, ev, putA, List.set, intOf, takeAg, cellsOf, wrAll, partsOk, ones, one, isOne, wok1, findPE, List.find?, nop, prlr, isPure, pickR, optInt, rets, rv, rvs, CN, s1, setd_00, raws_mg0, IntKind.bits]
        refine h5.lend (.p0 rfl (by simp only [CX]) (.v .nil)) (by simp only [clean, cleanL, CX, and_true, true_and]) ?_
        simp (disch := omega) only [seval, ↓SDX, isRes, slEl, bslParts, mmAll, mmR, SUX, List.replicate, List.append, pr, lr, er, binR, ev, putA, List.set, intOf, takeAg, cellsOf, wrAll, partsOk, ones, one, isOne, wok1, findPE, List.find?, nop, prlr, isPure, pickR, optInt, rets, rv, rvs, CN, s1, hup, hRm, hHm, heq, IntKind.bits]
        refine (S_l01Made_pf h _ _).step ?_
        simp (disch := omega) only [seval, ↓SDX, isRes, slEl, bslParts, mmAll, mmR, SUX, List.replicate, List.append, pr, lr, er, binR, ev, putA, List.set, intOf, takeAg, cellsOf, wrAll, partsOk, ones, one, isOne, wok1, findPE, List.find?, nop, prlr, isPure, pickR, optInt, rets, rv, rvs, CN, IntKind.bits]
        exact WkV.eq (by first | rfl | simp) (by first | trivial | (simp only [noix, noixL, NX, and_true, true_and]; done))
end
end Go.Proofs.Lite

namespace Go.Proofs.Lite
open Go
section
variable {P : Program} {F : FnsA} (h : IsA P F)
include h
set_option maxRecDepth 20000 in
theorem I_calc_near_ow (ov : Bool) (a : Int) (n : Nat) (ha : a.natAbs < bW) (hn : n ≤ 191) : Ow P F.I_calc_near (oc ov) [.agg (wi a), .raw (.int .i64 (n : Nat))] (.agg (wi (nearM a n))) (oc ov) := by
  refine ow_of h.I_calc_near (by simp only [noixL, noix, NX, and_true, true_and]) (noix_wi _) ⟨trivial, trivial⟩ ⟨trivial, trivial⟩ rfl ?_
  have h1 := I_size_down_pf h a.natAbs n ha hn
  unfold nearM
  by_cases h0 : n = 0
  · subst h0
    rw [if_pos rfl]
    simp (disch := omega) only [seval, ↓SDX, isRes, slEl, bslParts, mmAll, mmR, SUX, List.replicate, List.append, pr, lr, er, binR, ev, putA, List.set, intOf, takeAg, cellsOf, wrAll, partsOk, ones, one, isOne, wok1, findPE, List.find?, nop, prlr, isPure, pickR, optInt, rets, rv, rvs, I_calc_near_c, CN, IntKind.bits]
    refine h1.step ?_
    simp (disch := omega) only [seval, ↓SDX, isRes, slEl, bslParts, mmAll, mmR, SUX, List.replicate, List.append, pr, lr, er, binR, ev, putA, List.set, intOf, takeAg, cellsOf, wrAll, partsOk, ones, one, isOne, wok1, findPE, List.find?, nop, prlr, isPure, pickR, optInt, rets, rv, rvs, CN, IntKind.bits]
    exact WkV.eq1 rfl (noix_wi _) rfl ⟨trivial, trivial⟩
  rw [if_neg h0]
  obtain ⟨m, rfl⟩ : ∃ m, n = m + 1 := ⟨n - 1, by omega⟩
  have s1 : ((m + 1 : Nat) : Int) - 1 = (m : Int) := by omega
  rw [show wi a = wd (decide (a < 0)) a.natAbs from rfl]
  obtain ⟨hN1, hN2⟩ := near_lt (neg := decide (a < 0)) ha (show 1 ≤ m + 1 by omega)
  rw [← made_wi _ _ hN1]
  generalize decide (a < 0) = neg at *
  generalize a.natAbs = A at *
  have h2 := I_size_up_pf h 1 m (by omega)
  rw [Nat.one_mul] at h2
  have h3 := I_size_up_pf h (A / 2 ^ (m + 1)) (m + 1) hn
  have hle : A / 2 ^ (m + 1) * 2 ^ (m + 1) ≤ A := Nat.div_mul_le_self _ _
  have h4 := I_size_minus_pf h A (A / 2 ^ (m + 1) * 2 ^ (m + 1)) hle
  have hR : A - A / 2 ^ (m + 1) * 2 ^ (m + 1) = A % 2 ^ (m + 1) := by
    have := Nat.div_add_mod A (2 ^ (m + 1))
    rw [Nat.mul_comm] at this; omega
  rw [hR] at h4
  have h5 := I_size_compare_pf h (A % 2 ^ (m + 1)) (2 ^ m)
  have hpm : 2 ^ m < bW := Nat.lt_of_le_of_lt (Nat.pow_le_pow_right (by decide) (show m ≤ 191 by omega)) (by decide)
  have hRlt : A % 2 ^ (m + 1) < bW := Nat.lt_of_le_of_lt (Nat.mod_le _ _) ha
  rw [Nat.mod_eq_of_lt hRlt, Nat.mod_eq_of_lt hpm] at h5
  have h6 := I_size_plus_pf h (A / 2 ^ (m + 1)) 1
  have hone := I_one_pf h
  have hNd : nearN neg A (m + 1) = A / 2 ^ (m + 1) + (if 2 ^ m < A % 2 ^ (m + 1) ∨ (A % 2 ^ (m + 1) = 2 ^ m ∧ neg = false) then 1 else 0) := rfl
  rw [hNd] at hN1 ⊢
  clear hNd hle hR
  generalize A / 2 ^ (m + 1) * 2 ^ (m + 1) = B at *
  generalize A % 2 ^ (m + 1) = R at *
  generalize A / 2 ^ (m + 1) = D at *
  generalize 2 ^ m = H at *
  by_cases hlt : H < R
  · rw [if_pos (.inl hlt)] at hN1 ⊢
    rw [show cmpI R H = 1 from by unfold cmpI; rw [if_neg (by omega), if_pos hlt]] at h5
    simp (disch := omega) only [seval, ↓SDX, isRes, slEl, bslParts, mmAll, mmR, SUX, List.replicate, List.append, pr, lr, er, binR, ev, putA, List.set, intOf, takeAg, cellsOf, wrAll, partsOk, ones, one, isOne, wok1, findPE, List.find?, nop, prlr, isPure, pickR, optInt, rets, rv, rvs, I_calc_near_c, CN, s1, IntKind.bits]
    refine h1.step ?_
    simp (disch := omega) only [seval, ↓SDX, isRes, slEl, bslParts, mmAll, mmR, SUX, List.replicate, List.append, pr, lr, er, binR, ev, putA, List.set, intOf, takeAg, cellsOf, wrAll, partsOk, ones, one, isOne, wok1, findPE, List.find?, nop, prlr, isPure, pickR, optInt, rets, rv, rvs, CN, s1, IntKind.bits]
    refine hone.step ?_
    simp (disch := omega) only [seval, ↓SDX, isRes, slEl, bslParts, mmAll, mmR, SUX, List.replicate, List.append, pr, lr, er, binR, ev, putA, List.set, intOf, takeAg, cellsOf, wrAll, partsOk, ones, one, isOne, wok1, findPE, List.find?, nop, prlr, isPure, pickR, optInt, rets, rv, rvs, CN, s1, IntKind.bits]
    refine h2.step ?_
    simp (disch := omega) only [seval, ↓SDX, isRes, slEl, bslParts, mmAll, mmR, SUX, List.replicate, List.append, pr, lr, er, binR, ev, putA, List.set, intOf, takeAg, cellsOf, wrAll, partsOk, ones, one, isOne, wok1, findPE, List.find?, nop, prlr, isPure, pickR, optInt, rets, rv, rvs, CN, s1, IntKind.bits]
    refine h3.step ?_
    simp (disch := omega) only [seval, ↓SDX, isRes, slEl, bslParts, mmAll, mmR, SUX, List.replicate, List.append, pr, lr, er, binR, ev, putA, List.set, intOf, takeAg, cellsOf, wrAll, partsOk, ones, one, isOne, wok1, findPE, List.find?, nop, prlr, isPure, pickR, optInt, rets, rv, rvs, CN, s1, IntKind.bits]
    refine h4.step ?_
    simp (disch := omega) only [seval, ↓SDX, isRes, slEl, bslParts, mmAll, mmR, SUX, List.replicate, List.append, pr, lr, er, binR, ev, putA, List.set, intOf, takeAg, cellsOf, wrAll, partsOk, ones, one, isOne, wok1, findPE, List.find?, nop, prlr, isPure, pickR, optInt, rets, rv, rvs, CN, s1, IntKind.bits]
    refine h5.step ?_
    simp (disch := omega) only [seval, ↓SDX, isRes, slEl, bslParts, mmAll, mmR, SUX, List.replicate, List.append, pr, lr, er, binR, ev, putA, List.set, intOf, takeAg, cellsOf, wrAll, partsOk, ones, one, isOne, wok1, findPE, List.find?, nop, prlr, isPure, pickR, optInt, rets, rv, rvs, CN, s1, IntKind.bits]
    refine hone.step ?_
    simp (disch := omega) only [seval, ↓SDX, isRes, slEl, bslParts, mmAll, mmR, SUX, List.replicate, List.append, pr, lr, er, binR, ev, putA, List.set, intOf, takeAg, cellsOf, wrAll, partsOk, ones, one, isOne, wok1, findPE, List.find?, nop, prlr, isPure, pickR, optInt, rets, rv, rvs, CN, s1, IntKind.bits]
    refine h6.step ?_
    simp (disch := omega) only [seval, ↓SDX, isRes, slEl, bslParts, mmAll, mmR, SUX, List.replicate, List.append, pr, lr, er, binR, ev, putA, List.set, intOf, takeAg, cellsOf, wrAll, partsOk, ones, one, isOne, wok1, findPE, List.find?, nop, prlr, isPure, pickR, optInt, rets, rv, rvs, CN, s1, IntKind.bits]
    refine (I_wide_pf h _ _).step ?_
    simp (disch := omega) only [seval, ↓SDX, isRes, slEl, bslParts, mmAll, mmR, SUX, List.replicate, List.append, pr, lr, er, binR, ev, putA, List.set, intOf, takeAg, cellsOf, wrAll, partsOk, ones, one, isOne, wok1, findPE, List.find?, nop, prlr, isPure, pickR, optInt, rets, rv, rvs, CN, s1, IntKind.bits]
    exact WkV.eq1 rfl (by simp only [noixL, noix, NX, and_true, true_and]) rfl ⟨trivial, trivial⟩
  · by_cases heq : R = H
    · subst heq
      rw [show cmpI R R = 0 from by unfold cmpI; rw [if_neg (by omega), if_neg (by omega)]] at h5
      cases neg
      · rw [if_pos (.inr ⟨rfl, rfl⟩)] at hN1 ⊢
        simp (disch := omega) only [seval, ↓SDX, isRes, slEl, bslParts, mmAll, mmR, SUX, List.replicate, List.append, pr, lr, er, binR, ev, putA, List.set, intOf, takeAg, cellsOf, wrAll, partsOk, ones, one, isOne, wok1, findPE, List.find?, nop, prlr, isPure, pickR, optInt, rets, rv, rvs, I_calc_near_c, CN, s1, IntKind.bits]
        refine h1.step ?_
        simp (disch := omega) only [seval, ↓SDX, isRes, slEl, bslParts, mmAll, mmR, SUX, List.replicate, List.append, pr, lr, er, binR, ev, putA, List.set, intOf, takeAg, cellsOf, wrAll, partsOk, ones, one, isOne, wok1, findPE, List.find?, nop, prlr, isPure, pickR, optInt, rets, rv, rvs, CN, s1, IntKind.bits]
        refine hone.step ?_
        simp (disch := omega) only [seval, ↓SDX, isRes, slEl, bslParts, mmAll, mmR, SUX, List.replicate, List.append, pr, lr, er, binR, ev, putA, List.set, intOf, takeAg, cellsOf, wrAll, partsOk, ones, one, isOne, wok1, findPE, List.find?, nop, prlr, isPure, pickR, optInt, rets, rv, rvs, CN, s1, IntKind.bits]
        refine h2.step ?_
        simp (disch := omega) only [seval, ↓SDX, isRes, slEl, bslParts, mmAll, mmR, SUX, List.replicate, List.append, pr, lr, er, binR, ev, putA, List.set, intOf, takeAg, cellsOf, wrAll, partsOk, ones, one, isOne, wok1, findPE, List.find?, nop, prlr, isPure, pickR, optInt, rets, rv, rvs, CN, s1, IntKind.bits]
        refine h3.step ?_
        simp (disch := omega) only [seval, ↓SDX, isRes, slEl, bslParts, mmAll, mmR, SUX, List.replicate, List.append, pr, lr, er, binR, ev, putA, List.set, intOf, takeAg, cellsOf, wrAll, partsOk, ones, one, isOne, wok1, findPE, List.find?, nop, prlr, isPure, pickR, optInt, rets, rv, rvs, CN, s1, IntKind.bits]
        refine h4.step ?_
        simp (disch := omega) only [seval, ↓SDX, isRes, slEl, bslParts, mmAll, mmR, SUX, List.replicate, List.append, pr, lr, er, binR, ev, putA, List.set, intOf, takeAg, cellsOf, wrAll, partsOk, ones, one, isOne, wok1, findPE, List.find?, nop, prlr, isPure, pickR, optInt, rets, rv, rvs, CN, s1, IntKind.bits]
        refine h5.step ?_
        simp (disch := omega) only [seval, ↓SDX, isRes, slEl, bslParts, mmAll, mmR, SUX, List.replicate, List.append, pr, lr, er, binR, ev, putA, List.set, intOf, takeAg, cellsOf, wrAll, partsOk, ones, one, isOne, wok1, findPE, List.find?, nop, prlr, isPure, pickR, optInt, rets, rv, rvs, CN, s1, IntKind.bits]
        refine hone.step ?_
        simp (disch := omega) only [seval, ↓SDX, isRes, slEl, bslParts, mmAll, mmR, SUX, List.replicate, List.append, pr, lr, er, binR, ev, putA, List.set, intOf, takeAg, cellsOf, wrAll, partsOk, ones, one, isOne, wok1, findPE, List.find?, nop, prlr, isPure, pickR, optInt, rets, rv, rvs, CN, s1, IntKind.bits]
        refine h6.step ?_
        simp (disch := omega) only [seval, ↓SDX, isRes, slEl, bslParts, mmAll, mmR, SUX, List.replicate, List.append, pr, lr, er, binR, ev, putA, List.set, intOf, takeAg, cellsOf, wrAll, partsOk, ones, one, isOne, wok1, findPE, List.find?, nop, prlr, isPure, pickR, optInt, rets, rv, rvs, CN, s1, IntKind.bits]
        refine (I_wide_pf h _ _).step ?_
        simp (disch := omega) only [seval, ↓SDX, isRes, slEl, bslParts, mmAll, mmR, SUX, List.replicate, List.append, pr, lr, er, binR, ev, putA, List.set, intOf, takeAg, cellsOf, wrAll, partsOk, ones, one, isOne, wok1, findPE, List.find?, nop, prlr, isPure, pickR, optInt, rets, rv, rvs, CN, s1, IntKind.bits]
        exact WkV.eq1 rfl (by simp only [noixL, noix, NX, and_true, true_and]) rfl ⟨trivial, trivial⟩
      · rw [if_neg (by simp)] at hN1 ⊢
        simp (disch := omega) only [seval, ↓SDX, isRes, slEl, bslParts, mmAll, mmR, SUX, List.replicate, List.append, pr, lr, er, binR, ev, putA, List.set, intOf, takeAg, cellsOf, wrAll, partsOk, ones, one, isOne, wok1, findPE, List.find?, nop, prlr, isPure, pickR, optInt, rets, rv, rvs, I_calc_near_c, CN, s1, IntKind.bits]
        refine h1.step ?_
        simp (disch := omega) only [seval, ↓SDX, isRes, slEl, bslParts, mmAll, mmR, SUX, List.replicate, List.append, pr, lr, er, binR, ev, putA, List.set, intOf, takeAg, cellsOf, wrAll, partsOk, ones, one, isOne, wok1, findPE, List.find?, nop, prlr, isPure, pickR, optInt, rets, rv, rvs, CN, s1, IntKind.bits]
        refine hone.step ?_
        simp (disch := omega) only [seval, ↓SDX, isRes, slEl, bslParts, mmAll, mmR, SUX, List.replicate, List.append, pr, lr, er, binR, ev, putA, List.set, intOf, takeAg, cellsOf, wrAll, partsOk, ones, one, isOne, wok1, findPE, List.find?, nop, prlr, isPure, pickR, optInt, rets, rv, rvs, CN, s1, IntKind.bits]
        refine h2.step ?_
        simp (disch := omega) only [seval, ↓SDX, isRes, slEl, bslParts, mmAll, mmR, SUX, List.replicate, List.append, pr, lr, er, binR, ev, putA, List.set, intOf, takeAg, cellsOf, wrAll, partsOk, ones, one, isOne, wok1, findPE, List.find?, nop, prlr, isPure, pickR, optInt, rets, rv, rvs, CN, s1, IntKind.bits]
        refine h3.step ?_
        simp (disch := omega) only [seval, ↓SDX, isRes, slEl, bslParts, mmAll, mmR, SUX, List.replicate, List.append, pr, lr, er, binR, ev, putA, List.set, intOf, takeAg, cellsOf, wrAll, partsOk, ones, one, isOne, wok1, findPE, List.find?, nop, prlr, isPure, pickR, optInt, rets, rv, rvs, CN, s1, IntKind.bits]
        refine h4.step ?_
        simp (disch := omega) only [seval, ↓SDX, isRes, slEl, bslParts, mmAll, mmR, SUX, List.replicate, List.append, pr, lr, er, binR, ev, putA, List.set, intOf, takeAg, cellsOf, wrAll, partsOk, ones, one, isOne, wok1, findPE, List.find?, nop, prlr, isPure, pickR, optInt, rets, rv, rvs, CN, s1, IntKind.bits]
        refine h5.step ?_
        simp (disch := omega) only [seval, ↓SDX, isRes, slEl, bslParts, mmAll, mmR, SUX, List.replicate, List.append, pr, lr, er, binR, ev, putA, List.set, intOf, takeAg, cellsOf, wrAll, partsOk, ones, one, isOne, wok1, findPE, List.find?, nop, prlr, isPure, pickR, optInt, rets, rv, rvs, CN, s1, IntKind.bits]
        refine (I_wide_pf h _ _).step ?_
        simp (disch := omega) only [seval, ↓SDX, isRes, slEl, bslParts, mmAll, mmR, SUX, List.replicate, List.append, pr, lr, er, binR, ev, putA, List.set, intOf, takeAg, cellsOf, wrAll, partsOk, ones, one, isOne, wok1, findPE, List.find?, nop, prlr, isPure, pickR, optInt, rets, rv, rvs, CN, s1, IntKind.bits]
        exact WkV.eq1 rfl (by simp only [noixL, noix, NX, and_true, true_and]) rfl ⟨trivial, trivial⟩
    · rw [if_neg (by omega)] at hN1 ⊢
      rw [show cmpI R H = -1 from by unfold cmpI; rw [if_pos (by omega)]] at h5
      simp (disch := omega) only [seval, ↓SDX, isRes, slEl, bslParts, mmAll, mmR, SUX, List.replicate, List.append, pr, lr, er, binR, ev, putA, List.set, intOf, takeAg, cellsOf, wrAll, partsOk, ones, one, isOne, wok1, findPE, List.find?, nop, prlr, isPure, pickR, optInt, rets, rv, rvs, I_calc_near_c, CN, s1, IntKind.bits]
      refine h1.step ?_
      simp (disch := omega) only [seval, ↓SDX, isRes, slEl, bslParts, mmAll, mmR, SUX, List.replicate, List.append, pr, lr, er, binR, ev, putA, List.set, intOf, takeAg, cellsOf, wrAll, partsOk, ones, one, isOne, wok1, findPE, List.find?, nop, prlr, isPure, pickR, optInt, rets, rv, rvs, CN, s1, IntKind.bits]
      refine hone.step ?_
      simp (disch := omega) only [seval, ↓SDX, isRes, slEl, bslParts, mmAll, mmR, SUX, List.replicate, List.append, pr, lr, er, binR, ev, putA, List.set, intOf, takeAg, cellsOf, wrAll, partsOk, ones, one, isOne, wok1, findPE, List.find?, nop, prlr, isPure, pickR, optInt, rets, rv, rvs, CN, s1, IntKind.bits]
      refine h2.step ?_
      simp (disch := omega) only [seval, ↓SDX, isRes, slEl, bslParts, mmAll, mmR, SUX, List.replicate, List.append, pr, lr, er, binR, ev, putA, List.set, intOf, takeAg, cellsOf, wrAll, partsOk, ones, one, isOne, wok1, findPE, List.find?, nop, prlr, isPure, pickR, optInt, rets, rv, rvs, CN, s1, IntKind.bits]
      refine h3.step ?_
      simp (disch := omega) only [seval, ↓SDX, isRes, slEl, bslParts, mmAll, mmR, SUX, List.replicate, List.append, pr, lr, er, binR, ev, putA, List.set, intOf, takeAg, cellsOf, wrAll, partsOk, ones, one, isOne, wok1, findPE, List.find?, nop, prlr, isPure, pickR, optInt, rets, rv, rvs, CN, s1, IntKind.bits]
      refine h4.step ?_
      simp (disch := omega) only [seval, ↓SDX, isRes, slEl, bslParts, mmAll, mmR, SUX, List.replicate, List.append, pr, lr, er, binR, ev, putA, List.set, intOf, takeAg, cellsOf, wrAll, partsOk, ones, one, isOne, wok1, findPE, List.find?, nop, prlr, isPure, pickR, optInt, rets, rv, rvs, CN, s1, IntKind.bits]
      refine h5.step ?_
      simp (disch := omega) only [seval, ↓SDX, isRes, slEl, bslParts, mmAll, mmR, SUX, List.replicate, List.append, pr, lr, er, binR, ev, putA, List.set, intOf, takeAg, cellsOf, wrAll, partsOk, ones, one, isOne, wok1, findPE, List.find?, nop, prlr, isPure, pickR, optInt, rets, rv, rvs, CN, s1, IntKind.bits]
      refine (I_wide_pf h _ _).step ?_
      simp (disch := omega) only [seval, ↓SDX, isRes, slEl, bslParts, mmAll, mmR, SUX, List.replicate, List.append, pr, lr, er, binR, ev, putA, List.set, intOf, takeAg, cellsOf, wrAll, partsOk, ones, one, isOne, wok1, findPE, List.find?, nop, prlr, isPure, pickR, optInt, rets, rv, rvs, CN, s1, IntKind.bits]
      exact WkV.eq1 rfl (by simp only [noixL, noix, NX, and_true, true_and]) rfl ⟨trivial, trivial⟩
end
section
variable {P : Program} {F : FnsB} (h : IsB P F)
include h
theorem I_calc_told_pf (o : Bool) (a : Int) : Pf P F.I_calc_told [.rp (oc o), .agg (wi a)] (if o then .tup [.agg (wi 0), .raw (.int .i64 3)] else .tup [.agg (wi a), .raw (.int .i64 0)]) := by
  cases o
  · refine pf_of h.I_calc_told ⟨trivial, noix_wi _, trivial⟩ ⟨noix_wi _, trivial, trivial⟩ ?_
    simp (disch := omega) only [seval, ↓SDX, isRes, slEl, bslParts, mmAll, mmR, SUX, List.replicate, List.append, pr, lr, er, binR, ev, putA, List.set, intOf, takeAg, cellsOf, wrAll, partsOk, ones, one, isOne, wok1, findPE, List.find?, nop, prlr, isPure, pickR, optInt, rets, rv, rvs, I_calc_told_c, IntKind.bits]
    exact WkV.eq (by first | rfl | simp) (by first | trivial | (simp only [noix, noixL, NX, and_true, true_and]; done))
  · refine pf_of h.I_calc_told ⟨trivial, noix_wi _, trivial⟩ ⟨noix_wi _, trivial, trivial⟩ ?_
    simp (disch := omega) only [seval, ↓SDX, isRes, slEl, bslParts, mmAll, mmR, SUX, List.replicate, List.append, pr, lr, er, binR, ev, putA, List.set, intOf, takeAg, cellsOf, wrAll, partsOk, ones, one, isOne, wok1, findPE, List.find?, nop, prlr, isPure, pickR, optInt, rets, rv, rvs, I_calc_told_c, IntKind.bits]
    exact WkV.eq (by first | rfl | simp) (by first | trivial | (simp only [noix, noixL, NX, and_true, true_and]; done))
end
/-- An approximation of the zero in a part. -/
def zeroM (ls : List (List Int)) (a b : Int) (px pl : Nat) : Option Int :=
  match refineM ls a b (max pl px - px) (max pl px) with
  | none => none
  | some (_, y) => some (nearM y (max pl px - pl))
theorem refM_fit {ls : List (List Int)} {pl : Nat} : ∀ {f : Nat} {lo hi x y : Int}, lo.natAbs < bW → hi.natAbs < bW → refM ls pl f lo hi = some (x, y) → x.natAbs < bW ∧ y.natAbs < bW
  | 0, _, _, _, _, _, _, h => by cases h
  | f + 1, lo, hi, x, y, h1, h2, h => by
    simp only [refM] at h
    split at h
    · split at h
      · injection h with h; injection h with e1 e2; subst e1 e2; exact ⟨h1, h2⟩
      · split at h
        · rename_i h3
          split at h
          · cases h
          · split at h
            · exact refM_fit h1 (half_lt h3) h
            · exact refM_fit (half_lt h3) h2 h
        · cases h
    · cases h
theorem refineM_fit {ls : List (List Int)} {a b : Int} {d pl : Nat} {x y : Int} (h : refineM ls a b d pl = some (x, y)) : x.natAbs < bW ∧ y.natAbs < bW := by
  unfold refineM at h
  split at h
  · rename_i k
    exact refM_fit (by rw [Int.natAbs_mul, Int.natAbs_pow]; exact k.1) (by rw [Int.natAbs_mul, Int.natAbs_pow]; exact k.2) h
  · cases h
section
variable {P : Program} {F : FnsA} (h : IsA P F)
include h
set_option maxRecDepth 20000 in
theorem S_l05Approx_pf (ls : List (List Int)) (a b : Int) (px pl : Nat) (hok : chainOk ls) (ha : a.natAbs < bW) (hb : b.natAbs < bW) (hpx : px ≤ 64) (hpl : pl ≤ 100) : Pf P F.S_l05Approx [.ro 1 ls.length (rws ls), .rp (pi a b (px : Nat)), .raw (.int .i64 (pl : Nat))] (oW (zeroM ls a b px pl)) := by
  refine pf_of h.S_l05Approx ⟨trivial, trivial, trivial, trivial⟩ (noix_oW _) ?_
  have hmx := S_l00Max_pf h (pl : Nat) (px : Nat)
  rw [show max ((pl : Nat) : Int) ((px : Nat) : Int) = ((max pl px : Nat) : Int) from by omega] at hmx
  unfold zeroM
  have hm1 : px ≤ max pl px := by omega
  have hm2 : pl ≤ max pl px := by omega
  have hm3 : max pl px ≤ 100 := by omega
  generalize max pl px = m at *
  have hre := S_l05Refine_pf h ls a b px (m - px) m hok ha hb (by omega) hm3
  have hsub : ((m : Nat) : Int) - ((pl : Nat) : Int) = ((m - pl : Nat) : Int) := by omega
  have hfit := fun x y hxy => refineM_fit (ls := ls) (a := a) (b := b) (d := m - px) (pl := m) (x := x) (y := y) hxy
  generalize refineM ls a b (m - px) m = R at *
  simp (disch := omega) only [seval, ↓SDX, isRes, slEl, bslParts, mmAll, mmR, SUX, List.replicate, List.append, pr, lr, er, binR, ev, putA, List.set, intOf, takeAg, cellsOf, wrAll, partsOk, ones, one, isOne, wok1, findPE, List.find?, nop, prlr, isPure, pickR, optInt, rets, rv, rvs, S_l05Approx_c, CN, PI, QW, IntKind.bits]
  refine hmx.step ?_
  simp (disch := omega) only [seval, ↓SDX, isRes, slEl, bslParts, mmAll, mmR, SUX, List.replicate, List.append, pr, lr, er, binR, ev, putA, List.set, intOf, takeAg, cellsOf, wrAll, partsOk, ones, one, isOne, wok1, findPE, List.find?, nop, prlr, isPure, pickR, optInt, rets, rv, rvs, CN, PI, QW, IntKind.bits]
  refine hre.step ?_
  rcases R with _ | ⟨x, y⟩
  · clear hfit
    unfold oP oW
    simp (disch := omega) only [seval, ↓SDX, isRes, slEl, bslParts, mmAll, mmR, SUX, List.replicate, List.append, pr, lr, er, binR, ev, putA, List.set, intOf, takeAg, cellsOf, wrAll, partsOk, ones, one, isOne, wok1, findPE, List.find?, nop, prlr, isPure, pickR, optInt, rets, rv, rvs, CN, PI, QW, IntKind.bits]
    exact WkV.eq (by first | rfl | simp) (by first | trivial | (simp only [noix, noixL, NX, and_true, true_and]; done))
  · have hyl := (hfit x y rfl).2
    have hnr := S_l01Near_pf h y (m - pl) hyl (by omega)
    clear hfit
    unfold oP oW
    dsimp only
    simp (disch := omega) only [seval, ↓SDX, isRes, slEl, bslParts, mmAll, mmR, SUX, List.replicate, List.append, pr, lr, er, binR, ev, putA, List.set, intOf, takeAg, cellsOf, wrAll, partsOk, ones, one, isOne, wok1, findPE, List.find?, nop, prlr, isPure, pickR, optInt, rets, rv, rvs, CN, PI, QW, hsub, IntKind.bits]
    refine hnr.step ?_
    simp (disch := omega) only [seval, ↓SDX, isRes, slEl, bslParts, mmAll, mmR, SUX, List.replicate, List.append, pr, lr, er, binR, ev, putA, List.set, intOf, takeAg, cellsOf, wrAll, partsOk, ones, one, isOne, wok1, findPE, List.find?, nop, prlr, isPure, pickR, optInt, rets, rv, rvs, CN, IntKind.bits]
    exact WkV.eq (by first | rfl | simp) (by first | trivial | (simp only [noix, noixL, NX, and_true, true_and]; done))
set_option maxRecDepth 20000 in
theorem I_sturm_zeroAt_or (ov : Bool) (ls : List (List Int)) (a b : Int) (px pl : Nat) (hok : chainOk ls) (ha : a.natAbs < bW) (hb : b.natAbs < bW) (hpx : px ≤ 64) (hpl : pl ≤ 100) :
    OwR P F.I_sturm_zeroAt (stc ov ls) [.agg (pi a b (px : Nat)), .raw (.int .i64 (pl : Nat))] (fun v' c' => ∃ x o', v' = .agg (wi x) ∧ x.natAbs < bW ∧ c' = stc o' ls ∧ Agr ov o' (zeroM ls a b px pl) x) := by
  refine owR_of h.I_sturm_zeroAt ⟨noixL_pi .., trivial, trivial⟩ ⟨trivial, trivial, trivial⟩ ?_ ?_
  · rintro v' c' ⟨x, o', rfl, -, rfl, -⟩
    exact ⟨noix_wi _, ⟨trivial, trivial, trivial⟩, rfl⟩
  have hmm : (if ((pl : Nat) : Int) < ((px : Nat) : Int) then ((px : Nat) : Int) else ((pl : Nat) : Int)) = ((max pl px : Nat) : Int) := by split <;> omega
  unfold zeroM
  have hm1 : px ≤ max pl px := by omega
  have hm2 : pl ≤ max pl px := by omega
  have hm3 : max pl px ≤ 100 := by omega
  generalize max pl px = m at *
  have hre := I_sturm_refine_or h ov ls a b px (m - px) m hok ha hb (by omega) hm3
  have hsub : ((m : Nat) : Int) - ((pl : Nat) : Int) = ((m - pl : Nat) : Int) := by omega
  generalize refineM ls a b (m - px) m = R at *
  have hw2 : ∀ b b' x, wr [.raw (.bool b), x] 0 (oc b') = [.raw (.bool b'), x] := fun _ _ _ => rfl
  simp (disch := omega) only [seval, ↓SDX, isRes, slEl, bslParts, mmAll, mmR, SUX, List.replicate, List.append, pr, lr, er, binR, ev, putA, List.set, intOf, takeAg, cellsOf, wrAll, partsOk, ones, one, isOne, wok1, findPE, List.find?, nop, prlr, isPure, pickR, optInt, rets, rv, rvs, I_sturm_zeroAt_c, CN, PI, QW, hmm, IntKind.bits]
  refine hre.step0 rfl ?_
  rintro v0 c0 ⟨x, y, o, rfl, hx, hy, rfl, hag⟩
  have hnr := I_calc_near_ow h o y (m - pl) hy (by omega)
  have hnl := nearM_lt (n := m - pl) hy
  have hag2 : Agr ov o (match R with | none => none | some (_, y) => some (nearM y (m - pl))) (nearM y (m - pl)) := by
    rcases hag with ⟨h1, h2, rfl⟩ | ⟨h1, h2⟩
    · exact .inl ⟨h1, h2, rfl⟩
    · right
      refine ⟨h1, ?_⟩
      rcases h2 with h2 | rfl
      · exact .inl h2
      · exact .inr rfl
  clear hag
  generalize nearM y (m - pl) = z at *
  simp (disch := omega) only [seval, ↓SDX, isRes, slEl, bslParts, mmAll, mmR, SUX, List.replicate, List.append, pr, lr, er, binR, ev, putA, List.set, intOf, takeAg, cellsOf, wrAll, partsOk, ones, one, isOne, wok1, findPE, List.find?, nop, prlr, isPure, pickR, optInt, rets, rv, rvs, CN, PI, QW, hsub, IntKind.bits]
  refine hnr.step (seg := stc o ls) rfl (by show 0 + 1 ≤ 2; decide) rfl ?_
  simp (disch := omega) only [seval, ↓SDX, isRes, slEl, bslParts, mmAll, mmR, SUX, List.replicate, List.append, pr, lr, er, binR, ev, putA, List.set, intOf, takeAg, cellsOf, wrAll, partsOk, ones, one, isOne, wok1, findPE, List.find?, nop, prlr, isPure, pickR, optInt, rets, rv, rvs, CN, hw2, OR, IntKind.bits]
  exact ⟨_, _, ⟨z, o, rfl, hnl, rfl, hag2⟩, WkV.eq1 rfl (noix_wi _) rfl ⟨trivial, trivial, trivial⟩⟩
end
end Go.Proofs.Lite

namespace Go.Proofs.Lite
open Go
/-- What ZeroApprox tells. -/
def zapM (p : List Int) (n1 : Bool) (A1 : Nat) (n2 : Bool) (A2 : Nat) (px pl : Int) : AV :=
  if polyOk p && partOk n1 A1 n2 A2 px then
    if decide (0 ≤ pl) && decide (pl ≤ 64) then
      match oneM p (vW n1 A1) (vW n2 A2) px.toNat with
      | .error e => .tup [.agg (wi 0), .raw (.int .i64 e)]
      | .ok ls => oW (zeroM ls (vW n1 A1) (vW n2 A2) px.toNat pl.toNat)
    else .tup [.agg (wi 0), .raw (.int .i64 2)]
  else .tup [.agg (wi 0), .raw (.int .i64 1)]
theorem zapM_form (p : List Int) (n1 : Bool) (A1 : Nat) (n2 : Bool) (A2 : Nat) (px pl : Int) : ∃ x c, zapM p n1 A1 n2 A2 px pl = .tup [.agg (wi x), .raw (.int .i64 c)] := by
  unfold zapM
  split
  · split
    · split
      · exact ⟨_, _, rfl⟩
      · unfold oW
        split <;> exact ⟨_, _, rfl⟩
    · exact ⟨_, _, rfl⟩
  · exact ⟨_, _, rfl⟩
theorem noix_zapM (p : List Int) (n1 : Bool) (A1 : Nat) (n2 : Bool) (A2 : Nat) (px pl : Int) : noix (zapM p n1 A1 n2 A2 px pl) := by
  obtain ⟨x, c, h⟩ := zapM_form p n1 A1 n2 A2 px pl
  rw [h]; exact ⟨noix_wi _, trivial, trivial⟩
section
variable {P : Program} {F : FnsB} (h : IsB P F)
include h
set_option maxRecDepth 20000 in
theorem S_ZeroApprox_pf (p : List Int) (hl : p.length ≤ 1048576) (n1 : Bool) (A1 : Nat) (n2 : Bool) (A2 : Nat) (px pl : Int) : Pf P F.S_ZeroApprox [roI p, .agg (pc n1 A1 n2 A2 px), .raw (.int .i64 pl)] (zapM p n1 A1 n2 A2 px pl) := by
  refine pf_of_mid h.S_ZeroApprox rfl ⟨trivial, noixL_pc .., trivial, trivial⟩ (noix_zapM ..) ?_
  have hpt := S_l05Parted_pf h.toIsA p hl n1 A1 n2 A2 px pl
  simp (disch := omega) only [seval, ↓SDX, isRes, slEl, bslParts, mmAll, mmR, SUX, List.replicate, List.append, pr, lr, er, binR, ev, putA, List.set, intOf, takeAg, cellsOf, wrAll, partsOk, ones, one, isOne, wok1, findPE, List.find?, nop, prlr, isPure, pickR, optInt, rets, rv, rvs, S_ZeroApprox_c, PI, QW, IntKind.bits]
  refine ⟨_, _, Wk.freeze (i := 0) rfl (noixL_pc ..), ?_⟩
  simp (disch := omega) only [seval, ↓SDX, isRes, slEl, bslParts, mmAll, mmR, SUX, List.replicate, List.append, pr, lr, er, binR, ev, putA, List.set, intOf, takeAg, cellsOf, wrAll, partsOk, ones, one, isOne, wok1, findPE, List.find?, nop, prlr, isPure, pickR, optInt, rets, rv, rvs, PI, QW, frzL, frz, frzH, frzSg, frz_wd, frz_wi, IntKind.bits]
  unfold zapM
  unfold partedM at hpt
  by_cases hv : (polyOk p && partOk n1 A1 n2 A2 px) = true
  · rw [if_pos hv] at hpt ⊢
    obtain ⟨hp, hq⟩ : polyOk p = true ∧ partOk n1 A1 n2 A2 px = true := by simpa using hv
    obtain ⟨⟨⟨q1, q2⟩, q3⟩, q4, q5⟩ : ((okW n1 A1 = true ∧ okW n2 A2 = true) ∧ vW n1 A1 < vW n2 A2) ∧ 0 ≤ px ∧ px ≤ 64 := by simpa [partOk] using hq
    obtain ⟨n, rfl⟩ : ∃ n : Nat, px = n := ⟨px.toNat, by omega⟩
    have hone := S_l05One_pf h.toIsA p hp (vW n1 A1) (vW n2 A2) n (vW_lt ..) (vW_lt ..) (by omega)
    have hre := fun ls (hls : oneM p (vW n1 A1) (vW n2 A2) n = .ok ls) (m : Nat) (hm : m ≤ 100) => S_l05Approx_pf h.toIsA ls (vW n1 A1) (vW n2 A2) n m (oneM_ok hp hls) (vW_lt ..) (vW_lt ..) (by omega) hm
    have herr := fun e he => oneM_err (p := p) (a := vW n1 A1) (b := vW n2 A2) (pl := n) (e := e) he
    rw [pc_ok q1 q2] at hpt ⊢
    clear hv hp hq q1 q2 q3 hl
    generalize vW n1 A1 = a at *
    generalize vW n2 A2 = b at *
    by_cases hc : (decide (0 ≤ pl) && decide (pl ≤ 64)) = true
    · rw [if_pos hc] at hpt ⊢
      obtain ⟨c1, c2⟩ : 0 ≤ pl ∧ pl ≤ 64 := by simpa using hc
      obtain ⟨m, rfl⟩ : ∃ m : Nat, pl = m := ⟨pl.toNat, by omega⟩
      have hre2 := fun ls hls => hre ls hls m (by omega)
      clear hc hre
      simp only [Int.toNat_natCast]
      generalize oneM p a b n = O at *
      refine hpt.step ?_
      simp (disch := omega) only [seval, ↓SDX, isRes, slEl, bslParts, mmAll, mmR, SUX, List.replicate, List.append, pr, lr, er, binR, ev, putA, List.set, intOf, takeAg, cellsOf, wrAll, partsOk, ones, one, isOne, wok1, findPE, List.find?, nop, prlr, isPure, pickR, optInt, rets, rv, rvs, PI, QW, IntKind.bits]
      refine hone.step ?_
      cases O with
      | error e =>
        have hee := herr e rfl
        clear herr hre2
        unfold oE
        simp (disch := omega) only [seval, ↓SDX, isRes, slEl, bslParts, mmAll, mmR, SUX, List.replicate, List.append, pr, lr, er, binR, ev, putA, List.set, intOf, takeAg, cellsOf, wrAll, partsOk, ones, one, isOne, wok1, findPE, List.find?, nop, prlr, isPure, pickR, optInt, rets, rv, rvs, PI, QW, IntKind.bits]
        exact WkV.eq (by first | rfl | simp) (by first | trivial | (simp only [noix, noixL, NX, and_true, true_and]; done))
      | ok ls =>
        have hr3 := hre2 ls rfl
        clear herr hre2
        unfold oE
        dsimp only
        have hr : AV.ro 1 ls.length (List.map roW ls) = .ro 1 ls.length (rws ls) := rfl
        generalize zeroM ls a b n m = R at *
        simp (disch := omega) only [seval, ↓SDX, isRes, slEl, bslParts, mmAll, mmR, SUX, List.replicate, List.append, pr, lr, er, binR, ev, putA, List.set, intOf, takeAg, cellsOf, wrAll, partsOk, ones, one, isOne, wok1, findPE, List.find?, nop, prlr, isPure, pickR, optInt, rets, rv, rvs, PI, QW, hr, IntKind.bits]
        refine hr3.step ?_
        cases R
        all_goals
          unfold oW
          simp (disch := omega) only [seval, ↓SDX, isRes, slEl, bslParts, mmAll, mmR, SUX, List.replicate, List.append, pr, lr, er, binR, ev, putA, List.set, intOf, takeAg, cellsOf, wrAll, partsOk, ones, one, isOne, wok1, findPE, List.find?, nop, prlr, isPure, pickR, optInt, rets, rv, rvs, PI, QW, IntKind.bits]
          exact WkV.eq (by first | rfl | simp) (by first | trivial | (simp only [noix, noixL, NX, and_true, true_and]; done))
    · rw [if_neg hc] at hpt ⊢
      clear hre herr hone hc
      refine hpt.step ?_
      simp (disch := omega) only [seval, ↓SDX, isRes, slEl, bslParts, mmAll, mmR, SUX, List.replicate, List.append, pr, lr, er, binR, ev, putA, List.set, intOf, takeAg, cellsOf, wrAll, partsOk, ones, one, isOne, wok1, findPE, List.find?, nop, prlr, isPure, pickR, optInt, rets, rv, rvs, PI, QW, IntKind.bits]
      exact WkV.eq (by first | rfl | simp) (by first | trivial | (simp only [noix, noixL, NX, and_true, true_and]; done))
  · rw [if_neg hv] at hpt ⊢
    clear hv
    refine hpt.step ?_
    simp (disch := omega) only [seval, ↓SDX, isRes, slEl, bslParts, mmAll, mmR, SUX, List.replicate, List.append, pr, lr, er, binR, ev, putA, List.set, intOf, takeAg, cellsOf, wrAll, partsOk, ones, one, isOne, wok1, findPE, List.find?, nop, prlr, isPure, pickR, optInt, rets, rv, rvs, PI, QW, IntKind.bits]
    exact WkV.eq (by first | rfl | simp) (by first | trivial | (simp only [noix, noixL, NX, and_true, true_and]; done))
set_option maxRecDepth 20000 in
theorem I_ZeroApprox_pf (hcl : callable P F.I_ValidPoly_1 = true) (p : List Int) (hl : p.length ≤ 1048576) (n1 : Bool) (A1 : Nat) (n2 : Bool) (A2 : Nat) (px pl : Int) : Pf P F.I_ZeroApprox [roI p, .agg (pc n1 A1 n2 A2 px), .raw (.int .i64 pl)] (zapM p n1 A1 n2 A2 px pl) := by
  refine pf_of h.I_ZeroApprox ⟨trivial, noixL_pc .., trivial, trivial⟩ (noix_zapM ..) ?_
  have h1 := I_ValidPoly_pf h.toIsA hcl p hl
  have h2 := I_ValidPart_pf h.toIsA n1 A1 n2 A2 px
  have h3 := I_placesOk_pf h.toIsA pl
  unfold zapM
  by_cases hp : polyOk p = true
  · rw [hp] at h1 ⊢
    by_cases hq : partOk n1 A1 n2 A2 px = true
    · rw [hq] at h2 ⊢
      obtain ⟨⟨⟨q1, q2⟩, q3⟩, q4, q5⟩ : ((okW n1 A1 = true ∧ okW n2 A2 = true) ∧ vW n1 A1 < vW n2 A2) ∧ 0 ≤ px ∧ px ≤ 64 := by simpa [partOk] using hq
      obtain ⟨n, rfl⟩ : ∃ n : Nat, px = n := ⟨px.toNat, by omega⟩
      have hone := I_oneZero_ct h.toIsA p hp (vW n1 A1) (vW n2 A2) n (vW_lt ..) (vW_lt ..) (by omega)
      have hre := fun ls (hls : oneM p (vW n1 A1) (vW n2 A2) n = .ok ls) (m : Nat) (hm : m ≤ 100) => I_sturm_zeroAt_or h.toIsA false ls (vW n1 A1) (vW n2 A2) n m (oneM_ok hp hls) (vW_lt ..) (vW_lt ..) (by omega) hm
      have herr := fun e he => oneM_err (p := p) (a := vW n1 A1) (b := vW n2 A2) (pl := n) (e := e) he
      rw [pc_ok q1 q2] at h2 ⊢
      have hna := noixL_pi (vW n1 A1) (vW n2 A2) (n : Nat)
      clear hp hq q1 q2 q3 hl
      simp only [Bool.and_self, if_true]
      generalize vW n1 A1 = a at *
      generalize vW n2 A2 = b at *
      by_cases hc : (decide (0 ≤ pl) && decide (pl ≤ 64)) = true
      · rw [hc] at h3 ⊢
        obtain ⟨c1, c2⟩ : 0 ≤ pl ∧ pl ≤ 64 := by simpa using hc
        obtain ⟨m, rfl⟩ : ∃ m : Nat, pl = m := ⟨pl.toNat, by omega⟩
        have hre2 := fun ls hls => hre ls hls m (by omega)
        clear hc hre
        simp only [if_true, Int.toNat_natCast]
        generalize oneM p a b n = O at *
        simp (disch := omega) only [seval, ↓SDX, isRes, slEl, bslParts, mmAll, mmR, SUX, List.replicate, List.append, pr, lr, er, binR, ev, putA, List.set, intOf, takeAg, cellsOf, wrAll, partsOk, ones, one, isOne, wok1, findPE, List.find?, nop, prlr, isPure, pickR, optInt, rets, rv, rvs, I_ZeroApprox_c, PI, QW, IntKind.bits]
        refine h1.step ?_
        simp (disch := omega) only [seval, ↓SDX, isRes, slEl, bslParts, mmAll, mmR, SUX, List.replicate, List.append, pr, lr, er, binR, ev, putA, List.set, intOf, takeAg, cellsOf, wrAll, partsOk, ones, one, isOne, wok1, findPE, List.find?, nop, prlr, isPure, pickR, optInt, rets, rv, rvs, PI, QW, IntKind.bits]
        refine h2.step ?_
        simp (disch := omega) only [seval, ↓SDX, isRes, slEl, bslParts, mmAll, mmR, SUX, List.replicate, List.append, pr, lr, er, binR, ev, putA, List.set, intOf, takeAg, cellsOf, wrAll, partsOk, ones, one, isOne, wok1, findPE, List.find?, nop, prlr, isPure, pickR, optInt, rets, rv, rvs, PI, QW, IntKind.bits]
        refine h3.step ?_
        simp (disch := omega) only [seval, ↓SDX, isRes, slEl, bslParts, mmAll, mmR, SUX, List.replicate, List.append, pr, lr, er, binR, ev, putA, List.set, intOf, takeAg, cellsOf, wrAll, partsOk, ones, one, isOne, wok1, findPE, List.find?, nop, prlr, isPure, pickR, optInt, rets, rv, rvs, PI, QW, IntKind.bits]
        refine callD_fresh hone ⟨trivial, hna, trivial⟩ ?_
        intro v0 H0 hR
        cases O with
        | error e =>
          obtain ⟨rfl, rfl⟩ := hR
          have hee := herr e rfl
          clear herr hre2
          simp (disch := omega) only [seval, ↓SDX, isRes, slEl, bslParts, mmAll, mmR, SUX, List.replicate, List.append, pr, lr, er, binR, ev, putA, List.set, intOf, takeAg, cellsOf, wrAll, partsOk, ones, one, isOne, wok1, findPE, List.find?, nop, prlr, isPure, pickR, optInt, rets, rv, rvs, PI, QW, RN, IntKind.bits]
          exact WkV.eq (by first | rfl | simp) (by first | trivial | (simp only [noix, noixL, NX, and_true, true_and]; done))
        | ok ls =>
          obtain ⟨rfl, rfl⟩ := hR
          have hr3 := hre2 ls rfl
          clear herr hre2
          dsimp only
          generalize zeroM ls a b n m = R at *
          simp (disch := omega) only [seval, ↓SDX, isRes, slEl, bslParts, mmAll, mmR, SUX, List.replicate, List.append, pr, lr, er, binR, ev, putA, List.set, intOf, takeAg, cellsOf, wrAll, partsOk, ones, one, isOne, wok1, findPE, List.find?, nop, prlr, isPure, pickR, optInt, rets, rv, rvs, PI, QW, RN, IntKind.bits]
          refine hr3.step0 rfl ?_
          rintro v0 c0 ⟨x, o, rfl, hx, rfl, hag⟩
          have htd := I_calc_told_pf h o x
          simp (disch := omega) only [seval, ↓SDX, isRes, slEl, bslParts, mmAll, mmR, SUX, List.replicate, List.append, pr, lr, er, binR, ev, putA, List.set, intOf, takeAg, cellsOf, wrAll, partsOk, ones, one, isOne, wok1, findPE, List.find?, nop, prlr, isPure, pickR, optInt, rets, rv, rvs, PI, QW, IntKind.bits]
          refine htd.lend (.p (cs := oc o) (seg := stc o ls) rfl ⟨trivial, trivial⟩ (by show 0 + 1 ≤ 2; decide) rfl (.v .nil)) ?_ ?_
          · cases o <;> exact ⟨clean_wi _, trivial, trivial⟩
          rcases hag with ⟨rfl, -, rfl⟩ | ⟨rfl, hag⟩
          · unfold oW
            simp (disch := omega) only [seval, ↓SDX, isRes, slEl, bslParts, mmAll, mmR, SUX, List.replicate, List.append, pr, lr, er, binR, ev, putA, List.set, intOf, takeAg, cellsOf, wrAll, partsOk, ones, one, isOne, wok1, findPE, List.find?, nop, prlr, isPure, pickR, optInt, rets, rv, rvs, PI, QW, IntKind.bits]
            exact WkV.eq (by first | rfl | simp) (by first | trivial | (simp only [noix, noixL, NX, and_true, true_and]; done))
          · have : R = none := by rcases hag with k | k; cases k; exact k
            subst this
            unfold oW
            simp (disch := omega) only [seval, ↓SDX, isRes, slEl, bslParts, mmAll, mmR, SUX, List.replicate, List.append, pr, lr, er, binR, ev, putA, List.set, intOf, takeAg, cellsOf, wrAll, partsOk, ones, one, isOne, wok1, findPE, List.find?, nop, prlr, isPure, pickR, optInt, rets, rv, rvs, PI, QW, IntKind.bits]
            exact WkV.eq (by first | rfl | simp) (by first | trivial | (simp only [noix, noixL, NX, and_true, true_and]; done))
      · have hc' : (decide (0 ≤ pl) && decide (pl ≤ 64)) = false := by simpa using hc
        rw [hc'] at h3 ⊢
        clear hre herr hone hc hc'
        simp (disch := omega) only [seval, ↓SDX, isRes, slEl, bslParts, mmAll, mmR, SUX, List.replicate, List.append, pr, lr, er, binR, ev, putA, List.set, intOf, takeAg, cellsOf, wrAll, partsOk, ones, one, isOne, wok1, findPE, List.find?, nop, prlr, isPure, pickR, optInt, rets, rv, rvs, I_ZeroApprox_c, PI, QW, IntKind.bits]
        refine h1.step ?_
        simp (disch := omega) only [seval, ↓SDX, isRes, slEl, bslParts, mmAll, mmR, SUX, List.replicate, List.append, pr, lr, er, binR, ev, putA, List.set, intOf, takeAg, cellsOf, wrAll, partsOk, ones, one, isOne, wok1, findPE, List.find?, nop, prlr, isPure, pickR, optInt, rets, rv, rvs, PI, QW, IntKind.bits]
        refine h2.step ?_
        simp (disch := omega) only [seval, ↓SDX, isRes, slEl, bslParts, mmAll, mmR, SUX, List.replicate, List.append, pr, lr, er, binR, ev, putA, List.set, intOf, takeAg, cellsOf, wrAll, partsOk, ones, one, isOne, wok1, findPE, List.find?, nop, prlr, isPure, pickR, optInt, rets, rv, rvs, PI, QW, IntKind.bits]
        refine h3.step ?_
        simp (disch := omega) only [seval, ↓SDX, isRes, slEl, bslParts, mmAll, mmR, SUX, List.replicate, List.append, pr, lr, er, binR, ev, putA, List.set, intOf, takeAg, cellsOf, wrAll, partsOk, ones, one, isOne, wok1, findPE, List.find?, nop, prlr, isPure, pickR, optInt, rets, rv, rvs, PI, QW, IntKind.bits]
        exact WkV.eq (by first | rfl | simp) (by first | trivial | (simp only [noix, noixL, NX, and_true, true_and]; done))
    · have hq' : partOk n1 A1 n2 A2 px = false := by simpa using hq
      rw [hq'] at h2 ⊢
      clear hq hq'
      simp (disch := omega) only [seval, ↓SDX, isRes, slEl, bslParts, mmAll, mmR, SUX, List.replicate, List.append, pr, lr, er, binR, ev, putA, List.set, intOf, takeAg, cellsOf, wrAll, partsOk, ones, one, isOne, wok1, findPE, List.find?, nop, prlr, isPure, pickR, optInt, rets, rv, rvs, I_ZeroApprox_c, PI, QW, IntKind.bits]
      refine h1.step ?_
      simp (disch := omega) only [seval, ↓SDX, isRes, slEl, bslParts, mmAll, mmR, SUX, List.replicate, List.append, pr, lr, er, binR, ev, putA, List.set, intOf, takeAg, cellsOf, wrAll, partsOk, ones, one, isOne, wok1, findPE, List.find?, nop, prlr, isPure, pickR, optInt, rets, rv, rvs, PI, QW, IntKind.bits]
      refine h2.step ?_
      simp (disch := omega) only [seval, ↓SDX, isRes, slEl, bslParts, mmAll, mmR, SUX, List.replicate, List.append, pr, lr, er, binR, ev, putA, List.set, intOf, takeAg, cellsOf, wrAll, partsOk, ones, one, isOne, wok1, findPE, List.find?, nop, prlr, isPure, pickR, optInt, rets, rv, rvs, PI, QW, IntKind.bits]
      exact WkV.eq (by first | rfl | simp) (by first | trivial | (simp only [noix, noixL, NX, and_true, true_and]; done))
  · have hp' : polyOk p = false := by simpa using hp
    rw [hp'] at h1 ⊢
    clear hp hp'
    simp (disch := omega) only [seval, ↓SDX, isRes, slEl, bslParts, mmAll, mmR, SUX, List.replicate, List.append, pr, lr, er, binR, ev, putA, List.set, intOf, takeAg, cellsOf, wrAll, partsOk, ones, one, isOne, wok1, findPE, List.find?, nop, prlr, isPure, pickR, optInt, rets, rv, rvs, I_ZeroApprox_c, PI, QW, IntKind.bits]
    refine h1.step ?_
    simp (disch := omega) only [seval, ↓SDX, isRes, slEl, bslParts, mmAll, mmR, SUX, List.replicate, List.append, pr, lr, er, binR, ev, putA, List.set, intOf, takeAg, cellsOf, wrAll, partsOk, ones, one, isOne, wok1, findPE, List.find?, nop, prlr, isPure, pickR, optInt, rets, rv, rvs, PI, QW, IntKind.bits]
    exact WkV.eq (by first | rfl | simp) (by first | trivial | (simp only [noix, noixL, NX, and_true, true_and]; done))
end
end Go.Proofs.Lite

namespace Go.Proofs.Lite
open Go
section
variable {P : Program} {F : FnsB} (h : IsB P F)
include h
set_option maxRecDepth 20000 in
theorem W_FnExactZeroApprox_pf (hcl : callable P F.I_ValidPoly_1 = true) (p : List Int) (hl : p.length ≤ 9223372036854775807) (n1 : Bool) (A1 : Nat) (n2 : Bool) (A2 : Nat) (px pl : Int) : Pf P F.W_FnExactZeroApprox [roI p, .agg (pc n1 A1 n2 A2 px), .raw (.int .i64 pl)] (.raw (.bool true)) := by
  refine pf_of h.W_FnExactZeroApprox ⟨trivial, noixL_pc .., trivial, trivial⟩ trivial ?_
  by_cases h1 : p.length ≤ 1048576
  · have t1 := W_toInt64S_pf h.toIsA p h1
    have t2 := W_toPart_pf h.toIsA n1 A1 n2 A2 px
    have t3 := S_ZeroApprox_pf h p h1 n1 A1 n2 A2 px pl
    have t4 := I_ZeroApprox_pf h hcl p h1 n1 A1 n2 A2 px pl
    have t5 := W_eqInt64S_pf h.toIsA p h1
    obtain ⟨x, c, hform⟩ := zapM_form p n1 A1 n2 A2 px pl
    rw [hform] at t3 t4
    have t6 : Pf P F.W_eqWide [.agg (wi x), .agg (wi x)] (.raw (.bool true)) := W_eqWide_pf h.toIsA _ _
    clear hform
    simp (disch := omega) only [seval, ↓SDX, isRes, slEl, bslParts, mmAll, mmR, SUX, List.replicate, List.append, pr, lr, er, binR, ev, putA, List.set, intOf, takeAg, cellsOf, wrAll, partsOk, ones, one, isOne, wok1, findPE, List.find?, nop, prlr, isPure, pickR, optInt, rets, rv, rvs, W_FnExactZeroApprox_c, PI, PW, QW, IntKind.bits]
    refine t1.step ?_
    simp (disch := omega) only [seval, ↓SDX, isRes, slEl, bslParts, mmAll, mmR, SUX, List.replicate, List.append, pr, lr, er, binR, ev, putA, List.set, intOf, takeAg, cellsOf, wrAll, partsOk, ones, one, isOne, wok1, findPE, List.find?, nop, prlr, isPure, pickR, optInt, rets, rv, rvs, PI, PW, QW, IntKind.bits]
    refine t2.step ?_
    simp (disch := omega) only [seval, ↓SDX, isRes, slEl, bslParts, mmAll, mmR, SUX, List.replicate, List.append, pr, lr, er, binR, ev, putA, List.set, intOf, takeAg, cellsOf, wrAll, partsOk, ones, one, isOne, wok1, findPE, List.find?, nop, prlr, isPure, pickR, optInt, rets, rv, rvs, PI, PW, QW, IntKind.bits]
    refine t3.step ?_
    simp (disch := omega) only [seval, ↓SDX, isRes, slEl, bslParts, mmAll, mmR, SUX, List.replicate, List.append, pr, lr, er, binR, ev, putA, List.set, intOf, takeAg, cellsOf, wrAll, partsOk, ones, one, isOne, wok1, findPE, List.find?, nop, prlr, isPure, pickR, optInt, rets, rv, rvs, PI, PW, QW, IntKind.bits]
    refine t1.step ?_
    simp (disch := omega) only [seval, ↓SDX, isRes, slEl, bslParts, mmAll, mmR, SUX, List.replicate, List.append, pr, lr, er, binR, ev, putA, List.set, intOf, takeAg, cellsOf, wrAll, partsOk, ones, one, isOne, wok1, findPE, List.find?, nop, prlr, isPure, pickR, optInt, rets, rv, rvs, PI, PW, QW, IntKind.bits]
    refine t2.step ?_
    simp (disch := omega) only [seval, ↓SDX, isRes, slEl, bslParts, mmAll, mmR, SUX, List.replicate, List.append, pr, lr, er, binR, ev, putA, List.set, intOf, takeAg, cellsOf, wrAll, partsOk, ones, one, isOne, wok1, findPE, List.find?, nop, prlr, isPure, pickR, optInt, rets, rv, rvs, PI, PW, QW, IntKind.bits]
    refine t4.step ?_
    simp (disch := omega) only [seval, ↓SDX, isRes, slEl, bslParts, mmAll, mmR, SUX, List.replicate, List.append, pr, lr, er, binR, ev, putA, List.set, intOf, takeAg, cellsOf, wrAll, partsOk, ones, one, isOne, wok1, findPE, List.find?, nop, prlr, isPure, pickR, optInt, rets, rv, rvs, PI, PW, QW, IntKind.bits]
    refine t6.step ?_
    simp (disch := omega) only [seval, ↓SDX, isRes, slEl, bslParts, mmAll, mmR, SUX, List.replicate, List.append, pr, lr, er, binR, ev, putA, List.set, intOf, takeAg, cellsOf, wrAll, partsOk, ones, one, isOne, wok1, findPE, List.find?, nop, prlr, isPure, pickR, optInt, rets, rv, rvs, PI, PW, QW, bne_self_eq_false, IntKind.bits]
    refine t1.step ?_
    simp (disch := omega) only [seval, ↓SDX, isRes, slEl, bslParts, mmAll, mmR, SUX, List.replicate, List.append, pr, lr, er, binR, ev, putA, List.set, intOf, takeAg, cellsOf, wrAll, partsOk, ones, one, isOne, wok1, findPE, List.find?, nop, prlr, isPure, pickR, optInt, rets, rv, rvs, IntKind.bits]
    refine t5.step ?_
    simp (disch := omega) only [seval, ↓SDX, isRes, slEl, bslParts, mmAll, mmR, SUX, List.replicate, List.append, pr, lr, er, binR, ev, putA, List.set, intOf, takeAg, cellsOf, wrAll, partsOk, ones, one, isOne, wok1, findPE, List.find?, nop, prlr, isPure, pickR, optInt, rets, rv, rvs, IntKind.bits]
    exact WkV.eq (by first | rfl | simp) (by first | trivial | (simp only [noix, noixL, NX, and_true, true_and]; done))
  · have h2 : 1048576 < p.length := by omega
    clear h1
    simp (disch := omega) only [seval, ↓SDX, isRes, slEl, bslParts, mmAll, mmR, SUX, List.replicate, List.append, pr, lr, er, binR, ev, putA, List.set, intOf, takeAg, cellsOf, wrAll, partsOk, ones, one, isOne, wok1, findPE, List.find?, nop, prlr, isPure, pickR, optInt, rets, rv, rvs, W_FnExactZeroApprox_c, PI, PW, QW, IntKind.bits]
    exact WkV.eq (by first | rfl | simp) (by first | trivial | (simp only [noix, noixL, NX, and_true, true_and]; done))
end
end Go.Proofs.Lite

namespace Go.Proofs.Lite
open Go Go.RowKit Go.ChangeShapes Go.WideShapes
noncomputable def storeOf (W : World) : Store := fun a => W.cell? a
theorem inv0_start (W : World) : Inv0 (storeOf W) [] [] W :=
  ⟨rfl, fun _ _ h => h, fun i cs h => by simp at h, fun i cs h => by simp at h, fun i h => by simp at h, fun i j li lj _ h => by rcases h with ⟨c, h⟩ | ⟨c, h⟩ <;> simp at h⟩
section
variable {P : Program}
/-- What cells of a type are known to be, when they are read as data. -/
def ReadsC (P : Program) (t : TypeId) (S : List AV → Prop) : Prop :=
  ∀ (H : Type) (enc : TypeId × Value → H) (W : World) (sp : Nat → Bool) (held : Bool) (fuel : Nat) (cs : List Value) (x : DataW H × List MemPlace), DataW.trod enc P W 0 sp held fuel t cs = some x → ∃ as, S as ∧ RepL (storeOf W) [] as cs
theorem readsC_int {t : TypeId} {k : IntKind} (ht : P.underlying t = some (.int k)) : ReadsC P t (fun as => ∃ n, (Lit.int k n).wf = true ∧ as = [.raw (.int k n)]) := by
  intro H enc W sp held fuel cs x h
  obtain ⟨n, rfl, -, hw⟩ := DataW.trod_int ht h
  exact ⟨_, ⟨n, hw, rfl⟩, by simp [RepL, Rep]⟩
theorem readsC_bool {t : TypeId} (ht : P.underlying t = some .bool) : ReadsC P t (fun as => ∃ b, as = [.raw (.bool b)]) := by
  intro H enc W sp held fuel cs x h
  obtain ⟨n, rfl, -⟩ := DataW.trod_bool ht h
  exact ⟨_, ⟨n, rfl⟩, by simp [RepL, Rep]⟩
/-- Pieces one behind the other. -/
theorem repL_flatten {D : Store} {z : Nat} {S : List AV → Prop} : ∀ {n : Nat} {cs : List Value}, cs.length = n * z → (∀ i, i < n → ∃ as, S as ∧ RepL D [] as ((cs.drop (i * z)).take z)) →
    ∃ parts : List (List AV), parts.length = n ∧ (∀ p ∈ parts, S p ∧ p.length = z) ∧ RepL D [] parts.flatten cs
  | 0, cs, hl, _ => ⟨[], rfl, fun p hp => (by cases hp), by have : cs = [] := List.length_eq_zero_iff.1 (by omega); subst this; simp [RepL]⟩
  | n + 1, cs, hl, h => by
    obtain ⟨a, ha, hr⟩ := h 0 (by omega)
    rw [Nat.zero_mul, List.drop_zero] at hr
    have hl2 : (cs.drop z).length = n * z := by rw [List.length_drop, hl, Nat.succ_mul]; omega
    obtain ⟨parts, h1, h2, h3⟩ := repL_flatten (D := D) (S := S) hl2 (fun i hi => by
      obtain ⟨b, hb, hb2⟩ := h (i + 1) (by omega)
      refine ⟨b, hb, ?_⟩
      rw [List.drop_drop, show z + i * z = (i + 1) * z from by rw [Nat.succ_mul]; omega]
      exact hb2)
    have hal : a.length = z := by
      have := hr.length
      rw [List.length_take, hl, Nat.succ_mul] at this
      omega
    refine ⟨a :: parts, by simp [h1], ?_, ?_⟩
    · intro p hp
      rcases List.mem_cons.1 hp with rfl | hp
      · exact ⟨ha, hal⟩
      · exact h2 p hp
    · have := hr.append h3
      rwa [List.take_append_drop] at this
theorem readsC_array {t e : TypeId} {n z : Nat} {S : List AV → Prop} (ht : P.underlying t = some (.array n e)) (hz : P.cellsOf e = z) (hn : P.cellsOf t = n * z) (he : ReadsC P e S) :
    ReadsC P t (fun as => ∃ parts : List (List AV), parts.length = n ∧ (∀ p ∈ parts, S p ∧ p.length = z) ∧ as = parts.flatten) := by
  intro H enc W sp held fuel cs x h
  obtain ⟨xs, m, -, -, hl, hxs, hi⟩ := DataW.trod_array ht h
  rw [hn] at hl
  rw [hz] at hi
  obtain ⟨parts, h1, h2, h3⟩ := repL_flatten (D := storeOf W) (S := S) hl (fun i hin => by
    have := hi i hin
    rw [List.getElem?_eq_getElem (by omega)] at this
    exact he H enc W sp held m _ _ this)
  exact ⟨_, ⟨parts, h1, h2, rfl⟩, h3⟩
/-- Fields one behind the other. -/
def FieldsS : List (List AV → Prop) → List AV → Prop
  | [], as => as = []
  | S :: r, as => ∃ a b, S a ∧ FieldsS r b ∧ as = a ++ b
inductive ReadsFs (P : Program) : Nat → Nat → List Field → List (List AV → Prop) → Prop
  | nil {o : Nat} : ReadsFs P o o [] []
  | cons {o o' : Nat} {f : Field} {fs : List Field} {S : List AV → Prop} {Ss : List (List AV → Prop)} (z : Nat) : f.offset = o → P.cellsOf f.type = z → ReadsC P f.type S → ReadsFs P (o + z) o' fs Ss → ReadsFs P o o' (f :: fs) (S :: Ss)
theorem ReadsFs.rep {o o' : Nat} {fs : List Field} {Ss : List (List AV → Prop)} (h : ReadsFs P o o' fs Ss) {H : Type} {enc : TypeId × Value → H} {W : World} {sp : Nat → Bool} {held : Bool} {fuel : Nat} {cs : List Value} (hl : cs.length = o')
    (hf : ∀ f ∈ fs, ∃ x, DataW.trod enc P W 0 sp held fuel f.type ((cs.drop f.offset).take (P.cellsOf f.type)) = some x) : ∃ as, FieldsS Ss as ∧ RepL (storeOf W) [] as (cs.drop o) := by
  induction h with
  | @nil o => exact ⟨[], rfl, by rw [List.drop_of_length_le (by omega)]; simp [RepL]⟩
  | @cons o o' f fs S Ss z h1 h2 h3 h4 ih =>
    obtain ⟨b, hb, hb2⟩ := ih hl (fun g hg => hf g (by simp [hg]))
    obtain ⟨x, hx⟩ := hf f (by simp)
    obtain ⟨a, ha, ha2⟩ := h3 H enc W sp held fuel _ _ hx
    rw [h1, h2] at ha2
    refine ⟨a ++ b, ⟨a, b, ha, hb, rfl⟩, ?_⟩
    have := ha2.append hb2
    rwa [show cs.drop (o + z) = (cs.drop o).drop z from by rw [List.drop_drop], List.take_append_drop] at this
theorem readsC_struct {t : TypeId} {fs : Array Field} {n : Nat} {Ss : List (List AV → Prop)} (ht : P.underlying t = some (.struct fs)) (hn : P.cellsOf t = n) (h : ReadsFs P 0 n fs.toList Ss) : ReadsC P t (FieldsS Ss) := by
  intro H enc W sp held fuel cs x hx
  obtain ⟨xs, m, -, -, hl, hxs, hi⟩ := DataW.trod_struct ht hx
  obtain ⟨as, h1, h2⟩ := h.rep (enc := enc) (W := W) (sp := sp) (held := held) (fuel := m) (cs := cs) (by omega) (fun f hf => by
    obtain ⟨i, hi1, hi2⟩ := List.getElem_of_mem hf
    have hg : fs[i]? = some f := by
      rw [← hi2]; simp
    have := hi i f hg
    rw [List.getElem?_eq_getElem (by rw [hxs]; simpa using hi1)] at this
    exact ⟨_, this⟩)
  exact ⟨as, h1, by simpa using h2⟩
theorem cells?_get {W : World} {a : Addr} {n : Nat} {cs : List Value} (h : W.cells? 0 a n = some cs) : cs.length = n ∧ ∀ k, k < n → ∃ v, cs[k]? = some v ∧ W.cell? (a.add k) = some v := by
  unfold World.cells? at h
  rw [if_pos (Nat.zero_le _)] at h
  have hl := mapM_some_length h
  rw [List.length_range] at hl
  refine ⟨hl, fun k hk => ?_⟩
  have := mapM_some_get h k k (by simp [hk])
  rw [List.getElem?_eq_getElem (by omega)] at this
  exact ⟨_, List.getElem?_eq_getElem (by omega), this⟩
theorem addr_at {a : Addr} {k : Nat} (h : a.spot = none) : a.add k = ⟨a.block, a.off + k, none⟩ := by
  unfold Addr.add
  split
  · rename_i e; subst e; rw [← h]; rfl
  · rfl
/-- Cells of the world stay in the world's known store. -/
theorem repRow_of {W : World} {a : Addr} : ∀ {as : List AV} {vs : List Value} (o : Nat), RepL (storeOf W) [] as vs → (∀ k v, vs[k]? = some v → W.cell? ⟨a.block, a.off + (o + k), none⟩ = some v ∧ a.spot = none) → RepRow (storeOf W) (some a) o as
  | [], [], _, _, _ => by simp [RepRow]
  | c :: as, v :: vs, o, h, hc => by
    simp only [RepL] at h
    simp only [RepRow]
    obtain ⟨h1, h2⟩ := hc 0 v rfl
    refine ⟨⟨a, v, rfl, h2, h1, h.1⟩, repRow_of (o + 1) h.2 (fun k v hk => ?_)⟩
    obtain ⟨h3, h4⟩ := hc (k + 1) v (by simpa using hk)
    exact ⟨by rw [show o + 1 + k = o + (k + 1) from by omega]; exact h3, h4⟩
  | [], _ :: _, _, h, _ => by simp [RepL] at h
  | _ :: _, [], _, h, _ => by simp [RepL] at h
theorem readsC_slice {t e : TypeId} {z : Nat} {S : List AV → Prop} (ht : P.underlying t = some (.slice e)) (hz : P.cellsOf e = z) (he : ReadsC P e S) :
    ReadsC P t (fun as => ∃ parts : List (List AV), parts.length ≤ 9223372036854775807 ∧ (∀ p ∈ parts, S p ∧ p.length = z) ∧ as = [.ro z parts.length parts.flatten]) := by
  intro H enc W sp held fuel cs x h
  rcases DataW.trod_slice ht h with ⟨rfl, -⟩ | ⟨a, len, cap, elems, rest, n, -, rfl, -, -, hlc, hcm, hel, hi, -, -⟩
  · exact ⟨_, ⟨[], by simp, fun p hp => (by cases hp), rfl⟩, by simp [RepL, Rep, RepRow]⟩
  · rw [hz] at hi
    -- the cells of all elements
    have each : ∀ i, i < len → ∃ cs, W.cells? 0 (a.add (i * z)) z = some cs ∧ ∃ as, S as ∧ RepL (storeOf W) [] as cs := by
      intro i hil
      have := hi i hil
      rw [List.getElem?_eq_getElem (by omega), Option.bind_eq_some_iff] at this
      obtain ⟨cs, h1, h2⟩ := this
      exact ⟨cs, h1, he H enc W sp held n _ _ h2⟩
    have key : ∀ m, m ≤ len → ∃ parts : List (List AV), parts.length = m ∧ (∀ p ∈ parts, S p ∧ p.length = z) ∧ RepRow (storeOf W) (some a) 0 parts.flatten := by
      intro m
      induction m with
      | zero => intro _; exact ⟨[], rfl, fun p hp => (by cases hp), by simp [RepRow]⟩
      | succ m ih =>
        intro hm
        obtain ⟨parts, h1, h2, h3⟩ := ih (by omega)
        obtain ⟨cs, hcs, as, hs, hr⟩ := each m (by omega)
        obtain ⟨hl, hg⟩ := cells?_get hcs
        have hal : as.length = z := by rw [hr.length, hl]
        have hfl : parts.flatten.length = m * z := by
          rw [← h1]
          clear h3 hr hs h1
          induction parts with
          | nil => simp
          | cons p ps ih2 =>
            rw [List.flatten_cons, List.length_append, ih2 (fun q hq => h2 q (by simp [hq])), (h2 p (by simp)).2, List.length_cons, Nat.succ_mul]; omega
        refine ⟨parts ++ [as], by simp [h1], ?_, ?_⟩
        · intro p hp
          rcases List.mem_append.1 hp with hp | hp
          · exact h2 p hp
          · simp at hp; subst hp; exact ⟨hs, hal⟩
        · rw [List.flatten_append]
          have hrow : RepRow (storeOf W) (some a) (m * z) as := by
            refine repRow_of (m * z) hr (fun k v hk => ?_)
            have hkz : k < z := by
              have := (List.getElem?_eq_some_iff.1 hk).1; omega
            obtain ⟨v', h5, h6⟩ := hg k hkz
            rw [hk] at h5; injection h5 with h5; subst h5
            have hspot : a.spot = none := by
              have h7 := each 0 (by omega)
              obtain ⟨cs0, hcs0, -⟩ := h7
              obtain ⟨-, hg0⟩ := cells?_get hcs0
              obtain ⟨v0, -, h8⟩ := hg0 0 (by omega)
              have : (a.add (0 * z)).add 0 = a := by simp [Addr.add]
              rw [this] at h8
              exact World.cell?_spot h8
            refine ⟨?_, hspot⟩
            rw [addr_at hspot] at h6
            rw [addr_at (by rfl)] at h6
            simpa [Nat.add_assoc] using h6
          refine RepRow.of_get (fun i c hc => ?_)
          by_cases hlt : i < parts.flatten.length
          · rw [List.getElem?_append_left hlt] at hc
            exact h3.get hc
          · rw [List.getElem?_append_right (by omega)] at hc
            simp only [List.flatten_cons, List.flatten_nil, List.append_nil] at hc
            have := hrow.get hc
            rw [hfl] at this
            rw [hfl] at hlt
            rwa [show m * z + (i - m * z) = 0 + i from by omega] at this
    obtain ⟨parts, h1, h2, h3⟩ := key len (Nat.le_refl _)
    refine ⟨_, ⟨parts, by rw [h1]; exact Nat.le_trans hlc hcm, h2, rfl⟩, ?_⟩
    simp only [RepL, Rep, and_true]
    refine ⟨some a, cap, by rw [h1], by rw [h1]; exact hlc, ?_, h3⟩
    clear h3 h1
    induction parts with
    | nil => simp
    | cons p ps ih2 =>
      rw [List.flatten_cons, List.length_append, ih2 (fun q hq => h2 q (by simp [hq])), (h2 p (by simp)).2, List.length_cons, Nat.succ_mul]; omega
/-- The same of a value that is handed over. -/
def ReadsV (P : Program) (t : TypeId) (S : AV → Prop) : Prop :=
  ∀ (H : Type) (enc : TypeId × Value → H) (W : World) (sp : Nat → Bool) (held : Bool) (r : Reach) (b0 : Nat) (v : Value) (d : DataW H) (ps : List MemPlace), Value.okWide P W r b0 t v → DataW.Trod enc P W 0 sp held t v d ps → ∃ a, S a ∧ Rep (storeOf W) [] a v
theorem readsV_struct {t : TypeId} {fs : Array Field} {S : List AV → Prop} (ht : P.underlying t = some (.struct fs)) (h : ReadsC P t S) : ReadsV P t (fun a => ∃ as, S as ∧ a = .agg as) := by
  intro H enc W sp held r b0 v d ps hok hd
  obtain ⟨cs, rfl, -⟩ := okWide_struct ht hok
  obtain ⟨fuel, hf⟩ := hd
  obtain ⟨as, h1, h2⟩ := h H enc W sp held fuel _ _ hf
  exact ⟨_, ⟨as, h1, rfl⟩, by simp only [Rep]; exact ⟨cs.toList, by simp, h2⟩⟩
theorem readsV_slice {t e : TypeId} {S : List AV → Prop} (ht : P.underlying t = some (.slice e)) (h : ReadsC P t S) : ReadsV P t (fun a => S [a]) := by
  intro H enc W sp held r b0 v d ps hok hd
  obtain ⟨a, l, c, rfl⟩ := okWide_slice ht hok
  obtain ⟨fuel, hf⟩ := hd
  obtain ⟨as, h1, h2⟩ := h H enc W sp held fuel _ _ hf
  cases as with
  | nil => simp [RepL, Value.cells] at h2
  | cons a' as => cases as with
    | nil => simp only [Value.cells, RepL, and_true] at h2; exact ⟨a', h1, h2⟩
    | cons => simp [RepL, Value.cells] at h2
theorem readsV_int {t : TypeId} {k : IntKind} (ht : P.underlying t = some (.int k)) : ReadsV P t (fun a => ∃ n, (Lit.int k n).wf = true ∧ a = .raw (.int k n)) := by
  intro H enc W sp held r b0 v d ps hok hd
  obtain ⟨n, rfl, -, -, hw⟩ := open_int ht hok hd
  exact ⟨_, ⟨n, hw, rfl⟩, by simp [Rep]⟩
def ReadsAll (P : Program) : List TypeId → List (AV → Prop) → Prop
  | [], [] => True
  | t :: ts, S :: Ss => ReadsV P t S ∧ ReadsAll P ts Ss
  | _, _ => False
def AllS : List (AV → Prop) → List AV → Prop
  | [], [] => True
  | S :: Ss, a :: as => S a ∧ AllS Ss as
  | _, _ => False
theorem readsAll_rep {H : Type} {enc : TypeId × Value → H} {W : World} {sp : Nat → Bool} {held : Bool} {r : Reach} {b0 : Nat} : ∀ {ts : List TypeId} {Ss : List (AV → Prop)} {vs : List Value} {ds : List (DataW H)} {ps : List MemPlace}, ReadsAll P ts Ss →
    DataW.TrodAll enc P W 0 sp held ts vs ds ps → (∀ (j : Nat) t v, ts[j]? = some t → vs[j]? = some v → Value.okWide P W r b0 t v) → ∃ as, AllS Ss as ∧ RepL (storeOf W) [] as vs
  | [], [], vs, ds, ps, _, h, _ => by
    obtain ⟨rfl, rfl, rfl⟩ := trodAll_nil h
    exact ⟨[], trivial, by simp [RepL]⟩
  | t :: ts, S :: Ss, vs, ds, ps, hR, h, hval => by
    obtain ⟨v, vs', d, ds', p, q, rfl, rfl, rfl, h1, h2⟩ := trodAll_cons h
    obtain ⟨a, ha, ha2⟩ := hR.1 H enc W sp held r b0 v d p (hval 0 t v rfl rfl) h1
    obtain ⟨as, has, has2⟩ := readsAll_rep hR.2 h2 (fun j t v h3 h4 => hval (j + 1) t v (by simpa using h3) (by simpa using h4))
    exact ⟨a :: as, ⟨ha, has⟩, by simp only [RepL]; exact ⟨ha2, has2⟩⟩
  | [], _ :: _, _, _, _, h, _, _ => h.elim
  | _ :: _, [], _, _, _, h, _, _ => h.elim
theorem trodAll_stays (hl : laidOutB P = true) {H : Type} {enc : TypeId × Value → H} {W W' : World} (hb : Below W.heap.size W W') {sp : Nat → Bool} : ∀ {ts : List TypeId} {vs : List Value} {ds : List (DataW H)} {ps : List MemPlace},
    (∀ t ∈ ts, P.readableRec t = true ∧ t < P.types.size) → DataW.TrodAll enc P W 0 (fun _ => true) true ts vs ds ps → (∀ x ∈ ps, x.block < W.heap.size) → (∀ x ∈ ps, sp x.block = true) → DataW.TrodAll enc P W' 0 sp true ts vs ds ps
  | [], vs, ds, ps, _, h, _, _ => by
    obtain ⟨rfl, rfl, rfl⟩ := trodAll_nil h
    exact trodAll_mk0
  | t :: ts, vs, ds, ps, hr, h, hlt, hsp => by
    obtain ⟨v, vs', d, ds', p, q, rfl, rfl, rfl, h1, h2⟩ := trodAll_cons h
    obtain ⟨hr1, hr2⟩ := hr t (by simp)
    exact trodAll_cons_mk (WideElems.Trod_stays hl hr1 hr2 h1 (fun x hx => hb.same (hlt x (by simp [hx]))) (fun x hx => hsp x (by simp [hx])))
      (trodAll_stays hl hb (fun t ht => hr t (by simp [ht])) h2 (fun x hx => hlt x (by simp [hx])) (fun x hx => hsp x (by simp [hx])))
/-- What a law's row asks behind the call: the arguments as they were. -/
theorem post_old {f : Func} {s : ChangeSpec} {apart fresh handsOn again : Bool} {H : Type} {enc : TypeId × Value → H} {W W' : World} {args : Array Value} {v : Value} {ds gs : List (DataW H)} {before pa pv : List MemPlace}
    (hW : DataW.Whole enc P f.params.toList s.vars apart W args.toList ds gs before)
    (hres : ∀ (b : Nat) (sp : Nat → Bool) (hd : Bool), DataW.TrodAll enc P W' b sp hd f.resultTypes.toList (v.resultList f.resultTypes.size) (s.fn H (ds ++ gs)).results [])
    (hargs : ∀ sp : Nat → Bool, (∀ p ∈ before, sp p.block = true) → DataW.TrodAll enc P W' 0 sp true f.params.toList args.toList (s.fn H (ds ++ gs)).args pa)
    (hvars : ∀ sp : Nat → Bool, (∀ p ∈ before, sp p.block = true) → DataW.TrodVars enc P W' sp s.vars (s.fn H (ds ++ gs)).vars pv)
    (hps : before = pa ++ pv) (hb : Below W.heap.size W W')
    (hok : ∀ (j : Nat) (t : TypeId) (r : Value), f.resultTypes[j]? = some t → (v.resultList f.resultTypes.size)[j]? = some r → Value.okWide P W' .any 0 t r) :
    s.post enc P f apart fresh handsOn again W args v W' := by
  subst hps
  have hlt := hW.lt
  have hold : ∀ p ∈ pa ++ pv, (fun b => decide (b < W.heap.size)) p.block = true := fun p hp => by simpa using hlt p hp
  have hkeep := hW
  obtain ⟨_, _, _, _, _, hz, hn⟩ := hW
  have whole : ∀ b sp hd, DataW.TrodAll enc P W' b sp hd f.resultTypes.toList (v.resultList f.resultTypes.size) (s.fn H (ds ++ gs)).results [] := hres
  refine ⟨ds, gs, pa ++ pv, [], pa, pv, hkeep, whole _ _ _, hargs _ hold, hvars _ hold, World.keptBut_mono (fun p hp => ⟨hp, .inr (List.mem_append.1 hp)⟩) (hb.frame (· ∈ pa ++ pv)), fun _ => ⟨hok, _, _, ([] ++ pa) ++ pv, ⟨[] ++ pa, pv, trodAll_append (hargs _ (fun _ _ => rfl)) (whole _ _ _), hvars _ (fun _ _ => rfl), rfl, ?_, ?_⟩, ?_⟩⟩
  · intro b off hp
    rw [List.nil_append] at hp
    rw [hb.frozen (hlt _ hp)]
    exact hz b off hp
  · intro ha
    simpa using hn ha
  · intro p hp _
    simpa using hp
/-- The contract of a law's row, out of a contract over what is known. -/
theorem law_contract {fid : FuncId} {f : Func} {s : ChangeSpec} {ts : List TypeId} {Ss : List (AV → Prop)} {tb : TypeId} {fresh handsOn again : Bool} (hts : f.params.toList = ts) (hR : ReadsAll P ts Ss) (hl : laidOutB P = true) (hr : ∀ t ∈ ts, P.readableRec t = true ∧ t < P.types.size)
    (hres : f.resultTypes = #[tb]) (htb : P.underlying tb = some .bool) (hv : s.vars = []) (hfn : ∀ (H : Type) (ds : List (DataW H)), ds.length = ts.length → (s.fn H ds).results = [.lit (.bool true)] ∧ (s.fn H ds).args = ds ∧ (s.fn H ds).vars = [])
    (hct : ∀ as, AllS Ss as → Ct P fid as [] (fun v H' => H' = [] ∧ v = .raw (.bool true)))
    {H : Type} {enc : TypeId × Value → H} {W : World} {base : Nat} {args : Array Value} {ds gs : List (DataW H)} {before : List MemPlace}
    (hval : ∀ (j : Nat) t v, f.params[j]? = some t → args[j]? = some v → Value.okWide P W .any base t v) (hW : DataW.Whole enc P f.params.toList s.vars false W args.toList ds gs before) :
    Calls P fid args W fun e W' => ∃ v, e = .returned v ∧ s.post enc P f false fresh handsOn again W args v W' := by
  have hW' := hW
  obtain ⟨p, q, hA, hV, rfl, hfz, hnd⟩ := hW
  rw [hv] at hV
  obtain ⟨rfl, rfl⟩ := trodVars_none hV
  have hA' := hA
  rw [hts] at hA
  obtain ⟨as, has, hrep⟩ := readsAll_rep hR hA (fun j t v h1 h2 => hval j t v (by rw [← hts] at h1; simpa using h1) (by simpa using h2))
  have hlen : ds.length = ts.length := by
    clear hval hW' hfz hnd hV hA' hrep has hts hR hr hfn hct
    generalize args.toList = vs at hA
    induction ts generalizing vs ds p with
    | nil => obtain ⟨-, rfl, -⟩ := trodAll_nil hA; rfl
    | cons t ts ih =>
      obtain ⟨v, vs', d, ds', p', q', rfl, rfl, rfl, h1, h2⟩ := trodAll_cons hA
      simp [ih _ _ h2]
  obtain ⟨f1, f2, f3⟩ := hfn H (ds ++ []) (by simpa using hlen)
  have hcall := hct as has (storeOf W) [] W args.toList (inv0_start W) hrep
  rw [Array.toArray_toList] at hcall
  refine hcall.mono ?_
  rintro e W' ⟨v, x, D', ρ', H', rfl, hx, ⟨rfl, rfl⟩, hb⟩
  simp only [Rep] at hx
  subst hx
  have hfr : Fr (fun _ => False) W W' := by
    have := hb.fr
    have e : InH [] ([] : Heap) = fun _ => False := by
      funext a
      apply propext
      constructor
      · rintro ⟨i, l, j, hL, -⟩
        rcases hL with ⟨c, h⟩ | ⟨c, h⟩ <;> simp at h
      · exact False.elim
    rw [← e]; exact this
  have hbel := hfr.below
  refine ⟨_, rfl, post_old (pa := p) (pv := []) hW' (fun b sp hd => ?_) (fun sp hsp => ?_) (fun sp hsp => ?_) (by simp) hbel (ok_one hres rfl (okWide_bool_mk htb _))⟩
  · rw [f1, hres]
    exact trodAll_mk1 (shut_bool htb _)
  · rw [f2, hts, List.append_nil]
    exact trodAll_stays hl hbel hr hA (fun x hx => hW'.lt x (by simpa using hx)) (fun x hx => hsp x (by simpa using hx))
  · rw [f3, hv]; exact rfl
end
end Go.Proofs.Lite

namespace Go.Proofs.Lite
open Go Go.RowKit Go.ChangeShapes Go.WideShapes
theorem wf_i64 {n : Int} (h : (Lit.int .i64 n).wf = true) : -9223372036854775808 ≤ n ∧ n < 9223372036854775808 := by
  have : -9223372036854775808 ≤ n ∧ n ≤ 9223372036854775807 := by simpa [Lit.wf, IntKind.min, IntKind.max, IntKind.signed, IntKind.bits] using h
  omega
theorem wf_u32 {n : Int} (h : (Lit.int .u32 n).wf = true) : 0 ≤ n ∧ n < 4294967296 := by
  have : 0 ≤ n ∧ n ≤ 4294967295 := by simpa [Lit.wf, IntKind.min, IntKind.max, IntKind.signed, IntKind.bits] using h
  omega
section
variable {P : Program}
theorem ReadsC.mono {t : TypeId} {S S' : List AV → Prop} (h : ReadsC P t S) (hs : ∀ as, S as → S' as) : ReadsC P t S' := by
  intro H enc W sp held fuel cs x hx
  obtain ⟨as, h1, h2⟩ := h H enc W sp held fuel cs x hx
  exact ⟨as, hs as h1, h2⟩
theorem ReadsV.mono {t : TypeId} {S S' : AV → Prop} (h : ReadsV P t S) (hs : ∀ a, S a → S' a) : ReadsV P t S' := by
  intro H enc W sp held r b0 v d ps h1 h2
  obtain ⟨a, h3, h4⟩ := h H enc W sp held r b0 v d ps h1 h2
  exact ⟨a, hs a h3, h4⟩
theorem parts_u32 : ∀ {parts : List (List AV)}, (∀ p ∈ parts, (∃ n, (Lit.int .u32 n).wf = true ∧ p = [.raw (.int .u32 n)]) ∧ p.length = 1) → ∃ l : List Nat, l.length = parts.length ∧ Lim l ∧ parts.flatten = u32s l
  | [], _ => ⟨[], rfl, fun x hx => (by cases hx), rfl⟩
  | p :: ps, h => by
    obtain ⟨⟨n, hn, rfl⟩, -⟩ := h p (by simp)
    obtain ⟨l, h1, h2, h3⟩ := parts_u32 (parts := ps) (fun q hq => h q (by simp [hq]))
    obtain ⟨w1, w2⟩ := wf_u32 hn
    refine ⟨n.toNat :: l, by simp [h1], ?_, ?_⟩
    · intro x hx
      rcases List.mem_cons.1 hx with rfl | hx
      · omega
      · exact h2 x hx
    · rw [List.flatten_cons, h3]
      simp only [u32s, List.map_cons, List.cons_append, List.nil_append]
      rw [show ((n.toNat : Nat) : Int) = n from by omega]
theorem parts_i64 : ∀ {parts : List (List AV)}, (∀ p ∈ parts, (∃ n, (Lit.int .i64 n).wf = true ∧ p = [.raw (.int .i64 n)]) ∧ p.length = 1) → ∃ l : List Int, l.length = parts.length ∧ (∀ x ∈ l, -9223372036854775808 ≤ x ∧ x < 9223372036854775808) ∧ parts.flatten = i64s l
  | [], _ => ⟨[], rfl, fun x hx => (by cases hx), rfl⟩
  | p :: ps, h => by
    obtain ⟨⟨n, hn, rfl⟩, -⟩ := h p (by simp)
    obtain ⟨l, h1, h2, h3⟩ := parts_i64 (parts := ps) (fun q hq => h q (by simp [hq]))
    refine ⟨n :: l, by simp [h1], ?_, ?_⟩
    · intro x hx
      rcases List.mem_cons.1 hx with rfl | hx
      · exact wf_i64 hn
      · exact h2 x hx
    · rw [List.flatten_cons, h3]; rfl
theorem readsC_mg {t e : TypeId} (ht : P.underlying t = some (.array 6 e)) (hz : P.cellsOf e = 1) (hn : P.cellsOf t = 6) (he : P.underlying e = some (.int .u32)) : ReadsC P t (fun as => ∃ A, as = mg A) := by
  refine (readsC_array (n := 6) (z := 1) ht hz hn (readsC_int he)).mono ?_
  rintro as ⟨parts, h1, h2, rfl⟩
  obtain ⟨l, h3, h4, h5⟩ := parts_u32 h2
  exact ⟨valL l, by rw [h5]; exact mg_valL (by omega) h4⟩
theorem readsC_wd {t : TypeId} {fs : Array Field} {f0 f1 : Field} (ht : P.underlying t = some (.struct fs)) (hfs : fs.toList = [f0, f1]) (hn : P.cellsOf t = 7) (o0 : f0.offset = 0) (o1 : f1.offset = 1) (c0 : P.cellsOf f0.type = 1) (c1 : P.cellsOf f1.type = 6)
    (h0 : ReadsC P f0.type (fun as => ∃ b, as = [.raw (.bool b)])) (h1 : ReadsC P f1.type (fun as => ∃ A, as = mg A)) : ReadsC P t (fun as => ∃ n A, as = wd n A) := by
  refine (readsC_struct (n := 7) ht hn (Ss := [_, _]) (by rw [hfs]; exact .cons 1 o0 c0 h0 (.cons 6 o1 c1 h1 .nil))).mono ?_
  rintro as ⟨a, b, ⟨n, rfl⟩, ⟨c, d, ⟨A, rfl⟩, hd, rfl⟩, rfl⟩
  obtain rfl : d = [] := hd
  exact ⟨n, A, by rw [List.append_nil]; rfl⟩
theorem readsC_pc {t : TypeId} {fs : Array Field} {f0 f1 f2 : Field} (ht : P.underlying t = some (.struct fs)) (hfs : fs.toList = [f0, f1, f2]) (hn : P.cellsOf t = 15) (o0 : f0.offset = 0) (o1 : f1.offset = 7) (o2 : f2.offset = 14) (c0 : P.cellsOf f0.type = 7) (c1 : P.cellsOf f1.type = 7) (c2 : P.cellsOf f2.type = 1)
    (h0 : ReadsC P f0.type (fun as => ∃ n A, as = wd n A)) (h1 : ReadsC P f1.type (fun as => ∃ n A, as = wd n A)) (h2 : P.underlying f2.type = some (.int .i64)) : ReadsC P t (fun as => ∃ n1 A1 n2 A2 pl, -9223372036854775808 ≤ pl ∧ pl < 9223372036854775808 ∧ as = pc n1 A1 n2 A2 pl) := by
  refine (readsC_struct (n := 15) ht hn (Ss := [_, _, _]) (by rw [hfs]; exact .cons 7 o0 c0 h0 (.cons 7 o1 c1 h1 (.cons 1 o2 c2 (readsC_int h2) .nil)))).mono ?_
  rintro as ⟨a, b, ⟨n1, A1, rfl⟩, ⟨c, d, ⟨n2, A2, rfl⟩, ⟨e, f, ⟨pl, hw, rfl⟩, hd, rfl⟩, rfl⟩, rfl⟩
  obtain rfl : f = [] := hd
  obtain ⟨w1, w2⟩ := wf_i64 hw
  exact ⟨n1, A1, n2, A2, pl, w1, w2, rfl⟩
theorem readsV_ints {t e : TypeId} (ht : P.underlying t = some (.slice e)) (hz : P.cellsOf e = 1) (he : P.underlying e = some (.int .i64)) :
    ReadsV P t (fun a => ∃ l : List Int, l.length ≤ 9223372036854775807 ∧ (∀ x ∈ l, -9223372036854775808 ≤ x ∧ x < 9223372036854775808) ∧ a = roI l) := by
  refine (readsV_slice ht (readsC_slice ht hz (readsC_int he))).mono ?_
  rintro a ⟨parts, h1, h2, h3⟩
  obtain ⟨l, h4, h5, h6⟩ := parts_i64 h2
  refine ⟨l, by omega, h5, ?_⟩
  injection h3 with h3 _
  rw [h3, h6, ← h4]
end
theorem allS_nil {xs : List AV} (h : AllS [] xs) : xs = [] := by cases xs with
  | nil => rfl
  | cons => exact h.elim
theorem allS_cons {S : AV → Prop} {Ss : List (AV → Prop)} {xs : List AV} (h : AllS (S :: Ss) xs) : ∃ a ys, xs = a :: ys ∧ S a ∧ AllS Ss ys := by cases xs with
  | nil => exact h.elim
  | cons a ys => exact ⟨a, ys, rfl, h.1, h.2⟩
end Go.Proofs.Lite
