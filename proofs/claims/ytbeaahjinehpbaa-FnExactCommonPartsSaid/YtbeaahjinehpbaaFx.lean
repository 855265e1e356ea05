/- A layer over the walk, contracts of functions, and plain laws: parts of the proof in YtbeaahjinehpbaaProof. -/
import Derived.ProofKit
import Derived.OpenShut
import Derived.JoinedCond
import Derived.Test.YtbeaahjinehpbaaEx
set_option linter.all false
namespace Go.Proofs.Lite
open Go
section
variable {P : Program} {F : FnsA} (h : IsA P F)
include h
set_option maxRecDepth 20000 in
theorem I_oneZero_ct (p : List Int) (hp : polyOk p = true) (a b : Int) (pl : Nat) (ha : a.natAbs < bW) (hb : b.natAbs < bW) (hpl : pl ≤ 100) : Ct P F.I_oneZero [roI p, .agg (pi a b (pl : Nat))] [] (newR (oneM p a b pl)) := by
  refine fresh_of h.I_oneZero ?_
  have hst := I_newSturm_ct h p hp
  have hok := fun ls hls => simpleM_ok hp (ls := ls) hls
  have her := fun e he => simpleM_err (p := p) (e := e) he
  unfold oneM
  generalize simpleM p = S at *
  simp (disch := omega) only [seval, ↓SDX, isRes, slEl, bslParts, mmAll, mmR, SUX, List.replicate, List.append, pr, lr, er, binR, ev, putA, List.set, intOf, takeAg, cellsOf, wrAll, partsOk, ones, one, isOne, wok1, findPE, List.find?, nop, prlr, isPure, pickR, optInt, rets, rv, rvs, I_oneZero_c, CN, PI, FR, IntKind.bits]
  refine callD_fresh hst ⟨trivial, trivial⟩ ?_
  intro v0 H0 hR
  cases S with
  | error e =>
    obtain ⟨rfl, rfl⟩ := hR
    have := her e rfl
    clear her hok
    simp (disch := omega) only [seval, ↓SDX, isRes, slEl, bslParts, mmAll, mmR, SUX, List.replicate, List.append, pr, lr, er, binR, ev, putA, List.set, intOf, takeAg, cellsOf, wrAll, partsOk, ones, one, isOne, wok1, findPE, List.find?, nop, prlr, isPure, pickR, optInt, rets, rv, rvs, RN, CN, FR, IntKind.bits]
    exact ⟨_, _, ⟨rfl, rfl⟩, Wk.cut (n := 0) (Nat.le_refl 0)⟩
  | ok ls =>
    obtain ⟨rfl, rfl⟩ := hR
    have hc := I_sturm_count_or h false ls a b pl (hok ls rfl) ha hb hpl
    clear her hok
    dsimp only
    generalize countM ls a b pl = C at *
    simp (disch := omega) only [seval, ↓SDX, isRes, slEl, bslParts, mmAll, mmR, SUX, List.replicate, List.append, pr, lr, er, binR, ev, putA, List.set, intOf, takeAg, cellsOf, wrAll, partsOk, ones, one, isOne, wok1, findPE, List.find?, nop, prlr, isPure, pickR, optInt, rets, rv, rvs, RN, CN, PI, IntKind.bits]
    refine hc.step0 rfl ?_
    rintro v0 c0 ⟨n, o, rfl, -, -, rfl, hag⟩
    rcases hag with ⟨rfl, -, rfl⟩ | ⟨rfl, hag⟩
    · dsimp only
      by_cases hn : n = 1
      · rw [if_pos hn]
        subst hn
        have hro : AV.ro 1 ls.length (List.map roW ls) = .ro 1 ls.length (rws ls) := rfl
        simp (disch := omega) only [seval, ↓SDX, isRes, slEl, bslParts, mmAll, mmR, SUX, List.replicate, List.append, pr, lr, er, binR, ev, putA, List.set, intOf, takeAg, cellsOf, wrAll, partsOk, ones, one, isOne, wok1, findPE, List.find?, nop, prlr, isPure, pickR, optInt, rets, rv, rvs, CN, FR, IntKind.bits]
        refine ⟨_, _, ⟨rfl, rfl⟩, ?_⟩
        refine (Wk.kill 0).trans ?_
        exact Wk.back (i := 0) (j := 1) (n := 1) (by decide) (by decide) (by decide) rfl rfl (by simp only [mvL, mvAV, cutL, cutAV, fits, DU, eq_self, and_self, and_true, true_and, Int.cast_ofNat_Int, Int.natCast_add, List.replicate, List.cons_append, List.nil_append, ↓reduceIte, Nat.reduceEqDiff, Nat.reduceLT, reduceCtorEq, if_true, if_false, List.map_cons, List.map_nil, List.take_succ_cons, List.take_zero, List.set, mvAV, cutAV]) (by simp only [cutH, mvH, mvSg, cutSg, mvL, cutL, DU, eq_self, and_self, and_true, true_and, Int.cast_ofNat_Int, Int.natCast_add, List.replicate, List.cons_append, List.nil_append, ↓reduceIte, Nat.reduceEqDiff, Nat.reduceLT, reduceCtorEq, if_true, if_false, List.map_cons, List.map_nil, List.take_succ_cons, List.take_zero, List.set, mvAV, cutAV])
      · rw [if_neg hn]
        simp (disch := omega) only [seval, ↓SDX, isRes, slEl, bslParts, mmAll, mmR, SUX, List.replicate, List.append, pr, lr, er, binR, ev, putA, List.set, intOf, takeAg, cellsOf, wrAll, partsOk, ones, one, isOne, wok1, findPE, List.find?, nop, prlr, isPure, pickR, optInt, rets, rv, rvs, CN, FR, hn, IntKind.bits]
        exact ⟨_, _, ⟨rfl, rfl⟩, Wk.cut (n := 0) (Nat.le_refl 0)⟩
    · have : C = none := by rcases hag with h1 | h1; cases h1; exact h1
      subst this
      simp (disch := omega) only [seval, ↓SDX, isRes, slEl, bslParts, mmAll, mmR, SUX, List.replicate, List.append, pr, lr, er, binR, ev, putA, List.set, intOf, takeAg, cellsOf, wrAll, partsOk, ones, one, isOne, wok1, findPE, List.find?, nop, prlr, isPure, pickR, optInt, rets, rv, rvs, CN, FR, IntKind.bits]
      exact ⟨_, _, ⟨rfl, rfl⟩, Wk.cut (n := 0) (Nat.le_refl 0)⟩
end
end Go.Proofs.Lite

namespace Go.Proofs.Lite
open Go
section
variable {P : Program} {F : FnsA} (h : IsA P F)
include h
theorem S_l00Max_pf (a b : Int) : Pf P F.S_l00Max [.raw (.int .i64 a), .raw (.int .i64 b)] (.raw (.int .i64 (max a b))) := by
  refine pf_of h.S_l00Max (by simp only [noixL, noix, NX, and_true, true_and]) trivial ?_
  by_cases hc : b < a
  · rw [show max a b = a from by omega]
    simp (disch := omega) only [seval, ↓SDX, isRes, slEl, bslParts, mmAll, mmR, SUX, List.replicate, List.append, pr, lr, er, binR, ev, putA, List.set, intOf, takeAg, cellsOf, wrAll, partsOk, ones, one, isOne, wok1, findPE, List.find?, nop, prlr, isPure, pickR, optInt, rets, rv, rvs, S_l00Max_c, IntKind.bits]
    exact WkV.eq (by first | rfl | simp) (by first | trivial | (simp only [noix, noixL, NX, and_true, true_and]; done))
  · rw [show max a b = b from by omega]
    simp (disch := omega) only [seval, ↓SDX, isRes, slEl, bslParts, mmAll, mmR, SUX, List.replicate, List.append, pr, lr, er, binR, ev, putA, List.set, intOf, takeAg, cellsOf, wrAll, partsOk, ones, one, isOne, wok1, findPE, List.find?, nop, prlr, isPure, pickR, optInt, rets, rv, rvs, S_l00Max_c, IntKind.bits]
    exact WkV.eq (by first | rfl | simp) (by first | trivial | (simp only [noix, noixL, NX, and_true, true_and]; done))
end
end Go.Proofs.Lite

namespace Go.Proofs.Lite
open Go
/-- All rows of a chain are without 0 at their ends. -/
def chainNz (ls : List (List Int)) : Prop := ∀ l ∈ ls, nz l ∧ l ≠ []
theorem thin_nz {s : List Int} (hz : nz s) (hne : s ≠ []) : nz (thinM s) := by
  have hg := gcdL_ne hz hne
  rcases hz with h | h
  · exact absurd h hne
  · right
    have hl : 0 < s.length := by cases s with
      | nil => exact absurd rfl hne
      | cons => simp
    rw [thinM_length, thinM_get (by omega)]
    have hm : s.getD (s.length - 1) 0 ∈ s := by rw [List.getD_eq_getElem?_getD, List.getElem?_eq_getElem (by omega)]; exact List.getElem_mem _
    have hd := (gcdL_dvd s 0).2 _ hm
    generalize s.getD (s.length - 1) 0 = x at *
    generalize gcdL s 0 = g at *
    intro e
    have h2 : (g : Int) ∣ x := Int.ofNat_dvd_left.2 hd
    rw [Int.fdiv_eq_ediv_of_nonneg _ (by omega)] at e
    have := Int.ediv_mul_cancel h2
    rw [e, Int.zero_mul] at this
    exact h this.symm
theorem chainM_nz (opp : Bool) : ∀ (f : Nat) (acc : List (List Int)) (u v : List Int) (out : List (List Int)), v.length < f → 1 ≤ v.length → inW u → chainNz acc → chainM opp f acc u v = some out → inW v → nz v → chainNz out
  | 0, _, _, _, _, hf, _, _, _, _, _, _ => by omega
  | f + 1, acc, u, v, out, hf, hv1, hu, hok, hc, hiv, hzv => by
    simp only [chainM] at hc
    split at hc
    · cases hc
    · rename_i r hr
      obtain ⟨h1, h2, h3⟩ := rest_props (v := v) hv1 (f := u.length + 1) (r := short u) (s := r) (by have := short_le u; omega) hu.short (short_nz u) hr
      by_cases h0 : r.length = 0
      · rw [if_pos h0] at hc; injection hc with hc; subst hc; exact hok
      · rw [if_neg h0] at hc
        obtain ⟨s, hs⟩ : ∃ s, (if opp then negM r else r) = s := ⟨_, rfl⟩
        have hsl : s.length = r.length := by rw [← hs]; cases opp <;> simp [negM]
        have hsi : inW s := by rw [← hs]; cases opp; exact h2; exact h2.neg
        have hsz : nz s := by rw [← hs]; cases opp; exact h3; exact negM_nz h3
        rw [hs] at hc
        have hne : s ≠ [] := by intro e; rw [e] at hsl; simp at hsl; omega
        have hti := hsi.thin (gcdL_ne hsz hne)
        have htl : (thinM s).length = s.length := by simp [thinM]
        have htz := thin_nz hsz hne
        have htne : thinM s ≠ [] := by intro e; rw [e] at htl; simp at htl; omega
        refine chainM_nz opp f _ v (thinM s) out (by omega) (by omega) hiv ?_ hc hti htz
        intro l hl
        rcases List.mem_append.1 hl with hl | hl
        · exact hok l hl
        · rw [List.mem_singleton] at hl; subst hl; exact ⟨htz, htne⟩
/-- The greatest common divisor of two polynomials, with a highest coefficient above 0. -/
def normM (l : List Int) : List Int := if l.getD (l.length - 1) 0 < 0 then negM l else l
def commonM (p q : List Int) : Option (List Int) := match chainM false (q.length + 1) [p, q] p q with
  | none => none
  | some ls => some (normM (thinM (ls.getD (ls.length - 1) [])))
theorem thin_neg {l : List Int} (hz : nz l) (hne : l ≠ []) : thinM (negM l) = negM (thinM l) := by
  have hg := gcdL_ne hz hne
  unfold thinM
  rw [gcdL_neg]
  unfold negM
  rw [List.map_map, List.map_map]
  refine List.map_congr_left (fun x hx => ?_)
  have hd := (gcdL_dvd l 0).2 _ hx
  show (-x).fdiv _ = -(x.fdiv _)
  rw [Int.fdiv_eq_ediv_of_nonneg _ (by omega), Int.fdiv_eq_ediv_of_nonneg _ (by omega)]
  exact Int.neg_ediv_of_dvd (Int.ofNat_dvd_left.2 hd)
theorem thin_sign {l : List Int} (hz : nz l) (hne : l ≠ []) : ((thinM l).getD ((thinM l).length - 1) 0 < 0) ↔ (l.getD (l.length - 1) 0 < 0) := by
  have hg := gcdL_ne hz hne
  have hl : 0 < l.length := by cases l with
    | nil => exact absurd rfl hne
    | cons => simp
  rw [thinM_length, thinM_get (by omega)]
  have hm : l.getD (l.length - 1) 0 ∈ l := by rw [List.getD_eq_getElem?_getD, List.getElem?_eq_getElem (by omega)]; exact List.getElem_mem _
  have hd := (gcdL_dvd l 0).2 _ hm
  generalize l.getD (l.length - 1) 0 = x at *
  generalize gcdL l 0 = g at *
  have h2 : (g : Int) ∣ x := Int.ofNat_dvd_left.2 hd
  rw [Int.fdiv_eq_ediv_of_nonneg _ (by omega)]
  have h3 := Int.ediv_mul_cancel h2
  generalize x / (g : Int) = y at *
  have hgp : (0 : Int) < g := by omega
  constructor
  · intro h; rw [← h3]; exact Int.mul_neg_of_neg_of_pos h hgp
  · intro h
    rcases Int.lt_or_le y 0 with h4 | h4
    · exact h4
    · have := Int.mul_nonneg h4 (Int.le_of_lt hgp); omega
/-- What the program makes of the last row. -/
theorem light_norm {l : List Int} (hz : nz l) (hne : l ≠ []) : lightM (decide (l.getD (l.length - 1) 0 < 0)) l = normM (thinM l) := by
  unfold lightM normM
  by_cases h : l.getD (l.length - 1) 0 < 0
  · rw [if_pos (decide_eq_true h), if_pos ((thin_sign hz hne).2 h), thin_neg hz hne]
  · rw [if_neg (by simpa using h), if_neg (fun k => h ((thin_sign hz hne).1 k))]
theorem normM_length (l : List Int) : (normM l).length = l.length := by unfold normM; split <;> simp [negM]
theorem norm_nz {l : List Int} (h : nz l) : nz (normM l) := by unfold normM; split; exact negM_nz h; exact h
theorem inW.norm {l : List Int} (h : inW l) : inW (normM l) := by unfold normM; split; exact h.neg; exact h
theorem polyOk_nz {p : List Int} (hp : polyOk p = true) : nz p := .inr (polyOk_facts hp).2.2.1
theorem polyOk_inW {p : List Int} (hp : polyOk p = true) : inW p := by
  have hB := bW_big
  intro x hx
  have := (polyOk_facts hp).2.2.2 x hx
  omega
structure rowOk (l : List Int) : Prop where
  l1 : 1 ≤ l.length
  l2 : l.length ≤ 1000
  i : inW l
  z : nz l
  ne : l ≠ []
theorem commonM_last {p q : List Int} (hp : polyOk p = true) (hq : polyOk q = true) {ls : List (List Int)} (h : chainM false (q.length + 1) [p, q] p q = some ls) : 2 ≤ ls.length ∧ ls.length ≤ 2000 ∧ rowOk (ls.getD (ls.length - 1) []) := by
  obtain ⟨a1, a2, a3, -⟩ := polyOk_facts hp
  obtain ⟨b1, b2, b3, -⟩ := polyOk_facts hq
  have ip := polyOk_inW hp
  have iq := polyOk_inW hq
  have nep : p ≠ [] := by intro e; rw [e] at a1; simp at a1
  have neq : q ≠ [] := by intro e; rw [e] at b1; simp at b1
  have hok := chainM_ok false _ _ _ _ ls (Nat.lt_succ_self _) (by omega) (by omega) ip (by simp only [List.length_cons, List.length_nil]; omega) ⟨by simp, by simp, fun l hl2 => by
    simp only [List.mem_cons, List.not_mem_nil, or_false] at hl2
    rcases hl2 with rfl | rfl
    · exact ⟨by omega, by omega, ip⟩
    · exact ⟨by omega, by omega, iq⟩⟩ h iq
  have hnz := chainM_nz false _ _ _ _ ls (Nat.lt_succ_self _) (by omega) ip (fun l hl2 => by
    simp only [List.mem_cons, List.not_mem_nil, or_false] at hl2
    rcases hl2 with rfl | rfl
    · exact ⟨polyOk_nz hp, nep⟩
    · exact ⟨polyOk_nz hq, neq⟩) h iq (polyOk_nz hq)
  obtain ⟨k1, k2, k3⟩ := hok
  have hm : ls.getD (ls.length - 1) [] ∈ ls := by rw [List.getD_eq_getElem?_getD, List.getElem?_eq_getElem (by omega)]; exact List.getElem_mem _
  obtain ⟨m1, m2, m3⟩ := k3 _ hm
  obtain ⟨m4, m5⟩ := hnz _ hm
  exact ⟨k1, k2, m1, m2, m3, m4, m5⟩
theorem rowOk.norm {l : List Int} (h : rowOk l) : rowOk (normM (thinM l)) := by
  have hl : (normM (thinM l)).length = l.length := by rw [normM_length, thinM_length]
  exact ⟨by have := h.l1; omega, by have := h.l2; omega, (h.i.thin (gcdL_ne h.z h.ne)).norm, norm_nz (thin_nz h.z h.ne), by intro e; rw [e] at hl; have := h.l1; simp at hl; omega⟩
theorem commonM_ok {p q : List Int} (hp : polyOk p = true) (hq : polyOk q = true) {l : List Int} (h : commonM p q = some l) : rowOk l := by
  unfold commonM at h
  split at h
  · cases h
  · rename_i ls hls
    injection h with h; subst h
    exact (commonM_last hp hq hls).2.2.norm
/-- The derivative of wide coefficients. -/
def slopeW (l : List Int) (i : Nat) : Option Int := if (l.getD (i + 1) 0 * ((i + 1 : Nat) : Int)).natAbs < bW then some (l.getD (i + 1) 0 * ((i + 1 : Nat) : Int)) else none
def slopesM (l : List Int) : Option (List Int) := rowM (slopeW l) (l.length - 1)
theorem slopesM_ok {l s : List Int} (h : rowOk l) (hl : 2 ≤ l.length) (hs : slopesM l = some s) : rowOk s ∧ s.length = l.length - 1 := by
  unfold slopesM at hs
  have hlen := rowM_len hs
  have hg := rowM_get hs (l.length - 2) (by omega)
  have hin : inW s := rowM_fit (fun i x hx => by
    unfold slopeW at hx
    split at hx
    · injection hx with hx; subst hx; assumption
    · cases hx) hs
  have hne : s ≠ [] := by intro e; rw [e] at hlen; simp at hlen; omega
  refine ⟨⟨by omega, by have := h.l2; omega, hin, .inr ?_, hne⟩, hlen⟩
  rw [hlen, show l.length - 1 - 1 = l.length - 2 from by omega]
  unfold slopeW at hg
  rw [show l.length - 2 + 1 = l.length - 1 from by omega] at hg
  split at hg
  · injection hg with hg
    rw [← hg]
    rcases h.z with e | e
    · exact absurd e h.ne
    · intro k
      rcases Int.mul_eq_zero.1 k with k | k
      · exact e k
      · omega
  · cases hg
end Go.Proofs.Lite

namespace Go.Proofs.Lite
open Go
def comR (o : Option (List Int)) (v' : AV) (c' : List AV) : Prop :=
  match o with
  | none => c' = oc true ∧ v' = .raw (.slice none 0 0)
  | some r => c' = oc false ∧ v' = roW r
theorem comR_ok {o : Option (List Int)} : ∀ v' c', comR o v' c' → noix v' ∧ noixL c' ∧ c'.length = (oc false).length := by
  intro v' c' h
  unfold comR at h
  split at h
  · obtain ⟨rfl, rfl⟩ := h; exact ⟨trivial, ⟨trivial, trivial⟩, rfl⟩
  · obtain ⟨rfl, rfl⟩ := h; exact ⟨trivial, ⟨trivial, trivial⟩, rfl⟩
def slsR (n : Nat) (o : Option (List Int)) (v' : AV) (c' : List AV) : Prop :=
  ∃ l o', v' = roW l ∧ l.length = n ∧ inW l ∧ c' = oc o' ∧ Agr false o' o l
theorem slsR_ok {n : Nat} {o : Option (List Int)} : ∀ v' c', slsR n o v' c' → noix v' ∧ noixL c' ∧ c'.length = (oc false).length := by
  rintro v' c' ⟨l, o', rfl, -, -, rfl, -⟩
  exact ⟨trivial, ⟨trivial, trivial⟩, rfl⟩
section
variable {P : Program} {F : FnsA} (h : IsA P F)
include h
set_option maxRecDepth 20000 in
theorem I_calc_chain_over (u v : List Int) (opp : Bool) : OwR P F.I_calc_chain (oc true) [roW u, roW v, .raw (.bool opp)] (fun v' c' => v' = roC [u, v] ∧ c' = oc true) := by
  refine owR_of h.I_calc_chain ⟨trivial, trivial, trivial, trivial⟩ ⟨trivial, trivial⟩ ?_ ?_
  · rintro v' c' ⟨rfl, rfl⟩; exact ⟨trivial, ⟨trivial, trivial⟩, rfl⟩
  have hw2 : wr (wr (raws [Value.slice none 0 0, Value.slice none 0 0]) 0 [roW u]) 1 [roW v] = rws [u, v] := rfl
  simp (disch := omega) only [seval, ↓SDX, isRes, slEl, bslParts, mmAll, mmR, SUX, List.replicate, List.append, pr, lr, er, binR, ev, putA, List.set, intOf, takeAg, cellsOf, wrAll, partsOk, ones, one, isOne, wok1, findPE, List.find?, nop, prlr, isPure, pickR, optInt, rets, rv, rvs, I_calc_chain_c, CN, NW, hw2, IntKind.bits]
  refine loop_st (fun _ : Unit => 0) (fun _ => ([.ptr 0 0, .junk, .junk, .junk, .junk, .junk, .junk, .junk, .junk, .sl 1 1 0 2 true] ++ List.replicate 31 .junk)) (fun _ => [.c (oc true), .c (rws [u, v])]) (fun _ => True) () trivial (Wk.tmps (by simp only [fits, eq_self, and_self, Int.cast_ofNat_Int, Int.natCast_add, and_true, true_and, List.replicate, List.cons_append, List.nil_append])) ?_
  rintro - -
  simp (disch := omega) only [seval, ↓SDX, isRes, slEl, bslParts, mmAll, mmR, SUX, List.replicate, List.append, pr, lr, er, binR, ev, putA, List.set, intOf, takeAg, cellsOf, wrAll, partsOk, ones, one, isOne, wok1, findPE, List.find?, nop, prlr, isPure, pickR, optInt, rets, rv, rvs, CN, NW, OR, IntKind.bits]
  exact ⟨_, _, ⟨rfl, rfl⟩, WkV.frz (i := 1) rfl (noixL_rws _) (WkV.eq1 (by simp [frz, rws]) trivial rfl ⟨trivial, trivial⟩)⟩
end
section
variable {P : Program} {F : FnsB} (h : IsB P F)
include h
set_option maxRecDepth 20000 in
theorem S_l05Common_pf (p q : List Int) (hp : polyOk p = true) (hq : polyOk q = true) : Pf P F.S_l05Common [roI p, roI q] (oL (commonM p q)) := by
  refine pf_of h.S_l05Common ⟨trivial, trivial, trivial⟩ (noix_oL _) ?_
  obtain ⟨a1, a2, a3, a4⟩ := polyOk_facts hp
  obtain ⟨b1, b2, b3, b4⟩ := polyOk_facts hq
  have hw1 := S_l05Wides_pf h.toIsA p (by omega) (fun x hx => by have := a4 x hx; omega)
  have hw2 := S_l05Wides_pf h.toIsA q (by omega) (fun x hx => by have := b4 x hx; omega)
  have hc := S_l05Chain_pf h.toIsA p q false (by omega) (by omega) (by omega) (polyOk_inW hp) (polyOk_inW hq) (polyOk_nz hq)
  have hls := fun ls hls => commonM_last hp hq (ls := ls) hls
  unfold commonM
  generalize chainM false (q.length + 1) [p, q] p q = R at *
  clear a1 a2 a3 a4 b1 b2 b3 b4
  simp (disch := omega) only [seval, ↓SDX, isRes, slEl, bslParts, mmAll, mmR, SUX, List.replicate, List.append, pr, lr, er, binR, ev, putA, List.set, intOf, takeAg, cellsOf, wrAll, partsOk, ones, one, isOne, wok1, findPE, List.find?, nop, prlr, isPure, pickR, optInt, rets, rv, rvs, S_l05Common_c, IntKind.bits]
  refine hw1.step ?_
  simp (disch := omega) only [seval, ↓SDX, isRes, slEl, bslParts, mmAll, mmR, SUX, List.replicate, List.append, pr, lr, er, binR, ev, putA, List.set, intOf, takeAg, cellsOf, wrAll, partsOk, ones, one, isOne, wok1, findPE, List.find?, nop, prlr, isPure, pickR, optInt, rets, rv, rvs, IntKind.bits]
  refine hw2.step ?_
  simp (disch := omega) only [seval, ↓SDX, isRes, slEl, bslParts, mmAll, mmR, SUX, List.replicate, List.append, pr, lr, er, binR, ev, putA, List.set, intOf, takeAg, cellsOf, wrAll, partsOk, ones, one, isOne, wok1, findPE, List.find?, nop, prlr, isPure, pickR, optInt, rets, rv, rvs, IntKind.bits]
  refine hc.step ?_
  cases R with
  | none =>
    clear hls
    unfold oC oL
    simp (disch := omega) only [seval, ↓SDX, isRes, slEl, bslParts, mmAll, mmR, SUX, List.replicate, List.append, pr, lr, er, binR, ev, putA, List.set, intOf, takeAg, cellsOf, wrAll, partsOk, ones, one, isOne, wok1, findPE, List.find?, nop, prlr, isPure, pickR, optInt, rets, rv, rvs, CN, IntKind.bits]
    refine WkV.frz (i := 0) rfl trivial (WkV.eq ?_ ⟨trivial, trivial, trivial⟩)
    simp [frz, frzL, wds]
  | some ls =>
    obtain ⟨k1, k2, hr⟩ := hls ls rfl
    clear hls
    obtain ⟨n, hn⟩ : ∃ n, ls.length = n + 1 := ⟨ls.length - 1, by omega⟩
    have s1 : ((n + 1 : Nat) : Int) - 1 = (n : Int) := by omega
    have g1 := rws_get (l := ls) (i := n) (by omega)
    dsimp only
    rw [show ls.length - 1 = n from by omega] at hr ⊢
    generalize ls.getD n [] = l at *
    have hth := S_l05Thin_pf h.toIsA l (by have := hr.l2; omega) hr.i (gcdL_ne hr.z hr.ne)
    have htl := thinM_length l
    have hti := hr.i.thin (gcdL_ne hr.z hr.ne)
    obtain ⟨m, hm⟩ : ∃ m, (thinM l).length = m + 1 := ⟨(thinM l).length - 1, by have := hr.l1; omega⟩
    have hml := hr.l2
    have hop := S_l05Opposite_pf h.toIsA (thinM l) (by omega) hti
    have s2 : ((m + 1 : Nat) : Int) - 1 = (m : Int) := by omega
    have g2 := wds_get (l := thinM l) (i := m) (by omega)
    have hC : oC (some ls) = .tup [.ro 1 ls.length (rws ls), .raw (.int .i64 0)] := rfl
    unfold normM
    rw [hm, Nat.add_sub_cancel, hC]
    clear hr hti hC
    generalize thinM l = t at *
    generalize t.getD m 0 = x at *
    unfold oL
    simp (disch := omega) only [seval, ↓SDX, isRes, slEl, bslParts, mmAll, mmR, SUX, List.replicate, List.append, pr, lr, er, binR, ev, putA, List.set, intOf, takeAg, cellsOf, wrAll, partsOk, ones, one, isOne, wok1, findPE, List.find?, nop, prlr, isPure, pickR, optInt, rets, rv, rvs, CN, hn, s1, g1, rws_length, IntKind.bits]
    refine hth.step ?_
    by_cases hx : x < 0
    · rw [if_pos hx]
      simp (disch := omega) only [seval, ↓SDX, isRes, slEl, bslParts, mmAll, mmR, SUX, List.replicate, List.append, pr, lr, er, binR, ev, putA, List.set, intOf, takeAg, cellsOf, wrAll, partsOk, ones, one, isOne, wok1, findPE, List.find?, nop, prlr, isPure, pickR, optInt, rets, rv, rvs, CN, NW, hm, s2, g2, hx, IntKind.bits]
      refine hop.step ?_
      simp (disch := omega) only [seval, ↓SDX, isRes, slEl, bslParts, mmAll, mmR, SUX, List.replicate, List.append, pr, lr, er, binR, ev, putA, List.set, intOf, takeAg, cellsOf, wrAll, partsOk, ones, one, isOne, wok1, findPE, List.find?, nop, prlr, isPure, pickR, optInt, rets, rv, rvs, CN, NW, IntKind.bits]
      exact WkV.eq (by first | rfl | simp) (by first | trivial | (simp only [noix, noixL, NX, and_true, true_and]; done))
    · rw [if_neg hx]
      simp (disch := omega) only [seval, ↓SDX, isRes, slEl, bslParts, mmAll, mmR, SUX, List.replicate, List.append, pr, lr, er, binR, ev, putA, List.set, intOf, takeAg, cellsOf, wrAll, partsOk, ones, one, isOne, wok1, findPE, List.find?, nop, prlr, isPure, pickR, optInt, rets, rv, rvs, CN, NW, hm, s2, g2, hx, IntKind.bits]
      exact WkV.eq (by first | rfl | simp) (by first | trivial | (simp only [noix, noixL, NX, and_true, true_and]; done))
set_option maxRecDepth 20000 in
theorem I_calc_commonOf_or (p q : List Int) (hp : polyOk p = true) (hq : polyOk q = true) : OwR P F.I_calc_commonOf (oc false) [roI p, roI q] (comR (commonM p q)) := by
  refine owR_of h.I_calc_commonOf ⟨trivial, trivial, trivial⟩ ⟨trivial, trivial⟩ comR_ok ?_
  obtain ⟨a1, a2, a3, a4⟩ := polyOk_facts hp
  obtain ⟨b1, b2, b3, b4⟩ := polyOk_facts hq
  have hw1 := I_widen_pf h.toIsA p (by omega) (fun x hx => by have := a4 x hx; omega)
  have hw2 := I_widen_pf h.toIsA q (by omega) (fun x hx => by have := b4 x hx; omega)
  have hc := I_calc_chain_or h.toIsA p q false (by omega) (by omega) (by omega) (by omega) (polyOk_inW hp) (polyOk_inW hq)
  have hls := fun ls hls => commonM_last hp hq (ls := ls) hls
  unfold commonM
  generalize chainM false (q.length + 1) [p, q] p q = R at *
  clear a1 a2 a3 a4 b1 b2 b3 b4
  simp (disch := omega) only [seval, ↓SDX, isRes, slEl, bslParts, mmAll, mmR, SUX, List.replicate, List.append, pr, lr, er, binR, ev, putA, List.set, intOf, takeAg, cellsOf, wrAll, partsOk, ones, one, isOne, wok1, findPE, List.find?, nop, prlr, isPure, pickR, optInt, rets, rv, rvs, I_calc_commonOf_c, IntKind.bits]
  refine hw1.step ?_
  simp (disch := omega) only [seval, ↓SDX, isRes, slEl, bslParts, mmAll, mmR, SUX, List.replicate, List.append, pr, lr, er, binR, ev, putA, List.set, intOf, takeAg, cellsOf, wrAll, partsOk, ones, one, isOne, wok1, findPE, List.find?, nop, prlr, isPure, pickR, optInt, rets, rv, rvs, IntKind.bits]
  refine hw2.step ?_
  simp (disch := omega) only [seval, ↓SDX, isRes, slEl, bslParts, mmAll, mmR, SUX, List.replicate, List.append, pr, lr, er, binR, ev, putA, List.set, intOf, takeAg, cellsOf, wrAll, partsOk, ones, one, isOne, wok1, findPE, List.find?, nop, prlr, isPure, pickR, optInt, rets, rv, rvs, IntKind.bits]
  refine hc.step0 rfl ?_
  intro v0 c0 hR
  cases R with
  | none =>
    obtain ⟨rfl, l, rfl, -⟩ := hR
    clear hls
    simp (disch := omega) only [seval, ↓SDX, isRes, slEl, bslParts, mmAll, mmR, SUX, List.replicate, List.append, pr, lr, er, binR, ev, putA, List.set, intOf, takeAg, cellsOf, wrAll, partsOk, ones, one, isOne, wok1, findPE, List.find?, nop, prlr, isPure, pickR, optInt, rets, rv, rvs, OR, IntKind.bits]
    exact ⟨_, _, ⟨rfl, rfl⟩, WkV.eq1 rfl trivial rfl ⟨trivial, trivial⟩⟩
  | some ls =>
    obtain ⟨rfl, rfl⟩ := hR
    obtain ⟨k1, k2, hr⟩ := hls ls rfl
    clear hls
    obtain ⟨n, hn⟩ : ∃ n, ls.length = n + 1 := ⟨ls.length - 1, by omega⟩
    have s1 : ((n + 1 : Nat) : Int) - 1 = (n : Int) := by omega
    have g1 := rws_get (l := ls) (i := n) (by omega)
    have hro : AV.ro 1 ls.length (List.map roW ls) = .ro 1 ls.length (rws ls) := rfl
    dsimp only
    rw [show ls.length - 1 = n from by omega] at hr ⊢
    generalize ls.getD n [] = l at *
    have hli := I_lighter_pf h.toIsA l (decide (l.getD (l.length - 1) 0 < 0)) hr.l2 hr.i (gcdL_ne hr.z hr.ne)
    rw [light_norm hr.z hr.ne] at hli
    obtain ⟨m, hm⟩ : ∃ m, l.length = m + 1 := ⟨l.length - 1, by have := hr.l1; omega⟩
    have s2 : ((m + 1 : Nat) : Int) - 1 = (m : Int) := by omega
    have g2 := wds_get (l := l) (i := m) (by omega)
    have hml := hr.l2
    rw [show l.length - 1 = m from by omega] at hli
    clear hr
    generalize l.getD m 0 = x at *
    generalize normM (thinM l) = t at *
    simp (disch := omega) only [seval, ↓SDX, isRes, slEl, bslParts, mmAll, mmR, SUX, List.replicate, List.append, pr, lr, er, binR, ev, putA, List.set, intOf, takeAg, cellsOf, wrAll, partsOk, ones, one, isOne, wok1, findPE, List.find?, nop, prlr, isPure, pickR, optInt, rets, rv, rvs, CN, hn, s1, g1, rws_length, hro, NW, hm, s2, g2, IntKind.bits]
    refine hli.step ?_
    simp (disch := omega) only [seval, ↓SDX, isRes, slEl, bslParts, mmAll, mmR, SUX, List.replicate, List.append, pr, lr, er, binR, ev, putA, List.set, intOf, takeAg, cellsOf, wrAll, partsOk, ones, one, isOne, wok1, findPE, List.find?, nop, prlr, isPure, pickR, optInt, rets, rv, rvs, OR, IntKind.bits]
    exact ⟨_, _, ⟨rfl, rfl⟩, WkV.eq1 rfl trivial rfl ⟨trivial, trivial⟩⟩
set_option maxRecDepth 20000 in
theorem I_calc_slopes_or (l : List Int) (hl1 : 1 ≤ l.length) (hl : l.length ≤ 1000) (hi : inW l) : OwR P F.I_calc_slopes (oc false) [roW l] (slsR (l.length - 1) (slopesM l)) := by
  refine owR_of h.I_calc_slopes ⟨trivial, trivial⟩ ⟨trivial, trivial⟩ slsR_ok ?_
  obtain ⟨n, hn⟩ : ∃ n, l.length = n + 1 := ⟨l.length - 1, by omega⟩
  have s1 : ((n + 1 : Nat) : Int) - 1 = (n : Int) := by omega
  unfold slopesM
  rw [hn, Nat.add_sub_cancel]
  obtain ⟨RES, hRES⟩ : ∃ R, rowM (slopeW l) n = R := ⟨_, rfl⟩
  rw [hRES]
  simp (disch := omega) only [seval, ↓SDX, isRes, slEl, bslParts, mmAll, mmR, SUX, List.replicate, List.append, pr, lr, er, binR, ev, putA, List.set, intOf, takeAg, cellsOf, wrAll, partsOk, ones, one, isOne, wok1, findPE, List.find?, nop, prlr, isPure, pickR, optInt, rets, rv, rvs, I_calc_slopes_c, CN, NW, hn, s1, RW, IntKind.bits]
  refine loop_st (fun s : Nat × List Int × Bool => n - s.1) (fun s => ([.ptr 0 0, roW l, .junk, .junk, .junk, .sl 1 7 0 n true, .junk, .junk, .junk, .junk, .junk, .junk, .raw (.int .i64 (n : Nat)), .raw (.int .i64 (s.1 : Nat))] ++ List.replicate 17 .junk)) (fun s => [.c (oc s.2.2), .c (wds s.2.1)])
    (fun s => s.1 ≤ n ∧ s.2.1.length = n ∧ inW s.2.1 ∧ ((s.2.2 = false ∧ rowM (slopeW l) s.1 = some (s.2.1.take s.1)) ∨ (s.2.2 = true ∧ RES = none))) (0, List.replicate n 0, false) ⟨Nat.zero_le _, by simp, fun x hx => by rw [List.eq_of_mem_replicate hx]; decide, .inl ⟨rfl, rfl⟩⟩ (Wk.tmps (by simp only [fits, eq_self, and_self, Int.cast_ofNat_Int, Int.natCast_add, and_true, true_and, List.replicate, List.cons_append, List.nil_append])) ?_
  rintro ⟨k, s, o⟩ ⟨hk, hs, hsi, hJ⟩
  dsimp only at hk hs hsi hJ ⊢
  by_cases hk2 : k < n
  · have hx := wds_get (l := l) (i := k + 1) (by omega)
    have hxl := hi.get (i := k + 1) (by omega)
    have hki : (k : Int) + 1 = ((k + 1 : Nat) : Int) := by omega
    have hwo := I_WideOf_pf h.toIsA ((k + 1 : Nat) : Int) (by omega) (by omega)
    have hB := bW_big
    have hsw : slopeW l k = if (l.getD (k + 1) 0 * ((k + 1 : Nat) : Int)).natAbs < bW then some (l.getD (k + 1) 0 * ((k + 1 : Nat) : Int)) else none := rfl
    generalize l.getD (k + 1) 0 = x at *
    have hmul : Ow P F.I_calc_mul (oc o) [.agg (wi ((k + 1 : Nat) : Int)), .agg (wi x)] (.agg (wi (mulO ((k + 1 : Nat) : Int) x))) (oc (o || !decide ((((k + 1 : Nat) : Int) * x).natAbs < bW))) := I_calc_mul_ow h.toIsA o _ x (by omega) hxl
    have hml := mulO_lt ((k + 1 : Nat) : Int) x
    have hJ2 : ((o || !decide ((((k + 1 : Nat) : Int) * x).natAbs < bW)) = false ∧ rowM (slopeW l) (k + 1) = some ((s.set k (mulO ((k + 1 : Nat) : Int) x)).take (k + 1))) ∨ ((o || !decide ((((k + 1 : Nat) : Int) * x).natAbs < bW)) = true ∧ RES = none) := by
      rw [Int.mul_comm x] at hsw
      rcases hJ with ⟨rfl, h1⟩ | ⟨rfl, h1⟩
      · by_cases hf : (((k + 1 : Nat) : Int) * x).natAbs < bW
        · left
          rw [if_pos hf] at hsw
          refine ⟨by rw [decide_eq_true hf]; rfl, ?_⟩
          rw [set_take1 (by omega), show mulO ((k + 1 : Nat) : Int) x = ((k + 1 : Nat) : Int) * x from if_pos hf]
          simp only [rowM, h1, hsw]
        · right
          rw [if_neg hf] at hsw
          refine ⟨by rw [decide_eq_false hf]; rfl, ?_⟩
          have h2 : rowM (slopeW l) (k + 1) = none := by simp only [rowM, h1, hsw]
          have := rowM_none h2 (show k + 1 ≤ n by omega)
          rw [hRES] at this; exact this
      · exact .inr ⟨by simp, h1⟩
    generalize (o || !decide ((((k + 1 : Nat) : Int) * x).natAbs < bW)) = o' at *
    generalize mulO ((k + 1 : Nat) : Int) x = z at *
    have hsl : (s.set k z).length = n := by rw [List.length_set]; exact hs
    have hsi2 := hsi.set (k := k) hml
    clear hJ hsw hsi hi hB
    simp (disch := omega) only [seval, ↓SDX, isRes, slEl, bslParts, mmAll, mmR, SUX, List.replicate, List.append, pr, lr, er, binR, ev, putA, List.set, intOf, takeAg, cellsOf, wrAll, partsOk, ones, one, isOne, wok1, findPE, List.find?, nop, prlr, isPure, pickR, optInt, rets, rv, rvs, CN, NW, hki, hx, hs, RW, IntKind.bits]
    refine hwo.step ?_
    simp (disch := omega) only [seval, ↓SDX, isRes, slEl, bslParts, mmAll, mmR, SUX, List.replicate, List.append, pr, lr, er, binR, ev, putA, List.set, intOf, takeAg, cellsOf, wrAll, partsOk, ones, one, isOne, wok1, findPE, List.find?, nop, prlr, isPure, pickR, optInt, rets, rv, rvs, CN, NW, hki, hx, hs, RW, IntKind.bits]
    refine hmul.step0 rfl ?_
    simp (disch := omega) only [seval, ↓SDX, isRes, slEl, bslParts, mmAll, mmR, SUX, List.replicate, List.append, pr, lr, er, binR, ev, putA, List.set, intOf, takeAg, cellsOf, wrAll, partsOk, ones, one, isOne, wok1, findPE, List.find?, nop, prlr, isPure, pickR, optInt, rets, rv, rvs, CN, NW, hki, hx, hs, RW, IntKind.bits]
    exact ⟨(k + 1, s.set k z, o'), by dsimp only; omega, ⟨by dsimp only; omega, hsl, hsi2, hJ2⟩, Wk.shed (n := 2) (by decide) (by simp only [fits, eq_self, and_self, Int.cast_ofNat_Int, Int.natCast_add, and_true, true_and, List.replicate, List.cons_append, List.nil_append]) (by simp only [cutL, cutAV, cutSg, CU, List.replicate, List.cons_append, List.nil_append, Nat.reduceLT, if_true, if_false, List.map_cons, List.map_nil, List.take_succ_cons, List.take_zero, cut_wds, cutAV]) (by simp only [cutH, cutL, cutAV, cutSg, CU, List.replicate, List.cons_append, List.nil_append, Nat.reduceLT, if_true, if_false, List.map_cons, List.map_nil, List.take_succ_cons, List.take_zero, cut_wds, cutAV])⟩
  · have hk3 : k = n := by omega
    subst hk3
    rw [List.take_of_length_le (show s.length ≤ k by omega)] at hJ
    have hag : Agr false o RES s := by
      rcases hJ with ⟨h1, h2⟩ | ⟨h1, h2⟩
      · exact .inl ⟨h1, rfl, by rw [← hRES]; exact h2⟩
      · exact .inr ⟨h1, .inr h2⟩
    clear hJ hi
    simp (disch := omega) only [seval, ↓SDX, isRes, slEl, bslParts, mmAll, mmR, SUX, List.replicate, List.append, pr, lr, er, binR, ev, putA, List.set, intOf, takeAg, cellsOf, wrAll, partsOk, ones, one, isOne, wok1, findPE, List.find?, nop, prlr, isPure, pickR, optInt, rets, rv, rvs, CN, NW, OR, IntKind.bits]
    refine ⟨_, _, ⟨s, o, rfl, hs, hsi, rfl, hag⟩, WkV.frz (i := 1) rfl (noixL_wds _) (WkV.eq1 ?_ trivial rfl ⟨trivial, trivial⟩)⟩
    simp [frz, wds_length, List.take_of_length_le, hs]
end
end Go.Proofs.Lite

namespace Go.Proofs.Lite
open Go
def loM (a c : Int) : Int := if a < c then c else a
def hiM (b d : Int) : Int := if d < b then d else b
def upOk (a : Int) (d : Nat) : Bool := decide (a.natAbs * 2 ^ d < bW)
def upC (a : Int) (d : Nat) : Int := if upOk a d then 0 else 3
/-- What CommonParts does behind a common factor. -/
def cpTail (l : List Int) (lo hi : Int) (m : Nat) : Bool × Int :=
  if hi ≤ lo then (false, 0) else match slopesM l with
    | none => (false, 3)
    | some s => match chainM true (s.length + 1) [l, s] l s with
      | none => (false, 3)
      | some ls => match countM ls lo hi m with
        | none => (false, 3)
        | some n => (decide (0 < n), 0)
def cpMid (l : List Int) (a b c d : Int) (px py : Nat) : Bool × Int :=
  if upOk a (max px py - px) && upOk b (max px py - px) && upOk c (max px py - py) && upOk d (max px py - py) then
    cpTail l (loM (upO a (max px py - px)) (upO c (max px py - py))) (hiM (upO b (max px py - px)) (upO d (max px py - py))) (max px py)
  else (false, 3)
def comPM (p q : List Int) (a b c d : Int) (px py : Nat) : Bool × Int :=
  match oneM p a b px with
  | .error e => (false, e)
  | .ok _ => match oneM q c d py with
    | .error e => (false, e)
    | .ok _ => match commonM p q with
      | none => (false, 3)
      | some l => if l.length = 1 then (false, 0) else cpMid l a b c d px py
def cpM (p q : List Int) (n1 : Bool) (A1 : Nat) (n2 : Bool) (A2 : Nat) (px : Int) (n3 : Bool) (A3 : Nat) (n4 : Bool) (A4 : Nat) (py : Int) : Bool × Int :=
  if polyOk p && polyOk q && partOk n1 A1 n2 A2 px && partOk n3 A3 n4 A4 py then comPM p q (vW n1 A1) (vW n2 A2) (vW n3 A3) (vW n4 A4) px.toNat py.toNat else (false, 1)
theorem upC_or (a : Int) (d : Nat) : upC a d = 0 ∨ upC a d = 3 := by unfold upC; split <;> simp
theorem loM_lt {a c : Int} (ha : a.natAbs < bW) (hc : c.natAbs < bW) : (loM a c).natAbs < bW := by unfold loM; split <;> assumption
theorem hiM_lt {a c : Int} (ha : a.natAbs < bW) (hc : c.natAbs < bW) : (hiM a c).natAbs < bW := by unfold hiM; split <;> assumption
section
variable {P : Program} {F : FnsA} (h : IsA P F)
include h
theorem S_l01Up_c' (a : Int) (d : Nat) (ha : a.natAbs < bW) (hd : d ≤ 191) : Pf P F.S_l01Up [.agg (wi a), .raw (.int .i64 (d : Nat))] (.tup [.agg (wi (upO a d)), .raw (.int .i64 (upC a d))]) := by
  have := S_l01Up_pf h a d ha hd
  unfold upO upC upOk
  by_cases k : a.natAbs * 2 ^ d < bW
  · rw [if_pos k] at this
    rw [if_pos ⟨hd, k⟩, decide_eq_true k]
    exact this
  · rw [if_neg k] at this
    rw [if_neg (fun q => k q.2), decide_eq_false k]
    exact this
end
theorem chain_slope_ok {l s : List Int} (hl : rowOk l) (hs : rowOk s) (hls : s.length = l.length - 1) {ls : List (List Int)} (h : chainM true (s.length + 1) [l, s] l s = some ls) : chainOk ls := by
  have h1 := hl.l2
  have h2 := hs.l2
  refine chainM_ok true _ _ _ _ ls (Nat.lt_succ_self _) hs.l1 hs.l2 hl.i (by simp only [List.length_cons, List.length_nil]; omega) ⟨by simp, by simp, fun x hx => ?_⟩ h hs.i
  simp only [List.mem_cons, List.not_mem_nil, or_false] at hx
  rcases hx with rfl | rfl
  · exact ⟨hl.l1, by omega, hl.i⟩
  · exact ⟨hs.l1, by omega, hs.i⟩
section
variable {P : Program} {F : FnsB} (h : IsB P F)
include h
set_option maxRecDepth 20000 in
set_option maxHeartbeats 1000000 in
theorem S_CommonParts_pf (p q : List Int) (hlp : p.length ≤ 1048576) (hlq : q.length ≤ 1048576) (n1 : Bool) (A1 : Nat) (n2 : Bool) (A2 : Nat) (px : Int) (n3 : Bool) (A3 : Nat) (n4 : Bool) (A4 : Nat) (py : Int) :
    Pf P F.S_CommonParts [roI p, roI q, .agg (pc n1 A1 n2 A2 px), .agg (pc n3 A3 n4 A4 py)] (.tup [.raw (.bool (cpM p q n1 A1 n2 A2 px n3 A3 n4 A4 py).1), .raw (.int .i64 (cpM p q n1 A1 n2 A2 px n3 A3 n4 A4 py).2)]) := by
  refine pf_of_mid h.S_CommonParts rfl ⟨trivial, trivial, noixL_pc .., noixL_pc .., trivial⟩ ⟨trivial, trivial, trivial⟩ ?_
  have k1 := S_l05Ok_pf h.toIsA p hlp
  have k2 := S_l05Ok_pf h.toIsA q hlq
  have k3 := S_l05Part_pf h.toIsA n1 A1 n2 A2 px
  have k4 := S_l05Part_pf h.toIsA n3 A3 n4 A4 py
  simp (disch := omega) only [seval, ↓SDX, isRes, slEl, bslParts, mmAll, mmR, SUX, List.replicate, List.append, pr, lr, er, binR, ev, putA, List.set, intOf, takeAg, cellsOf, wrAll, partsOk, ones, one, isOne, wok1, findPE, List.find?, nop, prlr, isPure, pickR, optInt, rets, rv, rvs, S_CommonParts_c, PI, IntKind.bits]
  refine ⟨_, _, (Wk.freeze (i := 0) rfl (noixL_pc ..)).trans (Wk.freeze (i := 1) rfl (noixL_pc ..)), ?_⟩
  have fpc : ∀ i ds n1 A1 n2 A2 px, frzL i ds (pc n1 A1 n2 A2 px) = pc n1 A1 n2 A2 px := fun _ _ _ _ _ _ _ => frzL_noix _ (noixL_pc ..)
  simp (disch := omega) only [seval, ↓SDX, isRes, slEl, bslParts, mmAll, mmR, SUX, List.replicate, List.append, pr, lr, er, binR, ev, putA, List.set, intOf, takeAg, cellsOf, wrAll, partsOk, ones, one, isOne, wok1, findPE, List.find?, nop, prlr, isPure, pickR, optInt, rets, rv, rvs, PI, frzL, frz, frzH, frzSg, fpc, IntKind.bits]
  unfold cpM
  by_cases hp : polyOk p = true
  case neg =>
    have hp' : polyOk p = false := by simpa using hp
    rw [hp'] at k1 ⊢
    refine k1.step ?_
    simp (disch := omega) only [seval, ↓SDX, isRes, slEl, bslParts, mmAll, mmR, SUX, List.replicate, List.append, pr, lr, er, binR, ev, putA, List.set, intOf, takeAg, cellsOf, wrAll, partsOk, ones, one, isOne, wok1, findPE, List.find?, nop, prlr, isPure, pickR, optInt, rets, rv, rvs, PI, IntKind.bits]
    exact WkV.eq (by first | rfl | simp) (by first | trivial | (simp only [noix, noixL, NX, and_true, true_and]; done))
  by_cases hq : polyOk q = true
  case neg =>
    have hq' : polyOk q = false := by simpa using hq
    rw [hp] at k1 ⊢
    rw [hq'] at k2 ⊢
    refine k1.step ?_
    simp (disch := omega) only [seval, ↓SDX, isRes, slEl, bslParts, mmAll, mmR, SUX, List.replicate, List.append, pr, lr, er, binR, ev, putA, List.set, intOf, takeAg, cellsOf, wrAll, partsOk, ones, one, isOne, wok1, findPE, List.find?, nop, prlr, isPure, pickR, optInt, rets, rv, rvs, PI, IntKind.bits]
    refine k2.step ?_
    simp (disch := omega) only [seval, ↓SDX, isRes, slEl, bslParts, mmAll, mmR, SUX, List.replicate, List.append, pr, lr, er, binR, ev, putA, List.set, intOf, takeAg, cellsOf, wrAll, partsOk, ones, one, isOne, wok1, findPE, List.find?, nop, prlr, isPure, pickR, optInt, rets, rv, rvs, PI, IntKind.bits]
    exact WkV.eq (by first | rfl | simp) (by first | trivial | (simp only [noix, noixL, NX, and_true, true_and]; done))
  by_cases hx : partOk n1 A1 n2 A2 px = true
  case neg =>
    have hx' : partOk n1 A1 n2 A2 px = false := by simpa using hx
    rw [hp] at k1 ⊢
    rw [hq] at k2 ⊢
    rw [hx'] at k3 ⊢
    refine k1.step ?_
    simp (disch := omega) only [seval, ↓SDX, isRes, slEl, bslParts, mmAll, mmR, SUX, List.replicate, List.append, pr, lr, er, binR, ev, putA, List.set, intOf, takeAg, cellsOf, wrAll, partsOk, ones, one, isOne, wok1, findPE, List.find?, nop, prlr, isPure, pickR, optInt, rets, rv, rvs, PI, IntKind.bits]
    refine k2.step ?_
    simp (disch := omega) only [seval, ↓SDX, isRes, slEl, bslParts, mmAll, mmR, SUX, List.replicate, List.append, pr, lr, er, binR, ev, putA, List.set, intOf, takeAg, cellsOf, wrAll, partsOk, ones, one, isOne, wok1, findPE, List.find?, nop, prlr, isPure, pickR, optInt, rets, rv, rvs, PI, IntKind.bits]
    refine k3.step ?_
    simp (disch := omega) only [seval, ↓SDX, isRes, slEl, bslParts, mmAll, mmR, SUX, List.replicate, List.append, pr, lr, er, binR, ev, putA, List.set, intOf, takeAg, cellsOf, wrAll, partsOk, ones, one, isOne, wok1, findPE, List.find?, nop, prlr, isPure, pickR, optInt, rets, rv, rvs, PI, IntKind.bits]
    exact WkV.eq (by first | rfl | simp) (by first | trivial | (simp only [noix, noixL, NX, and_true, true_and]; done))
  by_cases hy : partOk n3 A3 n4 A4 py = true
  case neg =>
    have hy' : partOk n3 A3 n4 A4 py = false := by simpa using hy
    rw [hp] at k1 ⊢
    rw [hq] at k2 ⊢
    rw [hx] at k3 ⊢
    rw [hy'] at k4 ⊢
    refine k1.step ?_
    simp (disch := omega) only [seval, ↓SDX, isRes, slEl, bslParts, mmAll, mmR, SUX, List.replicate, List.append, pr, lr, er, binR, ev, putA, List.set, intOf, takeAg, cellsOf, wrAll, partsOk, ones, one, isOne, wok1, findPE, List.find?, nop, prlr, isPure, pickR, optInt, rets, rv, rvs, PI, IntKind.bits]
    refine k2.step ?_
    simp (disch := omega) only [seval, ↓SDX, isRes, slEl, bslParts, mmAll, mmR, SUX, List.replicate, List.append, pr, lr, er, binR, ev, putA, List.set, intOf, takeAg, cellsOf, wrAll, partsOk, ones, one, isOne, wok1, findPE, List.find?, nop, prlr, isPure, pickR, optInt, rets, rv, rvs, PI, IntKind.bits]
    refine k3.step ?_
    simp (disch := omega) only [seval, ↓SDX, isRes, slEl, bslParts, mmAll, mmR, SUX, List.replicate, List.append, pr, lr, er, binR, ev, putA, List.set, intOf, takeAg, cellsOf, wrAll, partsOk, ones, one, isOne, wok1, findPE, List.find?, nop, prlr, isPure, pickR, optInt, rets, rv, rvs, PI, IntKind.bits]
    refine k4.step ?_
    simp (disch := omega) only [seval, ↓SDX, isRes, slEl, bslParts, mmAll, mmR, SUX, List.replicate, List.append, pr, lr, er, binR, ev, putA, List.set, intOf, takeAg, cellsOf, wrAll, partsOk, ones, one, isOne, wok1, findPE, List.find?, nop, prlr, isPure, pickR, optInt, rets, rv, rvs, PI, IntKind.bits]
    exact WkV.eq (by first | rfl | simp) (by first | trivial | (simp only [noix, noixL, NX, and_true, true_and]; done))
  obtain ⟨⟨⟨q1, q2⟩, q3⟩, q4, q5⟩ : ((okW n1 A1 = true ∧ okW n2 A2 = true) ∧ vW n1 A1 < vW n2 A2) ∧ 0 ≤ px ∧ px ≤ 64 := by simpa [partOk] using hx
  obtain ⟨⟨⟨r1, r2⟩, r3⟩, r4, r5⟩ : ((okW n3 A3 = true ∧ okW n4 A4 = true) ∧ vW n3 A3 < vW n4 A4) ∧ 0 ≤ py ∧ py ≤ 64 := by simpa [partOk] using hy
  rw [hp] at k1 ⊢
  rw [hq] at k2 ⊢
  rw [hx] at k3 ⊢
  rw [hy] at k4 ⊢
  rw [pc_ok q1 q2] at k3 ⊢
  rw [pc_ok r1 r2] at k4 ⊢
  obtain ⟨n, rfl⟩ : ∃ n : Nat, px = n := ⟨px.toNat, by omega⟩
  obtain ⟨m, rfl⟩ : ∃ n : Nat, py = n := ⟨py.toNat, by omega⟩
  have l1 := vW_lt n1 A1
  have l2 := vW_lt n2 A2
  have l3 := vW_lt n3 A3
  have l4 := vW_lt n4 A4
  simp only [Bool.and_self, if_true, Int.toNat_natCast]
  clear hx hy q1 q2 q3 r1 r2 r3 fpc
  generalize vW n1 A1 = a at *
  generalize vW n2 A2 = b at *
  generalize vW n3 A3 = c at *
  generalize vW n4 A4 = d at *
  have o1 := S_l05One_pf h.toIsA p hp a b n l1 l2 (by omega)
  have o2 := S_l05One_pf h.toIsA q hq c d m l3 l4 (by omega)
  have hcm := S_l05Common_pf h p q hp hq
  have e1 := fun e he => oneM_err (p := p) (a := a) (b := b) (pl := n) (e := e) he
  have e2 := fun e he => oneM_err (p := q) (a := c) (b := d) (pl := m) (e := e) he
  have hco := fun l hl => commonM_ok hp hq (l := l) hl
  unfold comPM
  clear hp hq hlp hlq
  refine k1.step ?_
  simp (disch := omega) only [seval, ↓SDX, isRes, slEl, bslParts, mmAll, mmR, SUX, List.replicate, List.append, pr, lr, er, binR, ev, putA, List.set, intOf, takeAg, cellsOf, wrAll, partsOk, ones, one, isOne, wok1, findPE, List.find?, nop, prlr, isPure, pickR, optInt, rets, rv, rvs, PI, IntKind.bits]
  refine k2.step ?_
  simp (disch := omega) only [seval, ↓SDX, isRes, slEl, bslParts, mmAll, mmR, SUX, List.replicate, List.append, pr, lr, er, binR, ev, putA, List.set, intOf, takeAg, cellsOf, wrAll, partsOk, ones, one, isOne, wok1, findPE, List.find?, nop, prlr, isPure, pickR, optInt, rets, rv, rvs, PI, IntKind.bits]
  refine k3.step ?_
  simp (disch := omega) only [seval, ↓SDX, isRes, slEl, bslParts, mmAll, mmR, SUX, List.replicate, List.append, pr, lr, er, binR, ev, putA, List.set, intOf, takeAg, cellsOf, wrAll, partsOk, ones, one, isOne, wok1, findPE, List.find?, nop, prlr, isPure, pickR, optInt, rets, rv, rvs, PI, IntKind.bits]
  refine k4.step ?_
  simp (disch := omega) only [seval, ↓SDX, isRes, slEl, bslParts, mmAll, mmR, SUX, List.replicate, List.append, pr, lr, er, binR, ev, putA, List.set, intOf, takeAg, cellsOf, wrAll, partsOk, ones, one, isOne, wok1, findPE, List.find?, nop, prlr, isPure, pickR, optInt, rets, rv, rvs, PI, IntKind.bits]
  refine o1.step ?_
  generalize oneM p a b n = O1 at *
  cases O1 with
  | error e =>
    have := e1 e rfl
    clear e1 e2 hco
    unfold oE
    simp (disch := omega) only [seval, ↓SDX, isRes, slEl, bslParts, mmAll, mmR, SUX, List.replicate, List.append, pr, lr, er, binR, ev, putA, List.set, intOf, takeAg, cellsOf, wrAll, partsOk, ones, one, isOne, wok1, findPE, List.find?, nop, prlr, isPure, pickR, optInt, rets, rv, rvs, PI, IntKind.bits]
    exact WkV.eq (by first | rfl | simp) (by first | trivial | (simp only [noix, noixL, NX, and_true, true_and]; done))
  | ok ls1 =>
    clear e1
    unfold oE
    simp (disch := omega) only [seval, ↓SDX, isRes, slEl, bslParts, mmAll, mmR, SUX, List.replicate, List.append, pr, lr, er, binR, ev, putA, List.set, intOf, takeAg, cellsOf, wrAll, partsOk, ones, one, isOne, wok1, findPE, List.find?, nop, prlr, isPure, pickR, optInt, rets, rv, rvs, PI, IntKind.bits]
    refine o2.step ?_
    generalize oneM q c d m = O2 at *
    cases O2 with
    | error e =>
      have := e2 e rfl
      clear e2 hco
      unfold oE
      simp (disch := omega) only [seval, ↓SDX, isRes, slEl, bslParts, mmAll, mmR, SUX, List.replicate, List.append, pr, lr, er, binR, ev, putA, List.set, intOf, takeAg, cellsOf, wrAll, partsOk, ones, one, isOne, wok1, findPE, List.find?, nop, prlr, isPure, pickR, optInt, rets, rv, rvs, PI, IntKind.bits]
      exact WkV.eq (by first | rfl | simp) (by first | trivial | (simp only [noix, noixL, NX, and_true, true_and]; done))
    | ok ls2 =>
      clear e2
      unfold oE
      simp (disch := omega) only [seval, ↓SDX, isRes, slEl, bslParts, mmAll, mmR, SUX, List.replicate, List.append, pr, lr, er, binR, ev, putA, List.set, intOf, takeAg, cellsOf, wrAll, partsOk, ones, one, isOne, wok1, findPE, List.find?, nop, prlr, isPure, pickR, optInt, rets, rv, rvs, PI, IntKind.bits]
      refine hcm.step ?_
      generalize commonM p q = C at *
      cases C with
      | none =>
        clear hco
        unfold oL
        simp (disch := omega) only [seval, ↓SDX, isRes, slEl, bslParts, mmAll, mmR, SUX, List.replicate, List.append, pr, lr, er, binR, ev, putA, List.set, intOf, takeAg, cellsOf, wrAll, partsOk, ones, one, isOne, wok1, findPE, List.find?, nop, prlr, isPure, pickR, optInt, rets, rv, rvs, PI, IntKind.bits]
        exact WkV.eq (by first | rfl | simp) (by first | trivial | (simp only [noix, noixL, NX, and_true, true_and]; done))
      | some l =>
        have hl := hco l rfl
        clear hco
        unfold oL
        dsimp only
        by_cases hl1 : l.length = 1
        · rw [if_pos hl1]
          clear hl
          simp (disch := omega) only [seval, ↓SDX, isRes, slEl, bslParts, mmAll, mmR, SUX, List.replicate, List.append, pr, lr, er, binR, ev, putA, List.set, intOf, takeAg, cellsOf, wrAll, partsOk, ones, one, isOne, wok1, findPE, List.find?, nop, prlr, isPure, pickR, optInt, rets, rv, rvs, PI, hl1, IntKind.bits]
          exact WkV.eq (by first | rfl | simp) (by first | trivial | (simp only [noix, noixL, NX, and_true, true_and]; done))
        · rw [if_neg hl1]
          have hmx := S_l00Max_pf h.toIsA (n : Nat) (m : Nat)
          rw [show max ((n : Nat) : Int) ((m : Nat) : Int) = ((max n m : Nat) : Int) from by omega] at hmx
          have hll1 := hl.l1
          have hll2 := hl.l2
          simp (disch := omega) only [seval, ↓SDX, isRes, slEl, bslParts, mmAll, mmR, SUX, List.replicate, List.append, pr, lr, er, binR, ev, putA, List.set, intOf, takeAg, cellsOf, wrAll, partsOk, ones, one, isOne, wok1, findPE, List.find?, nop, prlr, isPure, pickR, optInt, rets, rv, rvs, PI, hl1, IntKind.bits]
          refine hmx.step ?_
          unfold cpMid
          have m1 : n ≤ max n m := by omega
          have m2 : m ≤ max n m := by omega
          have m3 : max n m ≤ 64 := by omega
          generalize max n m = M at *
          have d1 : ((M : Nat) : Int) - ((n : Nat) : Int) = ((M - n : Nat) : Int) := by omega
          have d2 : ((M : Nat) : Int) - ((m : Nat) : Int) = ((M - m : Nat) : Int) := by omega
          have u1 := S_l01Up_c' h.toIsA a (M - n) l1 (by omega)
          have u2 := S_l01Up_c' h.toIsA b (M - n) l2 (by omega)
          have u3 := S_l01Up_c' h.toIsA c (M - m) l3 (by omega)
          have u4 := S_l01Up_c' h.toIsA d (M - m) l4 (by omega)
          have cc : ∀ a d, upOk a d = decide (upC a d = 0) := fun a d => by unfold upC; cases upOk a d <;> simp
          rw [cc, cc, cc, cc]
          have c1 := upC_or a (M - n)
          have c2 := upC_or b (M - n)
          have c3 := upC_or c (M - m)
          have c4 := upC_or d (M - m)
          have x1 := upO_lt a (M - n)
          have x2 := upO_lt b (M - n)
          have x3 := upO_lt c (M - m)
          have x4 := upO_lt d (M - m)
          clear cc hmx
          generalize upO a (M - n) = a' at *
          generalize upO b (M - n) = b' at *
          generalize upO c (M - m) = c' at *
          generalize upO d (M - m) = d' at *
          generalize upC a (M - n) = k1 at *
          generalize upC b (M - n) = k2 at *
          generalize upC c (M - m) = k3 at *
          generalize upC d (M - m) = k4 at *
          simp (disch := omega) only [seval, ↓SDX, isRes, slEl, bslParts, mmAll, mmR, SUX, List.replicate, List.append, pr, lr, er, binR, ev, putA, List.set, intOf, takeAg, cellsOf, wrAll, partsOk, ones, one, isOne, wok1, findPE, List.find?, nop, prlr, isPure, pickR, optInt, rets, rv, rvs, PI, d1, d2, IntKind.bits]
          refine u1.step ?_
          simp (disch := omega) only [seval, ↓SDX, isRes, slEl, bslParts, mmAll, mmR, SUX, List.replicate, List.append, pr, lr, er, binR, ev, putA, List.set, intOf, takeAg, cellsOf, wrAll, partsOk, ones, one, isOne, wok1, findPE, List.find?, nop, prlr, isPure, pickR, optInt, rets, rv, rvs, PI, d1, d2, IntKind.bits]
          refine u2.step ?_
          simp (disch := omega) only [seval, ↓SDX, isRes, slEl, bslParts, mmAll, mmR, SUX, List.replicate, List.append, pr, lr, er, binR, ev, putA, List.set, intOf, takeAg, cellsOf, wrAll, partsOk, ones, one, isOne, wok1, findPE, List.find?, nop, prlr, isPure, pickR, optInt, rets, rv, rvs, PI, d1, d2, IntKind.bits]
          refine u3.step ?_
          simp (disch := omega) only [seval, ↓SDX, isRes, slEl, bslParts, mmAll, mmR, SUX, List.replicate, List.append, pr, lr, er, binR, ev, putA, List.set, intOf, takeAg, cellsOf, wrAll, partsOk, ones, one, isOne, wok1, findPE, List.find?, nop, prlr, isPure, pickR, optInt, rets, rv, rvs, PI, d1, d2, IntKind.bits]
          rcases c1 with rfl | rfl
          case inr =>
            refine u4.step ?_
            simp (disch := omega) only [seval, ↓SDX, isRes, slEl, bslParts, mmAll, mmR, SUX, List.replicate, List.append, pr, lr, er, binR, ev, putA, List.set, intOf, takeAg, cellsOf, wrAll, partsOk, ones, one, isOne, wok1, findPE, List.find?, nop, prlr, isPure, pickR, optInt, rets, rv, rvs, PI, IntKind.bits]
            exact WkV.eq (by first | rfl | simp) (by first | trivial | (simp only [noix, noixL, NX, and_true, true_and]; done))
          rcases c2 with rfl | rfl
          case inr =>
            refine u4.step ?_
            simp (disch := omega) only [seval, ↓SDX, isRes, slEl, bslParts, mmAll, mmR, SUX, List.replicate, List.append, pr, lr, er, binR, ev, putA, List.set, intOf, takeAg, cellsOf, wrAll, partsOk, ones, one, isOne, wok1, findPE, List.find?, nop, prlr, isPure, pickR, optInt, rets, rv, rvs, PI, IntKind.bits]
            exact WkV.eq (by first | rfl | simp) (by first | trivial | (simp only [noix, noixL, NX, and_true, true_and]; done))
          rcases c3 with rfl | rfl
          case inr =>
            refine u4.step ?_
            simp (disch := omega) only [seval, ↓SDX, isRes, slEl, bslParts, mmAll, mmR, SUX, List.replicate, List.append, pr, lr, er, binR, ev, putA, List.set, intOf, takeAg, cellsOf, wrAll, partsOk, ones, one, isOne, wok1, findPE, List.find?, nop, prlr, isPure, pickR, optInt, rets, rv, rvs, PI, IntKind.bits]
            exact WkV.eq (by first | rfl | simp) (by first | trivial | (simp only [noix, noixL, NX, and_true, true_and]; done))
          rcases c4 with rfl | rfl
          case inr =>
            refine u4.step ?_
            simp (disch := omega) only [seval, ↓SDX, isRes, slEl, bslParts, mmAll, mmR, SUX, List.replicate, List.append, pr, lr, er, binR, ev, putA, List.set, intOf, takeAg, cellsOf, wrAll, partsOk, ones, one, isOne, wok1, findPE, List.find?, nop, prlr, isPure, pickR, optInt, rets, rv, rvs, PI, IntKind.bits]
            exact WkV.eq (by first | rfl | simp) (by first | trivial | (simp only [noix, noixL, NX, and_true, true_and]; done))
          have j1 := S_l01Compare_pf h.toIsA a' c' x1 x3
          have j2 := S_l01Compare_pf h.toIsA d' b' x4 x2
          have j3 := S_l01Compare_pf h.toIsA (loM a' c') (hiM b' d') (loM_lt x1 x3) (hiM_lt x2 x4)
          refine u4.step ?_
          simp only [decide_true, Bool.and_self, if_true]
          unfold cpTail
          have y1 := loM_lt x1 x3
          have y2 := hiM_lt x2 x4
          simp (disch := omega) only [seval, ↓SDX, isRes, slEl, bslParts, mmAll, mmR, SUX, List.replicate, List.append, pr, lr, er, binR, ev, putA, List.set, intOf, takeAg, cellsOf, wrAll, partsOk, ones, one, isOne, wok1, findPE, List.find?, nop, prlr, isPure, pickR, optInt, rets, rv, rvs, PI, IntKind.bits]
          refine j1.lend (.p0 rfl (by simp only [CX]) (.p0 rfl (by simp only [CX]) .nil)) (by simp only [clean, cleanL, CX, and_true, true_and]) ?_
          obtain ⟨lo, hlo⟩ : ∃ x, loM a' c' = x := ⟨_, rfl⟩
          obtain ⟨hi, hhi⟩ : ∃ x, hiM b' d' = x := ⟨_, rfl⟩
          rw [hlo] at y1 j3 ⊢
          rw [hhi] at y2 j3 ⊢
          have w1 : a' < c' → lo = c' := fun k => by rw [← hlo]; exact if_pos k
          have w2 : ¬ a' < c' → lo = a' := fun k => by rw [← hlo]; exact if_neg k
          have w3 : d' < b' → hi = d' := fun k => by rw [← hhi]; exact if_pos k
          have w4 : ¬ d' < b' → hi = b' := fun k => by rw [← hhi]; exact if_neg k
          have hcs : ∀ x y : Int, (x < y → (if x < y then (-1 : Int) else if y < x then 1 else 0) = -1) ∧ (¬ x < y → ¬ (if x < y then (-1 : Int) else if y < x then 1 else 0) < 0) := fun x y => ⟨fun k => if_pos k, fun k => by rw [if_neg k]; split <;> decide⟩
          have z1 := hcs a' c'
          have z2 := hcs d' b'
          have z3 := hcs lo hi
          generalize (if a' < c' then (-1 : Int) else if c' < a' then 1 else 0) = r1 at *
          generalize (if d' < b' then (-1 : Int) else if b' < d' then 1 else 0) = r2 at *
          generalize (if lo < hi then (-1 : Int) else if hi < lo then 1 else 0) = r3 at *
          clear hcs hlo hhi u1 u2 u3 u4
          by_cases t1 : a' < c'
          case' pos =>
            have e := w1 t1
            have e' := z1.1 t1
            clear w1 w2 z1
            subst e e'
            simp (disch := omega) only [seval, ↓SDX, isRes, slEl, bslParts, mmAll, mmR, SUX, List.replicate, List.append, pr, lr, er, binR, ev, putA, List.set, intOf, takeAg, cellsOf, wrAll, partsOk, ones, one, isOne, wok1, findPE, List.find?, nop, prlr, isPure, pickR, optInt, rets, rv, rvs, PI, IntKind.bits]
            refine j2.lend (.p0 rfl (by simp only [CX]) (.p0 rfl (by simp only [CX]) .nil)) (by simp only [clean, cleanL, CX, and_true, true_and]) ?_
          case' neg =>
            have e := w2 t1
            have e' := z1.2 t1
            clear w1 w2 z1
            subst e
            simp (disch := omega) only [seval, ↓SDX, isRes, slEl, bslParts, mmAll, mmR, SUX, List.replicate, List.append, pr, lr, er, binR, ev, putA, List.set, intOf, takeAg, cellsOf, wrAll, partsOk, ones, one, isOne, wok1, findPE, List.find?, nop, prlr, isPure, pickR, optInt, rets, rv, rvs, PI, IntKind.bits]
            refine j2.lend (.p0 rfl (by simp only [CX]) (.p0 rfl (by simp only [CX]) .nil)) (by simp only [clean, cleanL, CX, and_true, true_and]) ?_
          all_goals
            by_cases t2 : d' < b'
            case' pos =>
              have e := w3 t2
              have e' := z2.1 t2
              clear w3 w4 z2
              subst e e'
              simp (disch := omega) only [seval, ↓SDX, isRes, slEl, bslParts, mmAll, mmR, SUX, List.replicate, List.append, pr, lr, er, binR, ev, putA, List.set, intOf, takeAg, cellsOf, wrAll, partsOk, ones, one, isOne, wok1, findPE, List.find?, nop, prlr, isPure, pickR, optInt, rets, rv, rvs, PI, IntKind.bits]
            case' neg =>
              have e := w4 t2
              have e' := z2.2 t2
              clear w3 w4 z2
              subst e
              simp (disch := omega) only [seval, ↓SDX, isRes, slEl, bslParts, mmAll, mmR, SUX, List.replicate, List.append, pr, lr, er, binR, ev, putA, List.set, intOf, takeAg, cellsOf, wrAll, partsOk, ones, one, isOne, wok1, findPE, List.find?, nop, prlr, isPure, pickR, optInt, rets, rv, rvs, PI, IntKind.bits]
          all_goals
            refine j3.lend (.p0 rfl (by simp only [CX]) (.p0 rfl (by simp only [CX]) .nil)) (by simp only [clean, cleanL, CX, and_true, true_and]) ?_
            by_cases t3 : lo < hi
            case neg =>
              have e := z3.2 t3
              rw [if_pos (by omega)]
              clear hl
              simp (disch := omega) only [seval, ↓SDX, isRes, slEl, bslParts, mmAll, mmR, SUX, List.replicate, List.append, pr, lr, er, binR, ev, putA, List.set, intOf, takeAg, cellsOf, wrAll, partsOk, ones, one, isOne, wok1, findPE, List.find?, nop, prlr, isPure, pickR, optInt, rets, rv, rvs, PI, IntKind.bits]
              exact WkV.eq (by first | rfl | simp) (by first | trivial | (simp only [noix, noixL, NX, and_true, true_and]; done))
            rw [if_neg (by omega)]
            have e := z3.1 t3
            subst e
            clear j1 j2 j3
            obtain ⟨RES, hRES⟩ : ∃ R, slopesM l = R := ⟨_, rfl⟩
            rw [hRES]
            obtain ⟨L, hL⟩ : ∃ L, l.length = L + 2 := ⟨l.length - 2, by omega⟩
            have hsl := fun s hs => slopesM_ok hl (by omega) (s := s) hs
            have hrow : rowM (slopeW l) (L + 1) = RES := by rw [← hRES]; unfold slopesM; rw [hL]; rfl
            rw [hRES] at hsl
            clear hRES
            simp (disch := omega) only [seval, ↓SDX, isRes, slEl, bslParts, mmAll, mmR, SUX, List.replicate, List.append, pr, lr, er, binR, ev, putA, List.set, intOf, takeAg, cellsOf, wrAll, partsOk, ones, one, isOne, wok1, findPE, List.find?, nop, prlr, isPure, pickR, optInt, rets, rv, rvs, PI, hL, CN, NW, IntKind.bits]
            refine loop_cut (fun s : List Int => ([.junk, .junk, .junk, .junk, .junk, .junk, .junk, .junk, .junk, .junk, .junk, .junk, .junk, .junk, roW l, .junk, .raw (.int .i64 (M : Nat)), .ptr 2 0, .junk, .ptr 3 0, .junk, .junk, .junk, .junk, .junk, roW s] ++ List.replicate 166 .junk)) (fun _ => [.dead, .dead, .c (wi lo), .c (wi hi)]) (fun s => RES = some s) ?_ ?_
            · refine loop_st (fun s : Nat × List Int => L + 1 - s.1) (fun s => ([.junk, .junk, .junk, .junk, .junk, .junk, .junk, .junk, .junk, .junk, .junk, .junk, .junk, .junk, roW l, .junk, .raw (.int .i64 (M : Nat)), .ptr 2 0, .junk, .ptr 3 0, .junk, .junk, .junk, .junk, .junk, .sl 6 7 0 s.1 true, .raw (.int .i64 (s.1 + 1 : Nat))] ++ List.replicate 165 .junk)) (fun s => [.dead, .dead, .c (wi lo), .c (wi hi), .dead, .dead, .c (wds s.2)])
                (fun s => s.1 ≤ L + 1 ∧ rowM (slopeW l) s.1 = some s.2) (0, []) ⟨Nat.zero_le _, rfl⟩ ?_ ?_
              · exact (Wk.kill 4).trans ((Wk.kill 5).trans (Wk.tmps' (by simp [fits]) rfl))
              rintro ⟨k, s⟩ ⟨hk, hks⟩
              dsimp only at hk hks ⊢
              have hlk := rowM_len hks
              by_cases hk2 : k < L + 1
              · have hx := wds_get (l := l) (i := k + 1) (by omega)
                have hxl := hl.i.get (i := k + 1) (by omega)
                have hB := bW_big
                have hof := S_l01Of_pf h.toIsA ((k + 1 : Nat) : Int) (by omega) (by omega)
                have hmul := S_l01Mul_pf h.toIsA (l.getD (k + 1) 0) ((k + 1 : Nat) : Int) hxl (by omega)
                have hsw : slopeW l k = if (l.getD (k + 1) 0 * ((k + 1 : Nat) : Int)).natAbs < bW then some (l.getD (k + 1) 0 * ((k + 1 : Nat) : Int)) else none := rfl
                generalize l.getD (k + 1) 0 = x at *
                have hl7 := wds_length s
                rw [hlk] at hl7
                by_cases hf : (x * ((k + 1 : Nat) : Int)).natAbs < bW
                · rw [if_pos hf] at hmul hsw
                  have hnx : rowM (slopeW l) (k + 1) = some (s ++ [x * ((k + 1 : Nat) : Int)]) := by simp only [rowM, hks, hsw]
                  have hadd : wds s ++ wi (x * ((k + 1 : Nat) : Int)) = wds (s ++ [x * ((k + 1 : Nat) : Int)]) := by rw [wds_append, wds_one]
                  clear hl hsl hrow hks hsw hf
                  generalize x * ((k + 1 : Nat) : Int) = z at *
                  simp (disch := omega) only [seval, ↓SDX, isRes, slEl, bslParts, mmAll, mmR, SUX, List.replicate, List.append, pr, lr, er, binR, ev, putA, List.set, intOf, takeAg, cellsOf, wrAll, partsOk, ones, one, isOne, wok1, findPE, List.find?, nop, prlr, isPure, pickR, optInt, rets, rv, rvs, PI, hL, CN, NW, hx, IntKind.bits]
                  refine hof.step ?_
                  simp (disch := omega) only [seval, ↓SDX, isRes, slEl, bslParts, mmAll, mmR, SUX, List.replicate, List.append, pr, lr, er, binR, ev, putA, List.set, intOf, takeAg, cellsOf, wrAll, partsOk, ones, one, isOne, wok1, findPE, List.find?, nop, prlr, isPure, pickR, optInt, rets, rv, rvs, PI, hL, CN, NW, hx, IntKind.bits]
                  refine hmul.step ?_
                  simp (disch := omega) only [seval, ↓SDX, isRes, slEl, bslParts, mmAll, mmR, SUX, List.replicate, List.append, pr, lr, er, binR, ev, putA, List.set, intOf, takeAg, cellsOf, wrAll, partsOk, ones, one, isOne, wok1, findPE, List.find?, nop, prlr, isPure, pickR, optInt, rets, rv, rvs, PI, hL, CN, NW, hx, hadd, IntKind.bits]
                  exact ⟨(k + 1, s ++ [z]), by dsimp only; omega, ⟨by dsimp only; omega, hnx⟩, Wk.back (i := 6) (j := 9) (n := 7) (by decide) (by decide) (by decide) rfl rfl (by simp only [mvL, mvAV, cutL, cutAV, fits, DU, eq_self, and_self, and_true, true_and, Int.cast_ofNat_Int, Int.natCast_add, List.replicate, List.cons_append, List.nil_append, ↓reduceIte, Nat.reduceEqDiff, Nat.reduceLT, reduceCtorEq, if_true, if_false, List.map_cons, List.map_nil, List.take_succ_cons, List.take_zero, List.set]) (by simp only [cutH, mvH, mvSg, cutSg, mvL, cutL, DU, eq_self, and_self, and_true, true_and, Int.cast_ofNat_Int, Int.natCast_add, List.replicate, List.cons_append, List.nil_append, ↓reduceIte, Nat.reduceEqDiff, Nat.reduceLT, reduceCtorEq, if_true, if_false, List.map_cons, List.map_nil, List.take_succ_cons, List.take_zero, List.set])⟩
                · rw [if_neg hf] at hmul hsw
                  have hnx : RES = none := by
                    rw [← hrow]; exact rowM_none (k := k + 1) (by simp only [rowM, hks, hsw]) (by omega)
                  subst hnx
                  clear hl hsl hrow hks hsw hf
                  simp (disch := omega) only [seval, ↓SDX, isRes, slEl, bslParts, mmAll, mmR, SUX, List.replicate, List.append, pr, lr, er, binR, ev, putA, List.set, intOf, takeAg, cellsOf, wrAll, partsOk, ones, one, isOne, wok1, findPE, List.find?, nop, prlr, isPure, pickR, optInt, rets, rv, rvs, PI, hL, CN, NW, hx, IntKind.bits]
                  refine hof.step ?_
                  simp (disch := omega) only [seval, ↓SDX, isRes, slEl, bslParts, mmAll, mmR, SUX, List.replicate, List.append, pr, lr, er, binR, ev, putA, List.set, intOf, takeAg, cellsOf, wrAll, partsOk, ones, one, isOne, wok1, findPE, List.find?, nop, prlr, isPure, pickR, optInt, rets, rv, rvs, PI, hL, CN, NW, hx, IntKind.bits]
                  refine hmul.step ?_
                  simp (disch := omega) only [seval, ↓SDX, isRes, slEl, bslParts, mmAll, mmR, SUX, List.replicate, List.append, pr, lr, er, binR, ev, putA, List.set, intOf, takeAg, cellsOf, wrAll, partsOk, ones, one, isOne, wok1, findPE, List.find?, nop, prlr, isPure, pickR, optInt, rets, rv, rvs, PI, hL, CN, NW, hx, IntKind.bits]
                  exact WkV.eq (by first | rfl | simp) (by first | trivial | (simp only [noix, noixL, NX, and_true, true_and]; done))
              · have hk3 : k = L + 1 := by omega
                subst hk3
                rw [hrow] at hks
                clear hl hsl hrow
                simp (disch := omega) only [seval, ↓SDX, isRes, slEl, bslParts, mmAll, mmR, SUX, List.replicate, List.append, pr, lr, er, binR, ev, putA, List.set, intOf, takeAg, cellsOf, wrAll, partsOk, ones, one, isOne, wok1, findPE, List.find?, nop, prlr, isPure, pickR, optInt, rets, rv, rvs, PI, hL, CN, NW, IntKind.bits]
                refine ⟨s, hks, ?_⟩
                rw [← hlk]
                exact Wk.fzc (i := 6) (n := 4) rfl (noixL_wds _) (by decide) (by simp (disch := omega) only [frzL, frz, cutL, cutAV, fits, DU, eq_self, and_self, and_true, true_and, Int.cast_ofNat_Int, Int.natCast_add, List.replicate, List.cons_append, List.nil_append, ↓reduceIte, Nat.reduceEqDiff, Nat.reduceLT, reduceCtorEq, if_true, if_false, List.map_cons, List.map_nil, List.take_succ_cons, List.take_zero, List.set, Nat.zero_add, nle_t, wds_length, wds_take, i64s_length, List.drop_zero, take_short, List.take_length]) (by simp only [cutH, frzH, frzSg, cutSg, frzL, cutL, DU, eq_self, and_self, and_true, true_and, Int.cast_ofNat_Int, Int.natCast_add, List.replicate, List.cons_append, List.nil_append, ↓reduceIte, Nat.reduceEqDiff, Nat.reduceLT, reduceCtorEq, if_true, if_false, List.map_cons, List.map_nil, List.take_succ_cons, List.take_zero, List.set, Nat.zero_add, nle_t, wds_length, wds_take, i64s_length, List.drop_zero, take_short, List.take_length])
            · rintro s rfl
              dsimp only
              obtain ⟨hs, hsn⟩ := hsl s rfl
              have hch := S_l05Chain_pf h.toIsA l s true hl.l2 hs.l2 hs.l1 hl.i hs.i hs.z
              have hcok := fun ls hls => chain_slope_ok hl hs hsn (ls := ls) hls
              have hct := fun ls hls => S_l05Count_pf h.toIsA ls lo hi M (hcok ls hls) y1 y2 (by omega)
              generalize chainM true (s.length + 1) [l, s] l s = R at *
              clear hl hs hsl hcok hrow
              simp (disch := omega) only [seval, ↓SDX, isRes, slEl, bslParts, mmAll, mmR, SUX, List.replicate, List.append, pr, lr, er, binR, ev, putA, List.set, intOf, takeAg, cellsOf, wrAll, partsOk, ones, one, isOne, wok1, findPE, List.find?, nop, prlr, isPure, pickR, optInt, rets, rv, rvs, PI, CN, NW, IntKind.bits]
              refine hch.step ?_
              cases R with
              | none =>
                clear hct
                unfold oC
                simp (disch := omega) only [seval, ↓SDX, isRes, slEl, bslParts, mmAll, mmR, SUX, List.replicate, List.append, pr, lr, er, binR, ev, putA, List.set, intOf, takeAg, cellsOf, wrAll, partsOk, ones, one, isOne, wok1, findPE, List.find?, nop, prlr, isPure, pickR, optInt, rets, rv, rvs, PI, CN, IntKind.bits]
                exact WkV.eq (by first | rfl | simp) (by first | trivial | (simp only [noix, noixL, NX, and_true, true_and]; done))
              | some ls =>
                have hc2 := hct ls rfl
                clear hct
                dsimp only
                have hC : oC (some ls) = .tup [.ro 1 ls.length (rws ls), .raw (.int .i64 0)] := rfl
                rw [hC]
                generalize countM ls lo hi M = K at *
                simp (disch := omega) only [seval, ↓SDX, isRes, slEl, bslParts, mmAll, mmR, SUX, List.replicate, List.append, pr, lr, er, binR, ev, putA, List.set, intOf, takeAg, cellsOf, wrAll, partsOk, ones, one, isOne, wok1, findPE, List.find?, nop, prlr, isPure, pickR, optInt, rets, rv, rvs, PI, CN, IntKind.bits]
                refine hc2.step ?_
                cases K with
                | none =>
                  unfold oZ
                  simp (disch := omega) only [seval, ↓SDX, isRes, slEl, bslParts, mmAll, mmR, SUX, List.replicate, List.append, pr, lr, er, binR, ev, putA, List.set, intOf, takeAg, cellsOf, wrAll, partsOk, ones, one, isOne, wok1, findPE, List.find?, nop, prlr, isPure, pickR, optInt, rets, rv, rvs, PI, CN, IntKind.bits]
                  exact WkV.eq (by first | rfl | simp) (by first | trivial | (simp only [noix, noixL, NX, and_true, true_and]; done))
                | some v =>
                  unfold oZ
                  by_cases hv : 0 < v
                  · simp (disch := omega) only [seval, ↓SDX, isRes, slEl, bslParts, mmAll, mmR, SUX, List.replicate, List.append, pr, lr, er, binR, ev, putA, List.set, intOf, takeAg, cellsOf, wrAll, partsOk, ones, one, isOne, wok1, findPE, List.find?, nop, prlr, isPure, pickR, optInt, rets, rv, rvs, PI, CN, IntKind.bits]
                    exact WkV.eq (by simp [hv]) ⟨trivial, trivial, trivial⟩
                  · simp (disch := omega) only [seval, ↓SDX, isRes, slEl, bslParts, mmAll, mmR, SUX, List.replicate, List.append, pr, lr, er, binR, ev, putA, List.set, intOf, takeAg, cellsOf, wrAll, partsOk, ones, one, isOne, wok1, findPE, List.find?, nop, prlr, isPure, pickR, optInt, rets, rv, rvs, PI, CN, IntKind.bits]
                    exact WkV.eq (by simp [hv]) ⟨trivial, trivial, trivial⟩
end
end Go.Proofs.Lite

namespace Go.Proofs.Lite
open Go
section
variable {P : Program} {F : FnsB} (h : IsB P F)
include h
set_option maxRecDepth 20000 in
set_option maxHeartbeats 1000000 in
theorem I_CommonParts_pf (hcl : callable P F.I_ValidPoly_1 = true) (p q : List Int) (hlp : p.length ≤ 1048576) (hlq : q.length ≤ 1048576) (n1 : Bool) (A1 : Nat) (n2 : Bool) (A2 : Nat) (px : Int) (n3 : Bool) (A3 : Nat) (n4 : Bool) (A4 : Nat) (py : Int) :
    Pf P F.I_CommonParts [roI p, roI q, .agg (pc n1 A1 n2 A2 px), .agg (pc n3 A3 n4 A4 py)] (.tup [.raw (.bool (cpM p q n1 A1 n2 A2 px n3 A3 n4 A4 py).1), .raw (.int .i64 (cpM p q n1 A1 n2 A2 px n3 A3 n4 A4 py).2)]) := by
  refine pf_of h.I_CommonParts ⟨trivial, trivial, noixL_pc .., noixL_pc .., trivial⟩ ⟨trivial, trivial, trivial⟩ ?_
  have k1 := I_ValidPoly_pf h.toIsA hcl p hlp
  have k2 := I_ValidPoly_pf h.toIsA hcl q hlq
  have k3 := I_ValidPart_pf h.toIsA n1 A1 n2 A2 px
  have k4 := I_ValidPart_pf h.toIsA n3 A3 n4 A4 py
  unfold cpM
  by_cases hp : polyOk p = true
  case neg =>
    have hp' : polyOk p = false := by simpa using hp
    rw [hp'] at k1 ⊢
    simp (disch := omega) only [seval, ↓SDX, isRes, slEl, bslParts, mmAll, mmR, SUX, List.replicate, List.append, pr, lr, er, binR, ev, putA, List.set, intOf, takeAg, cellsOf, wrAll, partsOk, ones, one, isOne, wok1, findPE, List.find?, nop, prlr, isPure, pickR, optInt, rets, rv, rvs, I_CommonParts_c, PI, QW, IntKind.bits]
    refine k1.step ?_
    simp (disch := omega) only [seval, ↓SDX, isRes, slEl, bslParts, mmAll, mmR, SUX, List.replicate, List.append, pr, lr, er, binR, ev, putA, List.set, intOf, takeAg, cellsOf, wrAll, partsOk, ones, one, isOne, wok1, findPE, List.find?, nop, prlr, isPure, pickR, optInt, rets, rv, rvs, PI, QW, IntKind.bits]
    exact WkV.eq (by first | rfl | simp) (by first | trivial | (simp only [noix, noixL, NX, and_true, true_and]; done))
  by_cases hq : polyOk q = true
  case neg =>
    have hq' : polyOk q = false := by simpa using hq
    rw [hp] at k1 ⊢
    rw [hq'] at k2 ⊢
    simp (disch := omega) only [seval, ↓SDX, isRes, slEl, bslParts, mmAll, mmR, SUX, List.replicate, List.append, pr, lr, er, binR, ev, putA, List.set, intOf, takeAg, cellsOf, wrAll, partsOk, ones, one, isOne, wok1, findPE, List.find?, nop, prlr, isPure, pickR, optInt, rets, rv, rvs, I_CommonParts_c, PI, QW, IntKind.bits]
    refine k1.step ?_
    simp (disch := omega) only [seval, ↓SDX, isRes, slEl, bslParts, mmAll, mmR, SUX, List.replicate, List.append, pr, lr, er, binR, ev, putA, List.set, intOf, takeAg, cellsOf, wrAll, partsOk, ones, one, isOne, wok1, findPE, List.find?, nop, prlr, isPure, pickR, optInt, rets, rv, rvs, PI, QW, IntKind.bits]
    refine k2.step ?_
    simp (disch := omega) only [seval, ↓SDX, isRes, slEl, bslParts, mmAll, mmR, SUX, List.replicate, List.append, pr, lr, er, binR, ev, putA, List.set, intOf, takeAg, cellsOf, wrAll, partsOk, ones, one, isOne, wok1, findPE, List.find?, nop, prlr, isPure, pickR, optInt, rets, rv, rvs, PI, QW, IntKind.bits]
    exact WkV.eq (by first | rfl | simp) (by first | trivial | (simp only [noix, noixL, NX, and_true, true_and]; done))
  by_cases hx : partOk n1 A1 n2 A2 px = true
  case neg =>
    have hx' : partOk n1 A1 n2 A2 px = false := by simpa using hx
    rw [hp] at k1 ⊢
    rw [hq] at k2 ⊢
    rw [hx'] at k3 ⊢
    simp (disch := omega) only [seval, ↓SDX, isRes, slEl, bslParts, mmAll, mmR, SUX, List.replicate, List.append, pr, lr, er, binR, ev, putA, List.set, intOf, takeAg, cellsOf, wrAll, partsOk, ones, one, isOne, wok1, findPE, List.find?, nop, prlr, isPure, pickR, optInt, rets, rv, rvs, I_CommonParts_c, PI, QW, IntKind.bits]
    refine k1.step ?_
    simp (disch := omega) only [seval, ↓SDX, isRes, slEl, bslParts, mmAll, mmR, SUX, List.replicate, List.append, pr, lr, er, binR, ev, putA, List.set, intOf, takeAg, cellsOf, wrAll, partsOk, ones, one, isOne, wok1, findPE, List.find?, nop, prlr, isPure, pickR, optInt, rets, rv, rvs, PI, QW, IntKind.bits]
    refine k2.step ?_
    simp (disch := omega) only [seval, ↓SDX, isRes, slEl, bslParts, mmAll, mmR, SUX, List.replicate, List.append, pr, lr, er, binR, ev, putA, List.set, intOf, takeAg, cellsOf, wrAll, partsOk, ones, one, isOne, wok1, findPE, List.find?, nop, prlr, isPure, pickR, optInt, rets, rv, rvs, PI, QW, IntKind.bits]
    refine k3.step ?_
    simp (disch := omega) only [seval, ↓SDX, isRes, slEl, bslParts, mmAll, mmR, SUX, List.replicate, List.append, pr, lr, er, binR, ev, putA, List.set, intOf, takeAg, cellsOf, wrAll, partsOk, ones, one, isOne, wok1, findPE, List.find?, nop, prlr, isPure, pickR, optInt, rets, rv, rvs, PI, QW, IntKind.bits]
    exact WkV.eq (by first | rfl | simp) (by first | trivial | (simp only [noix, noixL, NX, and_true, true_and]; done))
  by_cases hy : partOk n3 A3 n4 A4 py = true
  case neg =>
    have hy' : partOk n3 A3 n4 A4 py = false := by simpa using hy
    rw [hp] at k1 ⊢
    rw [hq] at k2 ⊢
    rw [hx] at k3 ⊢
    rw [hy'] at k4 ⊢
    simp (disch := omega) only [seval, ↓SDX, isRes, slEl, bslParts, mmAll, mmR, SUX, List.replicate, List.append, pr, lr, er, binR, ev, putA, List.set, intOf, takeAg, cellsOf, wrAll, partsOk, ones, one, isOne, wok1, findPE, List.find?, nop, prlr, isPure, pickR, optInt, rets, rv, rvs, I_CommonParts_c, PI, QW, IntKind.bits]
    refine k1.step ?_
    simp (disch := omega) only [seval, ↓SDX, isRes, slEl, bslParts, mmAll, mmR, SUX, List.replicate, List.append, pr, lr, er, binR, ev, putA, List.set, intOf, takeAg, cellsOf, wrAll, partsOk, ones, one, isOne, wok1, findPE, List.find?, nop, prlr, isPure, pickR, optInt, rets, rv, rvs, PI, QW, IntKind.bits]
    refine k2.step ?_
    simp (disch := omega) only [seval, ↓SDX, isRes, slEl, bslParts, mmAll, mmR, SUX, List.replicate, List.append, pr, lr, er, binR, ev, putA, List.set, intOf, takeAg, cellsOf, wrAll, partsOk, ones, one, isOne, wok1, findPE, List.find?, nop, prlr, isPure, pickR, optInt, rets, rv, rvs, PI, QW, IntKind.bits]
    refine k3.step ?_
    simp (disch := omega) only [seval, ↓SDX, isRes, slEl, bslParts, mmAll, mmR, SUX, List.replicate, List.append, pr, lr, er, binR, ev, putA, List.set, intOf, takeAg, cellsOf, wrAll, partsOk, ones, one, isOne, wok1, findPE, List.find?, nop, prlr, isPure, pickR, optInt, rets, rv, rvs, PI, QW, IntKind.bits]
    refine k4.step ?_
    simp (disch := omega) only [seval, ↓SDX, isRes, slEl, bslParts, mmAll, mmR, SUX, List.replicate, List.append, pr, lr, er, binR, ev, putA, List.set, intOf, takeAg, cellsOf, wrAll, partsOk, ones, one, isOne, wok1, findPE, List.find?, nop, prlr, isPure, pickR, optInt, rets, rv, rvs, PI, QW, IntKind.bits]
    exact WkV.eq (by first | rfl | simp) (by first | trivial | (simp only [noix, noixL, NX, and_true, true_and]; done))
  obtain ⟨⟨⟨q1, q2⟩, q3⟩, q4, q5⟩ : ((okW n1 A1 = true ∧ okW n2 A2 = true) ∧ vW n1 A1 < vW n2 A2) ∧ 0 ≤ px ∧ px ≤ 64 := by simpa [partOk] using hx
  obtain ⟨⟨⟨r1, r2⟩, r3⟩, r4, r5⟩ : ((okW n3 A3 = true ∧ okW n4 A4 = true) ∧ vW n3 A3 < vW n4 A4) ∧ 0 ≤ py ∧ py ≤ 64 := by simpa [partOk] using hy
  rw [hp] at k1 ⊢
  rw [hq] at k2 ⊢
  rw [hx] at k3 ⊢
  rw [hy] at k4 ⊢
  rw [pc_ok q1 q2] at k3 ⊢
  rw [pc_ok r1 r2] at k4 ⊢
  obtain ⟨n, rfl⟩ : ∃ n : Nat, px = n := ⟨px.toNat, by omega⟩
  obtain ⟨m, rfl⟩ : ∃ n : Nat, py = n := ⟨py.toNat, by omega⟩
  have l1 := vW_lt n1 A1
  have l2 := vW_lt n2 A2
  have l3 := vW_lt n3 A3
  have l4 := vW_lt n4 A4
  simp only [Bool.and_self, if_true, Int.toNat_natCast]
  clear hx hy q1 q2 q3 r1 r2 r3
  generalize vW n1 A1 = a at *
  generalize vW n2 A2 = b at *
  generalize vW n3 A3 = c at *
  generalize vW n4 A4 = d at *
  have o1 := I_oneZero_ct h.toIsA p hp a b n l1 l2 (by omega)
  have o2 := I_oneZero_ct h.toIsA q hq c d m l3 l4 (by omega)
  have hcm := I_calc_commonOf_or h p q hp hq
  have e1 := fun e he => oneM_err (p := p) (a := a) (b := b) (pl := n) (e := e) he
  have e2 := fun e he => oneM_err (p := q) (a := c) (b := d) (pl := m) (e := e) he
  have hco := fun l hl => commonM_ok hp hq (l := l) hl
  have na1 := noixL_pi a b (n : Nat)
  have na2 := noixL_pi c d (m : Nat)
  unfold comPM
  clear hp hq hlp hlq
  simp (disch := omega) only [seval, ↓SDX, isRes, slEl, bslParts, mmAll, mmR, SUX, List.replicate, List.append, pr, lr, er, binR, ev, putA, List.set, intOf, takeAg, cellsOf, wrAll, partsOk, ones, one, isOne, wok1, findPE, List.find?, nop, prlr, isPure, pickR, optInt, rets, rv, rvs, I_CommonParts_c, PI, QW, IntKind.bits]
  refine k1.step ?_
  simp (disch := omega) only [seval, ↓SDX, isRes, slEl, bslParts, mmAll, mmR, SUX, List.replicate, List.append, pr, lr, er, binR, ev, putA, List.set, intOf, takeAg, cellsOf, wrAll, partsOk, ones, one, isOne, wok1, findPE, List.find?, nop, prlr, isPure, pickR, optInt, rets, rv, rvs, PI, QW, IntKind.bits]
  refine k2.step ?_
  simp (disch := omega) only [seval, ↓SDX, isRes, slEl, bslParts, mmAll, mmR, SUX, List.replicate, List.append, pr, lr, er, binR, ev, putA, List.set, intOf, takeAg, cellsOf, wrAll, partsOk, ones, one, isOne, wok1, findPE, List.find?, nop, prlr, isPure, pickR, optInt, rets, rv, rvs, PI, QW, IntKind.bits]
  refine k3.step ?_
  simp (disch := omega) only [seval, ↓SDX, isRes, slEl, bslParts, mmAll, mmR, SUX, List.replicate, List.append, pr, lr, er, binR, ev, putA, List.set, intOf, takeAg, cellsOf, wrAll, partsOk, ones, one, isOne, wok1, findPE, List.find?, nop, prlr, isPure, pickR, optInt, rets, rv, rvs, PI, QW, IntKind.bits]
  refine k4.step ?_
  simp (disch := omega) only [seval, ↓SDX, isRes, slEl, bslParts, mmAll, mmR, SUX, List.replicate, List.append, pr, lr, er, binR, ev, putA, List.set, intOf, takeAg, cellsOf, wrAll, partsOk, ones, one, isOne, wok1, findPE, List.find?, nop, prlr, isPure, pickR, optInt, rets, rv, rvs, PI, QW, IntKind.bits]
  refine callD_fresh o1 ⟨trivial, na1, trivial⟩ ?_
  intro v0 H0 hR1
  generalize oneM p a b n = O1 at *
  cases O1 with
  | error e =>
    obtain ⟨rfl, rfl⟩ := hR1
    have := e1 e rfl
    clear e1 e2 hco
    simp (disch := omega) only [seval, ↓SDX, isRes, slEl, bslParts, mmAll, mmR, SUX, List.replicate, List.append, pr, lr, er, binR, ev, putA, List.set, intOf, takeAg, cellsOf, wrAll, partsOk, ones, one, isOne, wok1, findPE, List.find?, nop, prlr, isPure, pickR, optInt, rets, rv, rvs, PI, QW, RN, IntKind.bits]
    exact WkV.eq (by first | rfl | simp) (by first | trivial | (simp only [noix, noixL, NX, and_true, true_and]; done))
  | ok ls1 =>
    obtain ⟨rfl, rfl⟩ := hR1
    clear e1
    simp (disch := omega) only [seval, ↓SDX, isRes, slEl, bslParts, mmAll, mmR, SUX, List.replicate, List.append, pr, lr, er, binR, ev, putA, List.set, intOf, takeAg, cellsOf, wrAll, partsOk, ones, one, isOne, wok1, findPE, List.find?, nop, prlr, isPure, pickR, optInt, rets, rv, rvs, PI, QW, RN, IntKind.bits]
    refine callD_fresh o2 ⟨trivial, na2, trivial⟩ ?_
    intro v1 H1 hR2
    generalize oneM q c d m = O2 at *
    cases O2 with
    | error e =>
      obtain ⟨rfl, rfl⟩ := hR2
      have := e2 e rfl
      clear e2 hco
      simp (disch := omega) only [seval, ↓SDX, isRes, slEl, bslParts, mmAll, mmR, SUX, List.replicate, List.append, pr, lr, er, binR, ev, putA, List.set, intOf, takeAg, cellsOf, wrAll, partsOk, ones, one, isOne, wok1, findPE, List.find?, nop, prlr, isPure, pickR, optInt, rets, rv, rvs, PI, QW, RN, IntKind.bits]
      exact WkV.eq (by first | rfl | simp) (by first | trivial | (simp only [noix, noixL, NX, and_true, true_and]; done))
    | ok ls2 =>
      obtain ⟨rfl, rfl⟩ := hR2
      clear e2
      have hw0 : raws [Value.bool false, Value.slice none 0 0] = [.raw (.bool false), .raw (.slice none 0 0)] := rfl
      have hwx : ∀ a b c d : AV, wr [a, b] 0 [c, d] = [c, d] := fun _ _ _ _ => rfl
      have hw2 : ∀ b b' x, wr [.raw (.bool b), x] 0 (oc b') = [.raw (.bool b'), x] := fun _ _ _ => rfl
      have hw3 : ∀ b x y, wr [.raw (.bool b), x] 1 [y] = [.raw (.bool b), y] := fun _ _ _ => rfl
      simp (disch := omega) only [seval, ↓SDX, isRes, slEl, bslParts, mmAll, mmR, SUX, List.replicate, List.append, pr, lr, er, binR, ev, putA, List.set, intOf, takeAg, cellsOf, wrAll, partsOk, ones, one, isOne, wok1, findPE, List.find?, nop, prlr, isPure, pickR, optInt, rets, rv, rvs, PI, QW, RN, hw0, hwx, IntKind.bits]
      refine hcm.step (seg := [.raw (.bool false), .raw (.slice none 0 0)]) rfl (by show 0 + 1 ≤ 2; decide) rfl ?_
      intro v2 c2 hR3
      generalize commonM p q = C at *
      cases C with
      | none =>
        obtain ⟨rfl, rfl⟩ := hR3
        clear hco
        simp (disch := omega) only [seval, ↓SDX, isRes, slEl, bslParts, mmAll, mmR, SUX, List.replicate, List.append, pr, lr, er, binR, ev, putA, List.set, intOf, takeAg, cellsOf, wrAll, partsOk, ones, one, isOne, wok1, findPE, List.find?, nop, prlr, isPure, pickR, optInt, rets, rv, rvs, PI, QW, hw2, IntKind.bits]
        exact WkV.eq (by first | rfl | simp) (by first | trivial | (simp only [noix, noixL, NX, and_true, true_and]; done))
      | some l =>
        obtain ⟨rfl, rfl⟩ := hR3
        have hl := hco l rfl
        clear hco
        have hll1 := hl.l1
        have hll2 := hl.l2
        dsimp only
        by_cases hl1 : l.length = 1
        · rw [if_pos hl1]
          clear hl
          simp (disch := omega) only [seval, ↓SDX, isRes, slEl, bslParts, mmAll, mmR, SUX, List.replicate, List.append, pr, lr, er, binR, ev, putA, List.set, intOf, takeAg, cellsOf, wrAll, partsOk, ones, one, isOne, wok1, findPE, List.find?, nop, prlr, isPure, pickR, optInt, rets, rv, rvs, PI, QW, hw2, hl1, IntKind.bits]
          exact WkV.eq (by first | rfl | simp) (by first | trivial | (simp only [noix, noixL, NX, and_true, true_and]; done))
        · rw [if_neg hl1]
          unfold cpMid
          have hmm : (if ((n : Nat) : Int) < ((m : Nat) : Int) then ((m : Nat) : Int) else ((n : Nat) : Int)) = ((max n m : Nat) : Int) := by split <;> omega
          have m1 : n ≤ max n m := by omega
          have m2 : m ≤ max n m := by omega
          have m3 : max n m ≤ 64 := by omega
          generalize max n m = M at *
          have d1 : ((M : Nat) : Int) - ((n : Nat) : Int) = ((M - n : Nat) : Int) := by omega
          have d2 : ((M : Nat) : Int) - ((m : Nat) : Int) = ((M - m : Nat) : Int) := by omega
          have up : ∀ (ov : Bool) (a : Int) (d : Nat), a.natAbs < bW → d ≤ 191 → Ow P F.I_calc_up (oc ov) [.agg (wi a), .raw (.int .i64 (d : Nat))] (.agg (wi (upO a d))) (oc (ov || !upOk a d)) := fun ov a d ha hd => by
            have := I_calc_up_ow h.toIsA ov a d ha (by omega)
            rw [show (decide (d ≤ 191 ∧ a.natAbs * 2 ^ d < bW)) = upOk a d from by unfold upOk; simp [hd]] at this
            exact this
          have u1 := up false a (M - n) l1 (by omega)
          have u2 := up (false || !upOk a (M - n)) b (M - n) l2 (by omega)
          have u3 := up ((false || !upOk a (M - n)) || !upOk b (M - n)) c (M - m) l3 (by omega)
          have u4 := up (((false || !upOk a (M - n)) || !upOk b (M - n)) || !upOk c (M - m)) d (M - m) l4 (by omega)
          have x1 := upO_lt a (M - n)
          have x2 := upO_lt b (M - n)
          have x3 := upO_lt c (M - m)
          have x4 := upO_lt d (M - m)
          have hB : ((((false || !upOk a (M - n)) || !upOk b (M - n)) || !upOk c (M - m)) || !upOk d (M - m)) = !(upOk a (M - n) && upOk b (M - n) && upOk c (M - m) && upOk d (M - m)) := by
            cases upOk a (M - n) <;> cases upOk b (M - n) <;> cases upOk c (M - m) <;> cases upOk d (M - m) <;> rfl
          rw [hB] at u4
          clear up hB
          generalize (upOk a (M - n) && upOk b (M - n) && upOk c (M - m) && upOk d (M - m)) = B at *
          generalize (((false || !upOk a (M - n)) || !upOk b (M - n)) || !upOk c (M - m)) = f3 at *
          generalize ((false || !upOk a (M - n)) || !upOk b (M - n)) = f2 at *
          generalize (false || !upOk a (M - n)) = f1 at *
          generalize upO a (M - n) = a' at *
          generalize upO b (M - n) = b' at *
          generalize upO c (M - m) = c' at *
          generalize upO d (M - m) = d' at *
          simp (disch := omega) only [seval, ↓SDX, isRes, slEl, bslParts, mmAll, mmR, SUX, List.replicate, List.append, pr, lr, er, binR, ev, putA, List.set, intOf, takeAg, cellsOf, wrAll, partsOk, ones, one, isOne, wok1, findPE, List.find?, nop, prlr, isPure, pickR, optInt, rets, rv, rvs, PI, QW, hw2, hmm, d1, d2, IntKind.bits]
          refine u1.step (seg := [.raw (.bool false), .raw (.slice none 0 0)]) rfl (by show 0 + 1 ≤ 2; decide) rfl ?_
          simp (disch := omega) only [seval, ↓SDX, isRes, slEl, bslParts, mmAll, mmR, SUX, List.replicate, List.append, pr, lr, er, binR, ev, putA, List.set, intOf, takeAg, cellsOf, wrAll, partsOk, ones, one, isOne, wok1, findPE, List.find?, nop, prlr, isPure, pickR, optInt, rets, rv, rvs, PI, QW, hw2, hmm, d1, d2, IntKind.bits]
          refine u2.step (seg := [.raw (.bool f1), .raw (.slice none 0 0)]) rfl (by show 0 + 1 ≤ 2; decide) rfl ?_
          simp (disch := omega) only [seval, ↓SDX, isRes, slEl, bslParts, mmAll, mmR, SUX, List.replicate, List.append, pr, lr, er, binR, ev, putA, List.set, intOf, takeAg, cellsOf, wrAll, partsOk, ones, one, isOne, wok1, findPE, List.find?, nop, prlr, isPure, pickR, optInt, rets, rv, rvs, PI, QW, hw2, hmm, d1, d2, IntKind.bits]
          refine u3.step (seg := [.raw (.bool f2), .raw (.slice none 0 0)]) rfl (by show 0 + 1 ≤ 2; decide) rfl ?_
          simp (disch := omega) only [seval, ↓SDX, isRes, slEl, bslParts, mmAll, mmR, SUX, List.replicate, List.append, pr, lr, er, binR, ev, putA, List.set, intOf, takeAg, cellsOf, wrAll, partsOk, ones, one, isOne, wok1, findPE, List.find?, nop, prlr, isPure, pickR, optInt, rets, rv, rvs, PI, QW, hw2, hmm, d1, d2, IntKind.bits]
          refine u4.step (seg := [.raw (.bool f3), .raw (.slice none 0 0)]) rfl (by show 0 + 1 ≤ 2; decide) rfl ?_
          cases B with
          | false =>
            simp (disch := omega) only [seval, ↓SDX, isRes, slEl, bslParts, mmAll, mmR, SUX, List.replicate, List.append, pr, lr, er, binR, ev, putA, List.set, intOf, takeAg, cellsOf, wrAll, partsOk, ones, one, isOne, wok1, findPE, List.find?, nop, prlr, isPure, pickR, optInt, rets, rv, rvs, PI, QW, hw2, IntKind.bits]
            exact WkV.eq (by first | rfl | simp) (by first | trivial | (simp only [noix, noixL, NX, and_true, true_and]; done))
          | true =>
            simp only [if_true]
            unfold cpTail
            have j1 := I_compare_pf h.toIsA a' c' x1 x3
            have j2 := I_compare_pf h.toIsA b' d' x2 x4
            have j3 := I_compare_pf h.toIsA (loM a' c') (hiM b' d') (loM_lt x1 x3) (hiM_lt x2 x4)
            have y1 := loM_lt x1 x3
            have y2 := hiM_lt x2 x4
            simp (disch := omega) only [seval, ↓SDX, isRes, slEl, bslParts, mmAll, mmR, SUX, List.replicate, List.append, pr, lr, er, binR, ev, putA, List.set, intOf, takeAg, cellsOf, wrAll, partsOk, ones, one, isOne, wok1, findPE, List.find?, nop, prlr, isPure, pickR, optInt, rets, rv, rvs, PI, QW, hw2, IntKind.bits]
            refine j1.step ?_
            obtain ⟨lo, hlo⟩ : ∃ x, loM a' c' = x := ⟨_, rfl⟩
            obtain ⟨hi, hhi⟩ : ∃ x, hiM b' d' = x := ⟨_, rfl⟩
            rw [hlo] at y1 j3 ⊢
            rw [hhi] at y2 j3 ⊢
            have w1 : a' < c' → lo = c' := fun k => by rw [← hlo]; exact if_pos k
            have w2 : ¬ a' < c' → lo = a' := fun k => by rw [← hlo]; exact if_neg k
            have w3 : d' < b' → hi = d' := fun k => by rw [← hhi]; exact if_pos k
            have w4 : ¬ d' < b' → hi = b' := fun k => by rw [← hhi]; exact if_neg k
            have z1 : (a' < c' → (if a' < c' then (-1 : Int) else if c' < a' then 1 else 0) = -1) ∧ (¬ a' < c' → ¬ (if a' < c' then (-1 : Int) else if c' < a' then 1 else 0) < 0) := ⟨fun k => if_pos k, fun k => by rw [if_neg k]; split <;> decide⟩
            have z2 : (d' < b' → (if b' < d' then (-1 : Int) else if d' < b' then 1 else 0) = 1) ∧ (¬ d' < b' → ¬ 0 < (if b' < d' then (-1 : Int) else if d' < b' then 1 else 0)) := ⟨fun k => by rw [if_neg (by omega), if_pos k], fun k => by rw [if_neg k]; split <;> decide⟩
            have z3 : (lo < hi → (if lo < hi then (-1 : Int) else if hi < lo then 1 else 0) = -1) ∧ (¬ lo < hi → ¬ (if lo < hi then (-1 : Int) else if hi < lo then 1 else 0) < 0) := ⟨fun k => if_pos k, fun k => by rw [if_neg k]; split <;> decide⟩
            generalize (if a' < c' then (-1 : Int) else if c' < a' then 1 else 0) = r1 at *
            generalize (if b' < d' then (-1 : Int) else if d' < b' then 1 else 0) = r2 at *
            generalize (if lo < hi then (-1 : Int) else if hi < lo then 1 else 0) = r3 at *
            clear hlo hhi u1 u2 u3 u4
            by_cases t1 : a' < c'
            case' pos =>
              have e := w1 t1
              have e' := z1.1 t1
              clear w1 w2 z1
              subst e e'
              simp (disch := omega) only [seval, ↓SDX, isRes, slEl, bslParts, mmAll, mmR, SUX, List.replicate, List.append, pr, lr, er, binR, ev, putA, List.set, intOf, takeAg, cellsOf, wrAll, partsOk, ones, one, isOne, wok1, findPE, List.find?, nop, prlr, isPure, pickR, optInt, rets, rv, rvs, PI, QW, IntKind.bits]
              refine j2.step ?_
            case' neg =>
              have e := w2 t1
              have e' := z1.2 t1
              clear w1 w2 z1
              subst e
              simp (disch := omega) only [seval, ↓SDX, isRes, slEl, bslParts, mmAll, mmR, SUX, List.replicate, List.append, pr, lr, er, binR, ev, putA, List.set, intOf, takeAg, cellsOf, wrAll, partsOk, ones, one, isOne, wok1, findPE, List.find?, nop, prlr, isPure, pickR, optInt, rets, rv, rvs, PI, QW, IntKind.bits]
              refine j2.step ?_
            all_goals
              by_cases t2 : d' < b'
              case' pos =>
                have e := w3 t2
                have e' := z2.1 t2
                clear w3 w4 z2
                subst e e'
                simp (disch := omega) only [seval, ↓SDX, isRes, slEl, bslParts, mmAll, mmR, SUX, List.replicate, List.append, pr, lr, er, binR, ev, putA, List.set, intOf, takeAg, cellsOf, wrAll, partsOk, ones, one, isOne, wok1, findPE, List.find?, nop, prlr, isPure, pickR, optInt, rets, rv, rvs, PI, QW, IntKind.bits]
              case' neg =>
                have e := w4 t2
                have e' := z2.2 t2
                clear w3 w4 z2
                subst e
                simp (disch := omega) only [seval, ↓SDX, isRes, slEl, bslParts, mmAll, mmR, SUX, List.replicate, List.append, pr, lr, er, binR, ev, putA, List.set, intOf, takeAg, cellsOf, wrAll, partsOk, ones, one, isOne, wok1, findPE, List.find?, nop, prlr, isPure, pickR, optInt, rets, rv, rvs, PI, QW, IntKind.bits]
            all_goals
              refine j3.step ?_
              by_cases t3 : lo < hi
              case neg =>
                have e := z3.2 t3
                rw [if_pos (by omega)]
                clear hl
                simp (disch := omega) only [seval, ↓SDX, isRes, slEl, bslParts, mmAll, mmR, SUX, List.replicate, List.append, pr, lr, er, binR, ev, putA, List.set, intOf, takeAg, cellsOf, wrAll, partsOk, ones, one, isOne, wok1, findPE, List.find?, nop, prlr, isPure, pickR, optInt, rets, rv, rvs, PI, QW, IntKind.bits]
                exact WkV.eq (by first | rfl | simp) (by first | trivial | (simp only [noix, noixL, NX, and_true, true_and]; done))
              rw [if_neg (by omega)]
              have e := z3.1 t3
              subst e
              clear j1 j2 j3
              have hss := I_calc_slopes_or h l hll1 hll2 hl.i
              have hsl := fun s hs => slopesM_ok hl (by omega) (s := s) hs
              generalize slopesM l = RES at *
              simp (disch := omega) only [seval, ↓SDX, isRes, slEl, bslParts, mmAll, mmR, SUX, List.replicate, List.append, pr, lr, er, binR, ev, putA, List.set, intOf, takeAg, cellsOf, wrAll, partsOk, ones, one, isOne, wok1, findPE, List.find?, nop, prlr, isPure, pickR, optInt, rets, rv, rvs, PI, QW, hl1, IntKind.bits]
              refine hss.step (seg := [.raw (.bool false), .raw (.slice none 0 0)]) rfl (by show 0 + 1 ≤ 2; decide) rfl ?_
              rintro v3 c3 ⟨s, o, rfl, hsn, hsi, rfl, hag⟩
              rcases hag with ⟨rfl, -, rfl⟩ | ⟨rfl, hag⟩
              · obtain ⟨hs, -⟩ := hsl s rfl
                have hch := I_calc_chain_or h.toIsA l s true hll1 hll2 hs.l2 hs.l1 hl.i hs.i
                have hcok := fun ls hls => chain_slope_ok hl hs hsn (ls := ls) hls
                have hct := fun ls hls => I_sturm_count_or h.toIsA false ls lo hi M (hcok ls hls) y1 y2 (by omega)
                have hro : ∀ ls, AV.ro 1 ls.length (List.map roW ls) = .ro 1 ls.length (rws ls) := fun _ => rfl
                dsimp only
                generalize chainM true (s.length + 1) [l, s] l s = R at *
                clear hl hs hsl hcok hsi
                simp (disch := omega) only [seval, ↓SDX, isRes, slEl, bslParts, mmAll, mmR, SUX, List.replicate, List.append, pr, lr, er, binR, ev, putA, List.set, intOf, takeAg, cellsOf, wrAll, partsOk, ones, one, isOne, wok1, findPE, List.find?, nop, prlr, isPure, pickR, optInt, rets, rv, rvs, PI, QW, hw2, IntKind.bits]
                refine hch.step (seg := [.raw (.bool false), .raw (.slice none 0 0)]) rfl (by show 0 + 1 ≤ 2; decide) rfl ?_
                intro v4 c4 hR5
                cases R with
                | none =>
                  obtain ⟨rfl, ls, rfl, hlk⟩ := hR5
                  have hc2 := I_sturm_count_or h.toIsA true ls lo hi M hlk y1 y2 (by omega)
                  clear hct
                  generalize countM ls lo hi M = K at *
                  simp (disch := omega) only [seval, ↓SDX, isRes, slEl, bslParts, mmAll, mmR, SUX, List.replicate, List.append, pr, lr, er, binR, ev, putA, List.set, intOf, takeAg, cellsOf, wrAll, partsOk, ones, one, isOne, wok1, findPE, List.find?, nop, prlr, isPure, pickR, optInt, rets, rv, rvs, PI, QW, hw2, hw3, IntKind.bits]
                  refine hc2.step0 rfl ?_
                  rintro v5 c5 ⟨v, o5, rfl, -, -, rfl, hag⟩
                  have : o5 = true := by rcases hag with ⟨-, k, -⟩ | ⟨k, -⟩; cases k; exact k
                  subst this
                  simp (disch := omega) only [seval, ↓SDX, isRes, slEl, bslParts, mmAll, mmR, SUX, List.replicate, List.append, pr, lr, er, binR, ev, putA, List.set, intOf, takeAg, cellsOf, wrAll, partsOk, ones, one, isOne, wok1, findPE, List.find?, nop, prlr, isPure, pickR, optInt, rets, rv, rvs, PI, QW, IntKind.bits]
                  exact WkV.eq (by first | rfl | simp) (by first | trivial | (simp only [noix, noixL, NX, and_true, true_and]; done))
                | some ls =>
                  obtain ⟨rfl, rfl⟩ := hR5
                  have hc2 := hct ls rfl
                  clear hct
                  dsimp only
                  generalize countM ls lo hi M = K at *
                  simp (disch := omega) only [seval, ↓SDX, isRes, slEl, bslParts, mmAll, mmR, SUX, List.replicate, List.append, pr, lr, er, binR, ev, putA, List.set, intOf, takeAg, cellsOf, wrAll, partsOk, ones, one, isOne, wok1, findPE, List.find?, nop, prlr, isPure, pickR, optInt, rets, rv, rvs, PI, QW, hw2, hw3, IntKind.bits]
                  refine hc2.step0 rfl ?_
                  rintro v5 c5 ⟨v, o5, rfl, -, -, rfl, hag⟩
                  rcases hag with ⟨rfl, -, rfl⟩ | ⟨rfl, hag⟩
                  · dsimp only
                    by_cases hv : 0 < v
                    · simp (disch := omega) only [seval, ↓SDX, isRes, slEl, bslParts, mmAll, mmR, SUX, List.replicate, List.append, pr, lr, er, binR, ev, putA, List.set, intOf, takeAg, cellsOf, wrAll, partsOk, ones, one, isOne, wok1, findPE, List.find?, nop, prlr, isPure, pickR, optInt, rets, rv, rvs, PI, QW, IntKind.bits]
                      exact WkV.eq (by simp [hv]) ⟨trivial, trivial, trivial⟩
                    · simp (disch := omega) only [seval, ↓SDX, isRes, slEl, bslParts, mmAll, mmR, SUX, List.replicate, List.append, pr, lr, er, binR, ev, putA, List.set, intOf, takeAg, cellsOf, wrAll, partsOk, ones, one, isOne, wok1, findPE, List.find?, nop, prlr, isPure, pickR, optInt, rets, rv, rvs, PI, QW, IntKind.bits]
                      exact WkV.eq (by simp [hv]) ⟨trivial, trivial, trivial⟩
                  · have : K = none := by rcases hag with k | k; cases k; exact k
                    subst this
                    simp (disch := omega) only [seval, ↓SDX, isRes, slEl, bslParts, mmAll, mmR, SUX, List.replicate, List.append, pr, lr, er, binR, ev, putA, List.set, intOf, takeAg, cellsOf, wrAll, partsOk, ones, one, isOne, wok1, findPE, List.find?, nop, prlr, isPure, pickR, optInt, rets, rv, rvs, PI, QW, IntKind.bits]
                    exact WkV.eq (by first | rfl | simp) (by first | trivial | (simp only [noix, noixL, NX, and_true, true_and]; done))
              · have : RES = none := by rcases hag with k | k; cases k; exact k
                subst this
                have hch := I_calc_chain_over h.toIsA l s true
                have hlk : chainOk [l, s] := ⟨by simp, by simp, fun x hx => by
                  simp only [List.mem_cons, List.not_mem_nil, or_false] at hx
                  rcases hx with rfl | rfl
                  · exact ⟨hll1, hll2, hl.i⟩
                  · exact ⟨by omega, by omega, hsi⟩⟩
                have hc2 := I_sturm_count_or h.toIsA true [l, s] lo hi M hlk y1 y2 (by omega)
                clear hl hsl hsi hlk
                generalize hls : [l, s] = ls at *
                generalize countM ls lo hi M = K at *
                simp (disch := omega) only [seval, ↓SDX, isRes, slEl, bslParts, mmAll, mmR, SUX, List.replicate, List.append, pr, lr, er, binR, ev, putA, List.set, intOf, takeAg, cellsOf, wrAll, partsOk, ones, one, isOne, wok1, findPE, List.find?, nop, prlr, isPure, pickR, optInt, rets, rv, rvs, PI, QW, hw2, IntKind.bits]
                refine hch.step (seg := [.raw (.bool true), .raw (.slice none 0 0)]) rfl (by show 0 + 1 ≤ 2; decide) rfl ?_
                rintro v4 c4 ⟨rfl, rfl⟩
                simp (disch := omega) only [seval, ↓SDX, isRes, slEl, bslParts, mmAll, mmR, SUX, List.replicate, List.append, pr, lr, er, binR, ev, putA, List.set, intOf, takeAg, cellsOf, wrAll, partsOk, ones, one, isOne, wok1, findPE, List.find?, nop, prlr, isPure, pickR, optInt, rets, rv, rvs, PI, QW, hw2, hw3, IntKind.bits]
                refine hc2.step0 rfl ?_
                rintro v5 c5 ⟨v, o5, rfl, -, -, rfl, hag⟩
                have : o5 = true := by rcases hag with ⟨-, k, -⟩ | ⟨k, -⟩; cases k; exact k
                subst this
                simp (disch := omega) only [seval, ↓SDX, isRes, slEl, bslParts, mmAll, mmR, SUX, List.replicate, List.append, pr, lr, er, binR, ev, putA, List.set, intOf, takeAg, cellsOf, wrAll, partsOk, ones, one, isOne, wok1, findPE, List.find?, nop, prlr, isPure, pickR, optInt, rets, rv, rvs, PI, QW, IntKind.bits]
                exact WkV.eq (by first | rfl | simp) (by first | trivial | (simp only [noix, noixL, NX, and_true, true_and]; done))
end
end Go.Proofs.Lite

namespace Go.Proofs.Lite
open Go
section
variable {P : Program} {F : FnsB} (h : IsB P F)
include h
set_option maxRecDepth 20000 in
theorem W_FnExactCommonParts_pf (hcl : callable P F.I_ValidPoly_1 = true) (p : List Int) (hlp : p.length ≤ 9223372036854775807) (q : List Int) (hlq : q.length ≤ 9223372036854775807) (n1 : Bool) (A1 : Nat) (n2 : Bool) (A2 : Nat) (px : Int) (n3 : Bool) (A3 : Nat) (n4 : Bool) (A4 : Nat) (py : Int) :
    Pf P F.W_FnExactCommonParts [roI p, roI q, .agg (pc n1 A1 n2 A2 px), .agg (pc n3 A3 n4 A4 py)] (.raw (.bool true)) := by
  refine pf_of h.W_FnExactCommonParts ⟨trivial, trivial, noixL_pc .., noixL_pc .., trivial⟩ trivial ?_
  by_cases h1 : p.length ≤ 1048576
  case neg =>
    have h2 : 1048576 < p.length := by omega
    clear h1
    simp (disch := omega) only [seval, ↓SDX, isRes, slEl, bslParts, mmAll, mmR, SUX, List.replicate, List.append, pr, lr, er, binR, ev, putA, List.set, intOf, takeAg, cellsOf, wrAll, partsOk, ones, one, isOne, wok1, findPE, List.find?, nop, prlr, isPure, pickR, optInt, rets, rv, rvs, W_FnExactCommonParts_c, PI, PW, QW, IntKind.bits]
    exact WkV.eq (by first | rfl | simp) (by first | trivial | (simp only [noix, noixL, NX, and_true, true_and]; done))
  by_cases h2 : q.length ≤ 1048576
  case neg =>
    have h3 : 1048576 < q.length := by omega
    clear h2
    simp (disch := omega) only [seval, ↓SDX, isRes, slEl, bslParts, mmAll, mmR, SUX, List.replicate, List.append, pr, lr, er, binR, ev, putA, List.set, intOf, takeAg, cellsOf, wrAll, partsOk, ones, one, isOne, wok1, findPE, List.find?, nop, prlr, isPure, pickR, optInt, rets, rv, rvs, W_FnExactCommonParts_c, PI, PW, QW, IntKind.bits]
    exact WkV.eq (by first | rfl | simp) (by first | trivial | (simp only [noix, noixL, NX, and_true, true_and]; done))
  have t1 := W_toInt64S_pf h.toIsA p h1
  have t2 := W_toInt64S_pf h.toIsA q h2
  have t3 := W_toPart_pf h.toIsA n1 A1 n2 A2 px
  have t4 := W_toPart_pf h.toIsA n3 A3 n4 A4 py
  have t5 := S_CommonParts_pf h p q h1 h2 n1 A1 n2 A2 px n3 A3 n4 A4 py
  have t6 := I_CommonParts_pf h hcl p q h1 h2 n1 A1 n2 A2 px n3 A3 n4 A4 py
  have t7 := W_eqInt64S_pf h.toIsA p h1
  have t8 := W_eqInt64S_pf h.toIsA q h2
  generalize cpM p q n1 A1 n2 A2 px n3 A3 n4 A4 py = R at *
  obtain ⟨b, c⟩ := R
  dsimp only at t5 t6
  simp (disch := omega) only [seval, ↓SDX, isRes, slEl, bslParts, mmAll, mmR, SUX, List.replicate, List.append, pr, lr, er, binR, ev, putA, List.set, intOf, takeAg, cellsOf, wrAll, partsOk, ones, one, isOne, wok1, findPE, List.find?, nop, prlr, isPure, pickR, optInt, rets, rv, rvs, W_FnExactCommonParts_c, PI, PW, QW, IntKind.bits]
  refine t1.step ?_
  simp (disch := omega) only [seval, ↓SDX, isRes, slEl, bslParts, mmAll, mmR, SUX, List.replicate, List.append, pr, lr, er, binR, ev, putA, List.set, intOf, takeAg, cellsOf, wrAll, partsOk, ones, one, isOne, wok1, findPE, List.find?, nop, prlr, isPure, pickR, optInt, rets, rv, rvs, PI, PW, QW, IntKind.bits]
  refine t2.step ?_
  simp (disch := omega) only [seval, ↓SDX, isRes, slEl, bslParts, mmAll, mmR, SUX, List.replicate, List.append, pr, lr, er, binR, ev, putA, List.set, intOf, takeAg, cellsOf, wrAll, partsOk, ones, one, isOne, wok1, findPE, List.find?, nop, prlr, isPure, pickR, optInt, rets, rv, rvs, PI, PW, QW, IntKind.bits]
  refine t3.step ?_
  simp (disch := omega) only [seval, ↓SDX, isRes, slEl, bslParts, mmAll, mmR, SUX, List.replicate, List.append, pr, lr, er, binR, ev, putA, List.set, intOf, takeAg, cellsOf, wrAll, partsOk, ones, one, isOne, wok1, findPE, List.find?, nop, prlr, isPure, pickR, optInt, rets, rv, rvs, PI, PW, QW, IntKind.bits]
  refine t4.step ?_
  simp (disch := omega) only [seval, ↓SDX, isRes, slEl, bslParts, mmAll, mmR, SUX, List.replicate, List.append, pr, lr, er, binR, ev, putA, List.set, intOf, takeAg, cellsOf, wrAll, partsOk, ones, one, isOne, wok1, findPE, List.find?, nop, prlr, isPure, pickR, optInt, rets, rv, rvs, PI, PW, QW, IntKind.bits]
  refine t5.step ?_
  simp (disch := omega) only [seval, ↓SDX, isRes, slEl, bslParts, mmAll, mmR, SUX, List.replicate, List.append, pr, lr, er, binR, ev, putA, List.set, intOf, takeAg, cellsOf, wrAll, partsOk, ones, one, isOne, wok1, findPE, List.find?, nop, prlr, isPure, pickR, optInt, rets, rv, rvs, PI, PW, QW, IntKind.bits]
  refine t1.step ?_
  simp (disch := omega) only [seval, ↓SDX, isRes, slEl, bslParts, mmAll, mmR, SUX, List.replicate, List.append, pr, lr, er, binR, ev, putA, List.set, intOf, takeAg, cellsOf, wrAll, partsOk, ones, one, isOne, wok1, findPE, List.find?, nop, prlr, isPure, pickR, optInt, rets, rv, rvs, PI, PW, QW, IntKind.bits]
  refine t2.step ?_
  simp (disch := omega) only [seval, ↓SDX, isRes, slEl, bslParts, mmAll, mmR, SUX, List.replicate, List.append, pr, lr, er, binR, ev, putA, List.set, intOf, takeAg, cellsOf, wrAll, partsOk, ones, one, isOne, wok1, findPE, List.find?, nop, prlr, isPure, pickR, optInt, rets, rv, rvs, PI, PW, QW, IntKind.bits]
  refine t3.step ?_
  simp (disch := omega) only [seval, ↓SDX, isRes, slEl, bslParts, mmAll, mmR, SUX, List.replicate, List.append, pr, lr, er, binR, ev, putA, List.set, intOf, takeAg, cellsOf, wrAll, partsOk, ones, one, isOne, wok1, findPE, List.find?, nop, prlr, isPure, pickR, optInt, rets, rv, rvs, PI, PW, QW, IntKind.bits]
  refine t4.step ?_
  simp (disch := omega) only [seval, ↓SDX, isRes, slEl, bslParts, mmAll, mmR, SUX, List.replicate, List.append, pr, lr, er, binR, ev, putA, List.set, intOf, takeAg, cellsOf, wrAll, partsOk, ones, one, isOne, wok1, findPE, List.find?, nop, prlr, isPure, pickR, optInt, rets, rv, rvs, PI, PW, QW, IntKind.bits]
  refine t6.step ?_
  simp (disch := omega) only [seval, ↓SDX, isRes, slEl, bslParts, mmAll, mmR, SUX, List.replicate, List.append, pr, lr, er, binR, ev, putA, List.set, intOf, takeAg, cellsOf, wrAll, partsOk, ones, one, isOne, wok1, findPE, List.find?, nop, prlr, isPure, pickR, optInt, rets, rv, rvs, PI, PW, QW, bne_self_eq_false, IntKind.bits]
  refine t1.step ?_
  simp (disch := omega) only [seval, ↓SDX, isRes, slEl, bslParts, mmAll, mmR, SUX, List.replicate, List.append, pr, lr, er, binR, ev, putA, List.set, intOf, takeAg, cellsOf, wrAll, partsOk, ones, one, isOne, wok1, findPE, List.find?, nop, prlr, isPure, pickR, optInt, rets, rv, rvs, PI, PW, QW, IntKind.bits]
  refine t7.step ?_
  simp (disch := omega) only [seval, ↓SDX, isRes, slEl, bslParts, mmAll, mmR, SUX, List.replicate, List.append, pr, lr, er, binR, ev, putA, List.set, intOf, takeAg, cellsOf, wrAll, partsOk, ones, one, isOne, wok1, findPE, List.find?, nop, prlr, isPure, pickR, optInt, rets, rv, rvs, PI, PW, QW, IntKind.bits]
  refine t2.step ?_
  simp (disch := omega) only [seval, ↓SDX, isRes, slEl, bslParts, mmAll, mmR, SUX, List.replicate, List.append, pr, lr, er, binR, ev, putA, List.set, intOf, takeAg, cellsOf, wrAll, partsOk, ones, one, isOne, wok1, findPE, List.find?, nop, prlr, isPure, pickR, optInt, rets, rv, rvs, PI, PW, QW, IntKind.bits]
  refine t8.step ?_
  simp (disch := omega) only [seval, ↓SDX, isRes, slEl, bslParts, mmAll, mmR, SUX, List.replicate, List.append, pr, lr, er, binR, ev, putA, List.set, intOf, takeAg, cellsOf, wrAll, partsOk, ones, one, isOne, wok1, findPE, List.find?, nop, prlr, isPure, pickR, optInt, rets, rv, rvs, PI, PW, QW, IntKind.bits]
  exact WkV.eq (by first | rfl | simp) (by first | trivial | (simp only [noix, noixL, NX, and_true, true_and]; done))
end
end Go.Proofs.Lite

namespace Go.Proofs.Lite
open Go Go.RowKit Go.ChangeShapes Go.WideShapes
noncomputable def storeOf (W : World) : Store := fun a => W.cell? a
theorem inv0_start (W : World) : Inv0 (storeOf W) [] [] W :=
  ⟨rfl, fun _ _ h => h, fun i cs h => by simp at h, fun i cs h => by simp at h, fun i h => by simp at h, fun i j li lj _ h => by rcases h with ⟨c, h⟩ | ⟨c, h⟩ <;> simp at h⟩
section
variable {P : Program}
/-- What cells of a type are known to be, when they are read as data. -/
def ReadsC (P : Program) (t : TypeId) (S : List AV → Prop) : Prop :=
  ∀ (H : Type) (enc : TypeId × Value → H) (W : World) (sp : Nat → Bool) (held : Bool) (fuel : Nat) (cs : List Value) (x : DataW H × List MemPlace), DataW.trod enc P W 0 sp held fuel t cs = some x → ∃ as, S as ∧ RepL (storeOf W) [] as cs
theorem readsC_int {t : TypeId} {k : IntKind} (ht : P.underlying t = some (.int k)) : ReadsC P t (fun as => ∃ n, (Lit.int k n).wf = true ∧ as = [.raw (.int k n)]) := by
  intro H enc W sp held fuel cs x h
  obtain ⟨n, rfl, -, hw⟩ := DataW.trod_int ht h
  exact ⟨_, ⟨n, hw, rfl⟩, by simp [RepL, Rep]⟩
theorem readsC_bool {t : TypeId} (ht : P.underlying t = some .bool) : ReadsC P t (fun as => ∃ b, as = [.raw (.bool b)]) := by
  intro H enc W sp held fuel cs x h
  obtain ⟨n, rfl, -⟩ := DataW.trod_bool ht h
  exact ⟨_, ⟨n, rfl⟩, by simp [RepL, Rep]⟩
/-- Pieces one behind the other. -/
theorem repL_flatten {D : Store} {z : Nat} {S : List AV → Prop} : ∀ {n : Nat} {cs : List Value}, cs.length = n * z → (∀ i, i < n → ∃ as, S as ∧ RepL D [] as ((cs.drop (i * z)).take z)) →
    ∃ parts : List (List AV), parts.length = n ∧ (∀ p ∈ parts, S p ∧ p.length = z) ∧ RepL D [] parts.flatten cs
  | 0, cs, hl, _ => ⟨[], rfl, fun p hp => (by cases hp), by have : cs = [] := List.length_eq_zero_iff.1 (by omega); subst this; simp [RepL]⟩
  | n + 1, cs, hl, h => by
    obtain ⟨a, ha, hr⟩ := h 0 (by omega)
    rw [Nat.zero_mul, List.drop_zero] at hr
    have hl2 : (cs.drop z).length = n * z := by rw [List.length_drop, hl, Nat.succ_mul]; omega
    obtain ⟨parts, h1, h2, h3⟩ := repL_flatten (D := D) (S := S) hl2 (fun i hi => by
      obtain ⟨b, hb, hb2⟩ := h (i + 1) (by omega)
      refine ⟨b, hb, ?_⟩
      rw [List.drop_drop, show z + i * z = (i + 1) * z from by rw [Nat.succ_mul]; omega]
      exact hb2)
    have hal : a.length = z := by
      have := hr.length
      rw [List.length_take, hl, Nat.succ_mul] at this
      omega
    refine ⟨a :: parts, by simp [h1], ?_, ?_⟩
    · intro p hp
      rcases List.mem_cons.1 hp with rfl | hp
      · exact ⟨ha, hal⟩
      · exact h2 p hp
    · have := hr.append h3
      rwa [List.take_append_drop] at this
theorem readsC_array {t e : TypeId} {n z : Nat} {S : List AV → Prop} (ht : P.underlying t = some (.array n e)) (hz : P.cellsOf e = z) (hn : P.cellsOf t = n * z) (he : ReadsC P e S) :
    ReadsC P t (fun as => ∃ parts : List (List AV), parts.length = n ∧ (∀ p ∈ parts, S p ∧ p.length = z) ∧ as = parts.flatten) := by
  intro H enc W sp held fuel cs x h
  obtain ⟨xs, m, -, -, hl, hxs, hi⟩ := DataW.trod_array ht h
  rw [hn] at hl
  rw [hz] at hi
  obtain ⟨parts, h1, h2, h3⟩ := repL_flatten (D := storeOf W) (S := S) hl (fun i hin => by
    have := hi i hin
    rw [List.getElem?_eq_getElem (by omega)] at this
    exact he H enc W sp held m _ _ this)
  exact ⟨_, ⟨parts, h1, h2, rfl⟩, h3⟩
/-- Fields one behind the other. -/
def FieldsS : List (List AV → Prop) → List AV → Prop
  | [], as => as = []
  | S :: r, as => ∃ a b, S a ∧ FieldsS r b ∧ as = a ++ b
inductive ReadsFs (P : Program) : Nat → Nat → List Field → List (List AV → Prop) → Prop
  | nil {o : Nat} : ReadsFs P o o [] []
  | cons {o o' : Nat} {f : Field} {fs : List Field} {S : List AV → Prop} {Ss : List (List AV → Prop)} (z : Nat) : f.offset = o → P.cellsOf f.type = z → ReadsC P f.type S → ReadsFs P (o + z) o' fs Ss → ReadsFs P o o' (f :: fs) (S :: Ss)
theorem ReadsFs.rep {o o' : Nat} {fs : List Field} {Ss : List (List AV → Prop)} (h : ReadsFs P o o' fs Ss) {H : Type} {enc : TypeId × Value → H} {W : World} {sp : Nat → Bool} {held : Bool} {fuel : Nat} {cs : List Value} (hl : cs.length = o')
    (hf : ∀ f ∈ fs, ∃ x, DataW.trod enc P W 0 sp held fuel f.type ((cs.drop f.offset).take (P.cellsOf f.type)) = some x) : ∃ as, FieldsS Ss as ∧ RepL (storeOf W) [] as (cs.drop o) := by
  induction h with
  | @nil o => exact ⟨[], rfl, by rw [List.drop_of_length_le (by omega)]; simp [RepL]⟩
  | @cons o o' f fs S Ss z h1 h2 h3 h4 ih =>
    obtain ⟨b, hb, hb2⟩ := ih hl (fun g hg => hf g (by simp [hg]))
    obtain ⟨x, hx⟩ := hf f (by simp)
    obtain ⟨a, ha, ha2⟩ := h3 H enc W sp held fuel _ _ hx
    rw [h1, h2] at ha2
    refine ⟨a ++ b, ⟨a, b, ha, hb, rfl⟩, ?_⟩
    have := ha2.append hb2
    rwa [show cs.drop (o + z) = (cs.drop o).drop z from by rw [List.drop_drop], List.take_append_drop] at this
theorem readsC_struct {t : TypeId} {fs : Array Field} {n : Nat} {Ss : List (List AV → Prop)} (ht : P.underlying t = some (.struct fs)) (hn : P.cellsOf t = n) (h : ReadsFs P 0 n fs.toList Ss) : ReadsC P t (FieldsS Ss) := by
  intro H enc W sp held fuel cs x hx
  obtain ⟨xs, m, -, -, hl, hxs, hi⟩ := DataW.trod_struct ht hx
  obtain ⟨as, h1, h2⟩ := h.rep (enc := enc) (W := W) (sp := sp) (held := held) (fuel := m) (cs := cs) (by omega) (fun f hf => by
    obtain ⟨i, hi1, hi2⟩ := List.getElem_of_mem hf
    have hg : fs[i]? = some f := by
      rw [← hi2]; simp
    have := hi i f hg
    rw [List.getElem?_eq_getElem (by rw [hxs]; simpa using hi1)] at this
    exact ⟨_, this⟩)
  exact ⟨as, h1, by simpa using h2⟩
theorem cells?_get {W : World} {a : Addr} {n : Nat} {cs : List Value} (h : W.cells? 0 a n = some cs) : cs.length = n ∧ ∀ k, k < n → ∃ v, cs[k]? = some v ∧ W.cell? (a.add k) = some v := by
  unfold World.cells? at h
  rw [if_pos (Nat.zero_le _)] at h
  have hl := mapM_some_length h
  rw [List.length_range] at hl
  refine ⟨hl, fun k hk => ?_⟩
  have := mapM_some_get h k k (by simp [hk])
  rw [List.getElem?_eq_getElem (by omega)] at this
  exact ⟨_, List.getElem?_eq_getElem (by omega), this⟩
theorem addr_at {a : Addr} {k : Nat} (h : a.spot = none) : a.add k = ⟨a.block, a.off + k, none⟩ := by
  unfold Addr.add
  split
  · rename_i e; subst e; rw [← h]; rfl
  · rfl
/-- Cells of the world stay in the world's known store. -/
theorem repRow_of {W : World} {a : Addr} : ∀ {as : List AV} {vs : List Value} (o : Nat), RepL (storeOf W) [] as vs → (∀ k v, vs[k]? = some v → W.cell? ⟨a.block, a.off + (o + k), none⟩ = some v ∧ a.spot = none) → RepRow (storeOf W) (some a) o as
  | [], [], _, _, _ => by simp [RepRow]
  | c :: as, v :: vs, o, h, hc => by
    simp only [RepL] at h
    simp only [RepRow]
    obtain ⟨h1, h2⟩ := hc 0 v rfl
    refine ⟨⟨a, v, rfl, h2, h1, h.1⟩, repRow_of (o + 1) h.2 (fun k v hk => ?_)⟩
    obtain ⟨h3, h4⟩ := hc (k + 1) v (by simpa using hk)
    exact ⟨by rw [show o + 1 + k = o + (k + 1) from by omega]; exact h3, h4⟩
  | [], _ :: _, _, h, _ => by simp [RepL] at h
  | _ :: _, [], _, h, _ => by simp [RepL] at h
theorem readsC_slice {t e : TypeId} {z : Nat} {S : List AV → Prop} (ht : P.underlying t = some (.slice e)) (hz : P.cellsOf e = z) (he : ReadsC P e S) :
    ReadsC P t (fun as => ∃ parts : List (List AV), parts.length ≤ 9223372036854775807 ∧ (∀ p ∈ parts, S p ∧ p.length = z) ∧ as = [.ro z parts.length parts.flatten]) := by
  intro H enc W sp held fuel cs x h
  rcases DataW.trod_slice ht h with ⟨rfl, -⟩ | ⟨a, len, cap, elems, rest, n, -, rfl, -, -, hlc, hcm, hel, hi, -, -⟩
  · exact ⟨_, ⟨[], by simp, fun p hp => (by cases hp), rfl⟩, by simp [RepL, Rep, RepRow]⟩
  · rw [hz] at hi
    -- the cells of all elements
    have each : ∀ i, i < len → ∃ cs, W.cells? 0 (a.add (i * z)) z = some cs ∧ ∃ as, S as ∧ RepL (storeOf W) [] as cs := by
      intro i hil
      have := hi i hil
      rw [List.getElem?_eq_getElem (by omega), Option.bind_eq_some_iff] at this
      obtain ⟨cs, h1, h2⟩ := this
      exact ⟨cs, h1, he H enc W sp held n _ _ h2⟩
    have key : ∀ m, m ≤ len → ∃ parts : List (List AV), parts.length = m ∧ (∀ p ∈ parts, S p ∧ p.length = z) ∧ RepRow (storeOf W) (some a) 0 parts.flatten := by
      intro m
      induction m with
      | zero => intro _; exact ⟨[], rfl, fun p hp => (by cases hp), by simp [RepRow]⟩
      | succ m ih =>
        intro hm
        obtain ⟨parts, h1, h2, h3⟩ := ih (by omega)
        obtain ⟨cs, hcs, as, hs, hr⟩ := each m (by omega)
        obtain ⟨hl, hg⟩ := cells?_get hcs
        have hal : as.length = z := by rw [hr.length, hl]
        have hfl : parts.flatten.length = m * z := by
          rw [← h1]
          clear h3 hr hs h1
          induction parts with
          | nil => simp
          | cons p ps ih2 =>
            rw [List.flatten_cons, List.length_append, ih2 (fun q hq => h2 q (by simp [hq])), (h2 p (by simp)).2, List.length_cons, Nat.succ_mul]; omega
        refine ⟨parts ++ [as], by simp [h1], ?_, ?_⟩
        · intro p hp
          rcases List.mem_append.1 hp with hp | hp
          · exact h2 p hp
          · simp at hp; subst hp; exact ⟨hs, hal⟩
        · rw [List.flatten_append]
          have hrow : RepRow (storeOf W) (some a) (m * z) as := by
            refine repRow_of (m * z) hr (fun k v hk => ?_)
            have hkz : k < z := by
              have := (List.getElem?_eq_some_iff.1 hk).1; omega
            obtain ⟨v', h5, h6⟩ := hg k hkz
            rw [hk] at h5; injection h5 with h5; subst h5
            have hspot : a.spot = none := by
              have h7 := each 0 (by omega)
              obtain ⟨cs0, hcs0, -⟩ := h7
              obtain ⟨-, hg0⟩ := cells?_get hcs0
              obtain ⟨v0, -, h8⟩ := hg0 0 (by omega)
              have : (a.add (0 * z)).add 0 = a := by simp [Addr.add]
              rw [this] at h8
              exact World.cell?_spot h8
            refine ⟨?_, hspot⟩
            rw [addr_at hspot] at h6
            rw [addr_at (by rfl)] at h6
            simpa [Nat.add_assoc] using h6
          refine RepRow.of_get (fun i c hc => ?_)
          by_cases hlt : i < parts.flatten.length
          · rw [List.getElem?_append_left hlt] at hc
            exact h3.get hc
          · rw [List.getElem?_append_right (by omega)] at hc
            simp only [List.flatten_cons, List.flatten_nil, List.append_nil] at hc
            have := hrow.get hc
            rw [hfl] at this
            rw [hfl] at hlt
            rwa [show m * z + (i - m * z) = 0 + i from by omega] at this
    obtain ⟨parts, h1, h2, h3⟩ := key len (Nat.le_refl _)
    refine ⟨_, ⟨parts, by rw [h1]; exact Nat.le_trans hlc hcm, h2, rfl⟩, ?_⟩
    simp only [RepL, Rep, and_true]
    refine ⟨some a, cap, by rw [h1], by rw [h1]; exact hlc, ?_, h3⟩
    clear h3 h1
    induction parts with
    | nil => simp
    | cons p ps ih2 =>
      rw [List.flatten_cons, List.length_append, ih2 (fun q hq => h2 q (by simp [hq])), (h2 p (by simp)).2, List.length_cons, Nat.succ_mul]; omega
/-- The same of a value that is handed over. -/
def ReadsV (P : Program) (t : TypeId) (S : AV → Prop) : Prop :=
  ∀ (H : Type) (enc : TypeId × Value → H) (W : World) (sp : Nat → Bool) (held : Bool) (r : Reach) (b0 : Nat) (v : Value) (d : DataW H) (ps : List MemPlace), Value.okWide P W r b0 t v → DataW.Trod enc P W 0 sp held t v d ps → ∃ a, S a ∧ Rep (storeOf W) [] a v
theorem readsV_struct {t : TypeId} {fs : Array Field} {S : List AV → Prop} (ht : P.underlying t = some (.struct fs)) (h : ReadsC P t S) : ReadsV P t (fun a => ∃ as, S as ∧ a = .agg as) := by
  intro H enc W sp held r b0 v d ps hok hd
  obtain ⟨cs, rfl, -⟩ := okWide_struct ht hok
  obtain ⟨fuel, hf⟩ := hd
  obtain ⟨as, h1, h2⟩ := h H enc W sp held fuel _ _ hf
  exact ⟨_, ⟨as, h1, rfl⟩, by simp only [Rep]; exact ⟨cs.toList, by simp, h2⟩⟩
theorem readsV_slice {t e : TypeId} {S : List AV → Prop} (ht : P.underlying t = some (.slice e)) (h : ReadsC P t S) : ReadsV P t (fun a => S [a]) := by
  intro H enc W sp held r b0 v d ps hok hd
  obtain ⟨a, l, c, rfl⟩ := okWide_slice ht hok
  obtain ⟨fuel, hf⟩ := hd
  obtain ⟨as, h1, h2⟩ := h H enc W sp held fuel _ _ hf
  cases as with
  | nil => simp [RepL, Value.cells] at h2
  | cons a' as => cases as with
    | nil => simp only [Value.cells, RepL, and_true] at h2; exact ⟨a', h1, h2⟩
    | cons => simp [RepL, Value.cells] at h2
def ReadsAll (P : Program) : List TypeId → List (AV → Prop) → Prop
  | [], [] => True
  | t :: ts, S :: Ss => ReadsV P t S ∧ ReadsAll P ts Ss
  | _, _ => False
def AllS : List (AV → Prop) → List AV → Prop
  | [], [] => True
  | S :: Ss, a :: as => S a ∧ AllS Ss as
  | _, _ => False
theorem readsAll_rep {H : Type} {enc : TypeId × Value → H} {W : World} {sp : Nat → Bool} {held : Bool} {r : Reach} {b0 : Nat} : ∀ {ts : List TypeId} {Ss : List (AV → Prop)} {vs : List Value} {ds : List (DataW H)} {ps : List MemPlace}, ReadsAll P ts Ss →
    DataW.TrodAll enc P W 0 sp held ts vs ds ps → (∀ (j : Nat) t v, ts[j]? = some t → vs[j]? = some v → Value.okWide P W r b0 t v) → ∃ as, AllS Ss as ∧ RepL (storeOf W) [] as vs
  | [], [], vs, ds, ps, _, h, _ => by
    obtain ⟨rfl, rfl, rfl⟩ := trodAll_nil h
    exact ⟨[], trivial, by simp [RepL]⟩
  | t :: ts, S :: Ss, vs, ds, ps, hR, h, hval => by
    obtain ⟨v, vs', d, ds', p, q, rfl, rfl, rfl, h1, h2⟩ := trodAll_cons h
    obtain ⟨a, ha, ha2⟩ := hR.1 H enc W sp held r b0 v d p (hval 0 t v rfl rfl) h1
    obtain ⟨as, has, has2⟩ := readsAll_rep hR.2 h2 (fun j t v h3 h4 => hval (j + 1) t v (by simpa using h3) (by simpa using h4))
    exact ⟨a :: as, ⟨ha, has⟩, by simp only [RepL]; exact ⟨ha2, has2⟩⟩
  | [], _ :: _, _, _, _, h, _, _ => h.elim
  | _ :: _, [], _, _, _, h, _, _ => h.elim
theorem trodAll_stays (hl : laidOutB P = true) {H : Type} {enc : TypeId × Value → H} {W W' : World} (hb : Below W.heap.size W W') {sp : Nat → Bool} : ∀ {ts : List TypeId} {vs : List Value} {ds : List (DataW H)} {ps : List MemPlace},
    (∀ t ∈ ts, P.readableRec t = true ∧ t < P.types.size) → DataW.TrodAll enc P W 0 (fun _ => true) true ts vs ds ps → (∀ x ∈ ps, x.block < W.heap.size) → (∀ x ∈ ps, sp x.block = true) → DataW.TrodAll enc P W' 0 sp true ts vs ds ps
  | [], vs, ds, ps, _, h, _, _ => by
    obtain ⟨rfl, rfl, rfl⟩ := trodAll_nil h
    exact trodAll_mk0
  | t :: ts, vs, ds, ps, hr, h, hlt, hsp => by
    obtain ⟨v, vs', d, ds', p, q, rfl, rfl, rfl, h1, h2⟩ := trodAll_cons h
    obtain ⟨hr1, hr2⟩ := hr t (by simp)
    exact trodAll_cons_mk (WideElems.Trod_stays hl hr1 hr2 h1 (fun x hx => hb.same (hlt x (by simp [hx]))) (fun x hx => hsp x (by simp [hx])))
      (trodAll_stays hl hb (fun t ht => hr t (by simp [ht])) h2 (fun x hx => hlt x (by simp [hx])) (fun x hx => hsp x (by simp [hx])))
/-- What a law's row asks behind the call: the arguments as they were. -/
theorem post_old {f : Func} {s : ChangeSpec} {apart fresh handsOn again : Bool} {H : Type} {enc : TypeId × Value → H} {W W' : World} {args : Array Value} {v : Value} {ds gs : List (DataW H)} {before pa pv : List MemPlace}
    (hW : DataW.Whole enc P f.params.toList s.vars apart W args.toList ds gs before)
    (hres : ∀ (b : Nat) (sp : Nat → Bool) (hd : Bool), DataW.TrodAll enc P W' b sp hd f.resultTypes.toList (v.resultList f.resultTypes.size) (s.fn H (ds ++ gs)).results [])
    (hargs : ∀ sp : Nat → Bool, (∀ p ∈ before, sp p.block = true) → DataW.TrodAll enc P W' 0 sp true f.params.toList args.toList (s.fn H (ds ++ gs)).args pa)
    (hvars : ∀ sp : Nat → Bool, (∀ p ∈ before, sp p.block = true) → DataW.TrodVars enc P W' sp s.vars (s.fn H (ds ++ gs)).vars pv)
    (hps : before = pa ++ pv) (hb : Below W.heap.size W W')
    (hok : ∀ (j : Nat) (t : TypeId) (r : Value), f.resultTypes[j]? = some t → (v.resultList f.resultTypes.size)[j]? = some r → Value.okWide P W' .any 0 t r) :
    s.post enc P f apart fresh handsOn again W args v W' := by
  subst hps
  have hlt := hW.lt
  have hold : ∀ p ∈ pa ++ pv, (fun b => decide (b < W.heap.size)) p.block = true := fun p hp => by simpa using hlt p hp
  have hkeep := hW
  obtain ⟨_, _, _, _, _, hz, hn⟩ := hW
  have whole : ∀ b sp hd, DataW.TrodAll enc P W' b sp hd f.resultTypes.toList (v.resultList f.resultTypes.size) (s.fn H (ds ++ gs)).results [] := hres
  refine ⟨ds, gs, pa ++ pv, [], pa, pv, hkeep, whole _ _ _, hargs _ hold, hvars _ hold, World.keptBut_mono (fun p hp => ⟨hp, .inr (List.mem_append.1 hp)⟩) (hb.frame (· ∈ pa ++ pv)), fun _ => ⟨hok, _, _, ([] ++ pa) ++ pv, ⟨[] ++ pa, pv, trodAll_append (hargs _ (fun _ _ => rfl)) (whole _ _ _), hvars _ (fun _ _ => rfl), rfl, ?_, ?_⟩, ?_⟩⟩
  · intro b off hp
    rw [List.nil_append] at hp
    rw [hb.frozen (hlt _ hp)]
    exact hz b off hp
  · intro ha
    simpa using hn ha
  · intro p hp _
    simpa using hp
/-- The contract of a law's row, out of a contract over what is known. -/
theorem law_contract {fid : FuncId} {f : Func} {s : ChangeSpec} {ts : List TypeId} {Ss : List (AV → Prop)} {tb : TypeId} {fresh handsOn again : Bool} (hts : f.params.toList = ts) (hR : ReadsAll P ts Ss) (hl : laidOutB P = true) (hr : ∀ t ∈ ts, P.readableRec t = true ∧ t < P.types.size)
    (hres : f.resultTypes = #[tb]) (htb : P.underlying tb = some .bool) (hv : s.vars = []) (hfn : ∀ (H : Type) (ds : List (DataW H)), ds.length = ts.length → (s.fn H ds).results = [.lit (.bool true)] ∧ (s.fn H ds).args = ds ∧ (s.fn H ds).vars = [])
    (hct : ∀ as, AllS Ss as → Ct P fid as [] (fun v H' => H' = [] ∧ v = .raw (.bool true)))
    {H : Type} {enc : TypeId × Value → H} {W : World} {base : Nat} {args : Array Value} {ds gs : List (DataW H)} {before : List MemPlace}
    (hval : ∀ (j : Nat) t v, f.params[j]? = some t → args[j]? = some v → Value.okWide P W .any base t v) (hW : DataW.Whole enc P f.params.toList s.vars false W args.toList ds gs before) :
    Calls P fid args W fun e W' => ∃ v, e = .returned v ∧ s.post enc P f false fresh handsOn again W args v W' := by
  have hW' := hW
  obtain ⟨p, q, hA, hV, rfl, hfz, hnd⟩ := hW
  rw [hv] at hV
  obtain ⟨rfl, rfl⟩ := trodVars_none hV
  have hA' := hA
  rw [hts] at hA
  obtain ⟨as, has, hrep⟩ := readsAll_rep hR hA (fun j t v h1 h2 => hval j t v (by rw [← hts] at h1; simpa using h1) (by simpa using h2))
  have hlen : ds.length = ts.length := by
    clear hval hW' hfz hnd hV hA' hrep has hts hR hr hfn hct
    generalize args.toList = vs at hA
    induction ts generalizing vs ds p with
    | nil => obtain ⟨-, rfl, -⟩ := trodAll_nil hA; rfl
    | cons t ts ih =>
      obtain ⟨v, vs', d, ds', p', q', rfl, rfl, rfl, h1, h2⟩ := trodAll_cons hA
      simp [ih _ _ h2]
  obtain ⟨f1, f2, f3⟩ := hfn H (ds ++ []) (by simpa using hlen)
  have hcall := hct as has (storeOf W) [] W args.toList (inv0_start W) hrep
  rw [Array.toArray_toList] at hcall
  refine hcall.mono ?_
  rintro e W' ⟨v, x, D', ρ', H', rfl, hx, ⟨rfl, rfl⟩, hb⟩
  simp only [Rep] at hx
  subst hx
  have hfr : Fr (fun _ => False) W W' := by
    have := hb.fr
    have e : InH [] ([] : Heap) = fun _ => False := by
      funext a
      apply propext
      constructor
      · rintro ⟨i, l, j, hL, -⟩
        rcases hL with ⟨c, h⟩ | ⟨c, h⟩ <;> simp at h
      · exact False.elim
    rw [← e]; exact this
  have hbel := hfr.below
  refine ⟨_, rfl, post_old (pa := p) (pv := []) hW' (fun b sp hd => ?_) (fun sp hsp => ?_) (fun sp hsp => ?_) (by simp) hbel (ok_one hres rfl (okWide_bool_mk htb _))⟩
  · rw [f1, hres]
    exact trodAll_mk1 (shut_bool htb _)
  · rw [f2, hts, List.append_nil]
    exact trodAll_stays hl hbel hr hA (fun x hx => hW'.lt x (by simpa using hx)) (fun x hx => hsp x (by simpa using hx))
  · rw [f3, hv]; exact rfl
end
end Go.Proofs.Lite

namespace Go.Proofs.Lite
open Go Go.RowKit Go.ChangeShapes Go.WideShapes
theorem wf_i64 {n : Int} (h : (Lit.int .i64 n).wf = true) : -9223372036854775808 ≤ n ∧ n < 9223372036854775808 := by
  have : -9223372036854775808 ≤ n ∧ n ≤ 9223372036854775807 := by simpa [Lit.wf, IntKind.min, IntKind.max, IntKind.signed, IntKind.bits] using h
  omega
theorem wf_u32 {n : Int} (h : (Lit.int .u32 n).wf = true) : 0 ≤ n ∧ n < 4294967296 := by
  have : 0 ≤ n ∧ n ≤ 4294967295 := by simpa [Lit.wf, IntKind.min, IntKind.max, IntKind.signed, IntKind.bits] using h
  omega
section
variable {P : Program}
theorem ReadsC.mono {t : TypeId} {S S' : List AV → Prop} (h : ReadsC P t S) (hs : ∀ as, S as → S' as) : ReadsC P t S' := by
  intro H enc W sp held fuel cs x hx
  obtain ⟨as, h1, h2⟩ := h H enc W sp held fuel cs x hx
  exact ⟨as, hs as h1, h2⟩
theorem ReadsV.mono {t : TypeId} {S S' : AV → Prop} (h : ReadsV P t S) (hs : ∀ a, S a → S' a) : ReadsV P t S' := by
  intro H enc W sp held r b0 v d ps h1 h2
  obtain ⟨a, h3, h4⟩ := h H enc W sp held r b0 v d ps h1 h2
  exact ⟨a, hs a h3, h4⟩
theorem parts_u32 : ∀ {parts : List (List AV)}, (∀ p ∈ parts, (∃ n, (Lit.int .u32 n).wf = true ∧ p = [.raw (.int .u32 n)]) ∧ p.length = 1) → ∃ l : List Nat, l.length = parts.length ∧ Lim l ∧ parts.flatten = u32s l
  | [], _ => ⟨[], rfl, fun x hx => (by cases hx), rfl⟩
  | p :: ps, h => by
    obtain ⟨⟨n, hn, rfl⟩, -⟩ := h p (by simp)
    obtain ⟨l, h1, h2, h3⟩ := parts_u32 (parts := ps) (fun q hq => h q (by simp [hq]))
    obtain ⟨w1, w2⟩ := wf_u32 hn
    refine ⟨n.toNat :: l, by simp [h1], ?_, ?_⟩
    · intro x hx
      rcases List.mem_cons.1 hx with rfl | hx
      · omega
      · exact h2 x hx
    · rw [List.flatten_cons, h3]
      simp only [u32s, List.map_cons, List.cons_append, List.nil_append]
      rw [show ((n.toNat : Nat) : Int) = n from by omega]
theorem parts_i64 : ∀ {parts : List (List AV)}, (∀ p ∈ parts, (∃ n, (Lit.int .i64 n).wf = true ∧ p = [.raw (.int .i64 n)]) ∧ p.length = 1) → ∃ l : List Int, l.length = parts.length ∧ (∀ x ∈ l, -9223372036854775808 ≤ x ∧ x < 9223372036854775808) ∧ parts.flatten = i64s l
  | [], _ => ⟨[], rfl, fun x hx => (by cases hx), rfl⟩
  | p :: ps, h => by
    obtain ⟨⟨n, hn, rfl⟩, -⟩ := h p (by simp)
    obtain ⟨l, h1, h2, h3⟩ := parts_i64 (parts := ps) (fun q hq => h q (by simp [hq]))
    refine ⟨n :: l, by simp [h1], ?_, ?_⟩
    · intro x hx
      rcases List.mem_cons.1 hx with rfl | hx
      · exact wf_i64 hn
      · exact h2 x hx
    · rw [List.flatten_cons, h3]; rfl
theorem readsC_mg {t e : TypeId} (ht : P.underlying t = some (.array 6 e)) (hz : P.cellsOf e = 1) (hn : P.cellsOf t = 6) (he : P.underlying e = some (.int .u32)) : ReadsC P t (fun as => ∃ A, as = mg A) := by
  refine (readsC_array (n := 6) (z := 1) ht hz hn (readsC_int he)).mono ?_
  rintro as ⟨parts, h1, h2, rfl⟩
  obtain ⟨l, h3, h4, h5⟩ := parts_u32 h2
  exact ⟨valL l, by rw [h5]; exact mg_valL (by omega) h4⟩
theorem readsC_wd {t : TypeId} {fs : Array Field} {f0 f1 : Field} (ht : P.underlying t = some (.struct fs)) (hfs : fs.toList = [f0, f1]) (hn : P.cellsOf t = 7) (o0 : f0.offset = 0) (o1 : f1.offset = 1) (c0 : P.cellsOf f0.type = 1) (c1 : P.cellsOf f1.type = 6)
    (h0 : ReadsC P f0.type (fun as => ∃ b, as = [.raw (.bool b)])) (h1 : ReadsC P f1.type (fun as => ∃ A, as = mg A)) : ReadsC P t (fun as => ∃ n A, as = wd n A) := by
  refine (readsC_struct (n := 7) ht hn (Ss := [_, _]) (by rw [hfs]; exact .cons 1 o0 c0 h0 (.cons 6 o1 c1 h1 .nil))).mono ?_
  rintro as ⟨a, b, ⟨n, rfl⟩, ⟨c, d, ⟨A, rfl⟩, hd, rfl⟩, rfl⟩
  obtain rfl : d = [] := hd
  exact ⟨n, A, by rw [List.append_nil]; rfl⟩
theorem readsC_pc {t : TypeId} {fs : Array Field} {f0 f1 f2 : Field} (ht : P.underlying t = some (.struct fs)) (hfs : fs.toList = [f0, f1, f2]) (hn : P.cellsOf t = 15) (o0 : f0.offset = 0) (o1 : f1.offset = 7) (o2 : f2.offset = 14) (c0 : P.cellsOf f0.type = 7) (c1 : P.cellsOf f1.type = 7) (c2 : P.cellsOf f2.type = 1)
    (h0 : ReadsC P f0.type (fun as => ∃ n A, as = wd n A)) (h1 : ReadsC P f1.type (fun as => ∃ n A, as = wd n A)) (h2 : P.underlying f2.type = some (.int .i64)) : ReadsC P t (fun as => ∃ n1 A1 n2 A2 pl, -9223372036854775808 ≤ pl ∧ pl < 9223372036854775808 ∧ as = pc n1 A1 n2 A2 pl) := by
  refine (readsC_struct (n := 15) ht hn (Ss := [_, _, _]) (by rw [hfs]; exact .cons 7 o0 c0 h0 (.cons 7 o1 c1 h1 (.cons 1 o2 c2 (readsC_int h2) .nil)))).mono ?_
  rintro as ⟨a, b, ⟨n1, A1, rfl⟩, ⟨c, d, ⟨n2, A2, rfl⟩, ⟨e, f, ⟨pl, hw, rfl⟩, hd, rfl⟩, rfl⟩, rfl⟩
  obtain rfl : f = [] := hd
  obtain ⟨w1, w2⟩ := wf_i64 hw
  exact ⟨n1, A1, n2, A2, pl, w1, w2, rfl⟩
theorem readsV_ints {t e : TypeId} (ht : P.underlying t = some (.slice e)) (hz : P.cellsOf e = 1) (he : P.underlying e = some (.int .i64)) :
    ReadsV P t (fun a => ∃ l : List Int, l.length ≤ 9223372036854775807 ∧ (∀ x ∈ l, -9223372036854775808 ≤ x ∧ x < 9223372036854775808) ∧ a = roI l) := by
  refine (readsV_slice ht (readsC_slice ht hz (readsC_int he))).mono ?_
  rintro a ⟨parts, h1, h2, h3⟩
  obtain ⟨l, h4, h5, h6⟩ := parts_i64 h2
  refine ⟨l, by omega, h5, ?_⟩
  injection h3 with h3 _
  rw [h3, h6, ← h4]
end
theorem allS_nil {xs : List AV} (h : AllS [] xs) : xs = [] := by cases xs with
  | nil => rfl
  | cons => exact h.elim
theorem allS_cons {S : AV → Prop} {Ss : List (AV → Prop)} {xs : List AV} (h : AllS (S :: Ss) xs) : ∃ a ys, xs = a :: ys ∧ S a ∧ AllS Ss ys := by cases xs with
  | nil => exact h.elim
  | cons a ys => exact ⟨a, ys, rfl, h.1, h.2⟩
end Go.Proofs.Lite
