/- A layer over the walk, contracts of functions, and plain laws: parts of the proof in YtbeaahjinehpbaaProof. -/
import Derived.Test.YtbeaahjinehpbaaDx
set_option linter.all false
namespace Go.Proofs.Lite
open Go
section
variable {P : Program} {F : FnsA} (h : IsA P F)
include h
set_option maxRecDepth 20000 in
theorem S_l05Thin_pf (l : List Int) (hl : l.length ≤ 1000000) (hr : inW l) (hG : gcdL l 0 ≠ 0) : Pf P F.S_l05Thin [roW l] (roW (thinM l)) := by
  refine pf_of h.S_l05Thin ⟨trivial, trivial⟩ trivial ?_
  simp (disch := omega) only [seval, ↓SDX, isRes, slEl, bslParts, mmAll, mmR, SUX, List.replicate, List.append, pr, lr, er, binR, ev, putA, List.set, intOf, takeAg, cellsOf, wrAll, partsOk, ones, one, isOne, wok1, findPE, List.find?, nop, prlr, isPure, pickR, optInt, rets, rv, rvs, S_l05Thin_c, IntKind.bits]
  have hlen := thinM_length l
  have hGl : gcdL l 0 < bW := gcdL_lt hr (by decide)
  have hget := fun k (hk : k < l.length) => thinM_get hk
  obtain ⟨G, hGe⟩ : ∃ G, gcdL l 0 = G := ⟨_, rfl⟩
  simp only [hGe] at hG hGl hget
  refine loop_cut (τ := Unit) (fun _ => ([roW l, .junk, .raw (.slice none 0 0), .ptr 0 0] ++ List.replicate 42 .junk)) (fun _ => [.c (wi (G : Nat))]) (fun _ => True) ?_ ?_
  · refine loop_st (fun s : Nat × Nat => l.length - s.1) (fun s => ([roW l, .junk, .raw (.slice none 0 0), .ptr 0 0, .raw (.int .i64 (s.1 : Nat))] ++ List.replicate 41 .junk)) (fun s => [.c (wi (s.2 : Nat))]) (fun s => s.1 ≤ l.length ∧ s.2 < bW ∧ gcdL (l.drop s.1) s.2 = G) (0, 0) ⟨by dsimp only; omega, by decide, hGe⟩ (Wk.tmps (by simp [fits])) ?_
    rintro ⟨k, g⟩ ⟨hk, hgl, hg⟩
    dsimp only at hk hgl hg ⊢
    by_cases hk2 : k < l.length
    · have hx := wds_get hk2
      have hxl := hr.get hk2
      rw [drop_getD hk2, gcdL_cons] at hg
      obtain ⟨x, hxe⟩ : ∃ x, l.getD k 0 = x := ⟨_, rfl⟩
      rw [hxe] at hx hxl hg
      have hp := S_CommonWide_pf h (g : Nat) x (by rw [Int.natAbs_natCast]; exact hgl) hxl
      rw [Int.natAbs_natCast] at hp
      have hg2 := gcd_ltW hgl hxl
      clear hr hget
      simp (disch := omega) only [seval, ↓SDX, isRes, slEl, bslParts, mmAll, mmR, SUX, List.replicate, List.append, pr, lr, er, binR, ev, putA, List.set, intOf, takeAg, cellsOf, wrAll, partsOk, ones, one, isOne, wok1, findPE, List.find?, nop, prlr, isPure, pickR, optInt, rets, rv, rvs, CN, NW, hx, IntKind.bits]
      refine hp.step ?_
      simp (disch := omega) only [seval, ↓SDX, isRes, slEl, bslParts, mmAll, mmR, SUX, List.replicate, List.append, pr, lr, er, binR, ev, putA, List.set, intOf, takeAg, cellsOf, wrAll, partsOk, ones, one, isOne, wok1, findPE, List.find?, nop, prlr, isPure, pickR, optInt, rets, rv, rvs, CN, NW, IntKind.bits]
      exact ⟨(k + 1, Nat.gcd g x.natAbs), by dsimp only; omega, ⟨by dsimp only; omega, hg2, hg⟩, Wk.tmps (by simp only [fits, eq_self, and_self, Int.cast_ofNat_Int, Int.natCast_add, and_true, true_and, List.replicate, List.cons_append, List.nil_append])⟩
    · have hk3 : k = l.length := by omega
      subst hk3
      rw [List.drop_length] at hg
      have hgG : g = G := hg
      subst hgG
      clear hr hget
      simp (disch := omega) only [seval, ↓SDX, isRes, slEl, bslParts, mmAll, mmR, SUX, List.replicate, List.append, pr, lr, er, binR, ev, putA, List.set, intOf, takeAg, cellsOf, wrAll, partsOk, ones, one, isOne, wok1, findPE, List.find?, nop, prlr, isPure, pickR, optInt, rets, rv, rvs, CN, NW, IntKind.bits]
      exact ⟨(), Wk.tmps (by simp only [fits, eq_self, and_self, Int.cast_ofNat_Int, Int.natCast_add, and_true, true_and, List.replicate, List.cons_append, List.nil_append])⟩
  rintro _ _
  simp (disch := omega) only [seval, ↓SDX, isRes, slEl, bslParts, mmAll, mmR, SUX, List.replicate, List.append, pr, lr, er, binR, ev, putA, List.set, intOf, takeAg, cellsOf, wrAll, partsOk, ones, one, isOne, wok1, findPE, List.find?, nop, prlr, isPure, pickR, optInt, rets, rv, rvs, IntKind.bits]
  refine loop_st (fun s : Nat => l.length - s) (fun k => ([roW l, .junk, .raw (.slice none 0 0), .ptr 0 0, .junk, .sl 1 7 0 k true, .raw (.int .i64 (k : Nat))] ++ List.replicate 39 .junk)) (fun k => [.c (wi (G : Nat)), .c (wds ((thinM l).take k))]) (fun k => k ≤ l.length) 0 (by omega) (Wk.tmps (by simp only [fits, eq_self, and_self, Int.cast_ofNat_Int, Int.natCast_add, and_true, true_and, List.replicate, List.cons_append, List.nil_append])) ?_
  intro k hk
  by_cases hk2 : k < l.length
  · have hx := wds_get hk2
    have hxl := hr.get hk2
    have htk : ((thinM l).take k).length = k := by rw [List.length_take]; omega
    have hadd : wds ((thinM l).take k) ++ wi ((l.getD k 0).fdiv (G : Nat)) = wds ((thinM l).take (k + 1)) := by
      rw [← wds_one, ← wds_append, take_succ_getD (by omega), hget k hk2]
    have hp := S_l01Div_pf h (l.getD k 0) (G : Nat) hxl (by omega) (by rw [Int.natAbs_natCast]; exact hGl)
    obtain ⟨x, hxe⟩ : ∃ x, l.getD k 0 = x := ⟨_, rfl⟩
    rw [hxe] at hx hadd hp
    rw [Int.fdiv_eq_ediv_of_nonneg _ (by omega)] at hadd
    clear hr hget
    simp (disch := omega) only [seval, ↓SDX, isRes, slEl, bslParts, mmAll, mmR, SUX, List.replicate, List.append, pr, lr, er, binR, ev, putA, List.set, intOf, takeAg, cellsOf, wrAll, partsOk, ones, one, isOne, wok1, findPE, List.find?, nop, prlr, isPure, pickR, optInt, rets, rv, rvs, CN, NW, hx, IntKind.bits]
    refine hp.step ?_
    simp (disch := omega) only [seval, ↓SDX, isRes, slEl, bslParts, mmAll, mmR, SUX, List.replicate, List.append, pr, lr, er, binR, ev, putA, List.set, intOf, takeAg, cellsOf, wrAll, partsOk, ones, one, isOne, wok1, findPE, List.find?, nop, prlr, isPure, pickR, optInt, rets, rv, rvs, CN, NW, hadd, IntKind.bits]
    refine ⟨k + 1, by omega, by omega, ?_⟩
    exact Wk.back (i := 1) (j := 5) (n := 2) (by decide) (by decide) (by decide) rfl rfl (by simp only [mvL, mvAV, cutL, cutAV, fits, DU, eq_self, and_self, and_true, true_and, Int.cast_ofNat_Int, Int.natCast_add, List.replicate, List.cons_append, List.nil_append, ↓reduceIte, Nat.reduceEqDiff, Nat.reduceLT, reduceCtorEq, if_true, if_false, List.map_cons, List.map_nil, List.take_succ_cons, List.take_zero, List.set]) (by simp only [cutH, mvH, mvSg, cutSg, mvL, cutL, DU, eq_self, and_self, and_true, true_and, Int.cast_ofNat_Int, Int.natCast_add, List.replicate, List.cons_append, List.nil_append, ↓reduceIte, Nat.reduceEqDiff, Nat.reduceLT, reduceCtorEq, if_true, if_false, List.map_cons, List.map_nil, List.take_succ_cons, List.take_zero, List.set])
  · have hk3 : k = (thinM l).length := by omega
    subst hk3
    rw [List.take_length]
    clear hr hget
    simp (disch := omega) only [seval, ↓SDX, isRes, slEl, bslParts, mmAll, mmR, SUX, List.replicate, List.append, pr, lr, er, binR, ev, putA, List.set, intOf, takeAg, cellsOf, wrAll, partsOk, ones, one, isOne, wok1, findPE, List.find?, nop, prlr, isPure, pickR, optInt, rets, rv, rvs, CN, NW, IntKind.bits]
    refine WkV.frz (i := 1) rfl (noixL_wds _) (WkV.eq ?_ trivial)
    simp [frz, wds_length, List.take_of_length_le]
end
end Go.Proofs.Lite

namespace Go.Proofs.Lite
open Go
section
variable {P : Program} {F : FnsA} (h : IsA P F)
include h
set_option maxRecDepth 20000 in
set_option maxHeartbeats 1000000 in
theorem S_l05Rest_pf (u v : List Int) (hu : u.length ≤ 1000) (hv : v.length ≤ 1000) (hv1 : 1 ≤ v.length) (hru : inW u) (hrv : inW v) : Pf P F.S_l05Rest [roW u, roW v] (oL (restM v (u.length + 1) (short u))) := by
  refine pf_of h.S_l05Rest ⟨trivial, trivial, trivial⟩ (noix_oL _) ?_
  obtain ⟨n, hn⟩ : ∃ n, v.length = n + 1 := ⟨v.length - 1, by omega⟩
  have s1 : ((n + 1 : Nat) : Int) - 1 = (n : Int) := by omega
  have hlast := wds_get (l := v) (i := n) (by omega)
  have hll := hrv.get (i := n) (by omega)
  obtain ⟨L, hL⟩ : ∃ L, v.getD n 0 = L := ⟨_, rfl⟩
  rw [hL] at hlast hll
  obtain ⟨RES, hRES⟩ : ∃ R, restM v (u.length + 1) (short u) = R := ⟨_, rfl⟩
  rw [hRES]
  have hsh := S_l05Short_ct h u (by omega) hru
  have hsl := short_le u
  have hw : wd false L.natAbs = wi (L.natAbs : Nat) := wd_plus _
  simp (disch := omega) only [seval, ↓SDX, isRes, slEl, bslParts, mmAll, mmR, SUX, List.replicate, List.append, pr, lr, er, binR, ev, putA, List.set, intOf, takeAg, cellsOf, wrAll, partsOk, ones, one, isOne, wok1, findPE, List.find?, nop, prlr, isPure, pickR, optInt, rets, rv, rvs, S_l05Rest_c, CN, NW, IntKind.bits]
  refine callD_sl hsh (by rfl) (noixL_wds _) ?_
  simp (disch := omega) only [seval, ↓SDX, isRes, slEl, bslParts, mmAll, mmR, SUX, List.replicate, List.append, pr, lr, er, binR, ev, putA, List.set, intOf, takeAg, cellsOf, wrAll, partsOk, ones, one, isOne, wok1, findPE, List.find?, nop, prlr, isPure, pickR, optInt, rets, rv, rvs, CN, NW, hn, s1, hlast, wr_neg, hw, IntKind.bits]
  refine loop_st (fun s : Nat × List Int => s.2.length) (fun s => ([.junk, roW v, .junk, .junk, .raw (.slice none 0 0), .raw (.int .i64 0), roW s.2, .ptr 2 0, .ptr 3 0] ++ List.replicate 98 .junk)) (fun s => [.dead, .dead, .c (wi L), .c (wi (L.natAbs : Nat))])
    (fun s => s.2.length < s.1 ∧ s.2.length ≤ 1000 ∧ inW s.2 ∧ restM v s.1 s.2 = RES) (u.length + 1, short u) ⟨by dsimp only; omega, by dsimp only; omega, hru.short, hRES⟩ ?_ ?_
  · dsimp only
    exact Wk.fzc (i := 1) (n := 4) rfl (noixL_wds _) (by decide) (by simp (disch := omega) only [frzL, frz, cutL, cutAV, fits, DU, eq_self, and_self, and_true, true_and, Int.cast_ofNat_Int, Int.natCast_add, List.replicate, List.cons_append, List.nil_append, ↓reduceIte, Nat.reduceEqDiff, Nat.reduceLT, reduceCtorEq, if_true, if_false, List.map_cons, List.map_nil, List.take_succ_cons, List.take_zero, List.set, Nat.zero_add, nle_t, wds_length, wds_take, i64s_length, List.drop_zero, take_short]) (by simp only [cutH, frzH, frzSg, cutSg, frzL, cutL, DU, eq_self, and_self, and_true, true_and, Int.cast_ofNat_Int, Int.natCast_add, List.replicate, List.cons_append, List.nil_append, ↓reduceIte, Nat.reduceEqDiff, Nat.reduceLT, reduceCtorEq, if_true, if_false, List.map_cons, List.map_nil, List.take_succ_cons, List.take_zero, List.set, Nat.zero_add, nle_t, wds_length, wds_take, i64s_length, List.drop_zero, take_short])
  rintro ⟨f, r⟩ ⟨hf, hrl, hri, hres⟩
  dsimp only at hf hrl hri hres ⊢
  obtain ⟨f, rfl⟩ : ∃ f', f = f' + 1 := ⟨f - 1, by omega⟩
  simp only [restM] at hres
  clear hsh hsl hRES hlast hru
  by_cases hc : r.length < v.length
  · rw [if_pos hc] at hres
    subst hres
    unfold oL
    clear hri hrv
    simp (disch := omega) only [seval, ↓SDX, isRes, slEl, bslParts, mmAll, mmR, SUX, List.replicate, List.append, pr, lr, er, binR, ev, putA, List.set, intOf, takeAg, cellsOf, wrAll, partsOk, ones, one, isOne, wok1, findPE, List.find?, nop, prlr, isPure, pickR, optInt, rets, rv, rvs, CN, NW, hn, IntKind.bits]
    exact WkV.eq (by first | rfl | simp) (by first | trivial | (simp only [noix, noixL, NX, and_true, true_and]; done))
  rw [if_neg hc] at hres
  obtain ⟨q, hq⟩ : ∃ q, r.length = q + 1 := ⟨r.length - 1, by omega⟩
  have s2 : ((q + 1 : Nat) : Int) - 1 = (q : Int) := by omega
  have hrq := wds_get (l := r) (i := q) (by omega)
  have hrql := hri.get (i := q) (by omega)
  have hns := fun s hs => next_short (r := r) (v := v) (s := s) hv1 (by omega) hs
  unfold nextM at hres hns
  rw [show v.length - 1 = n from by omega, show r.length - 1 = q from by omega, hL] at hres hns
  obtain ⟨last, hlast⟩ : ∃ x, r.getD q 0 = x := ⟨_, rfl⟩
  rw [hlast] at hres hns hrq hrql
  have hneg := S_l01Neg_pf h last hrql
  by_cases hL0 : L < 0
  case' pos =>
    rw [if_pos hL0] at hres hns
    obtain ⟨lt, hlt⟩ : ∃ x, -last = x := ⟨_, rfl⟩
    have hltl : lt.natAbs < bW := by omega
    rw [hlt] at hres hns hneg
    clear hlt
    simp (disch := omega) only [seval, ↓SDX, isRes, slEl, bslParts, mmAll, mmR, SUX, List.replicate, List.append, pr, lr, er, binR, ev, putA, List.set, intOf, takeAg, cellsOf, wrAll, partsOk, ones, one, isOne, wok1, findPE, List.find?, nop, prlr, isPure, pickR, optInt, rets, rv, rvs, CN, NW, hn, hq, s2, hrq, IntKind.bits]
    refine hneg.step ?_
    simp (disch := omega) only [seval, ↓SDX, isRes, slEl, bslParts, mmAll, mmR, SUX, List.replicate, List.append, pr, lr, er, binR, ev, putA, List.set, intOf, takeAg, cellsOf, wrAll, partsOk, ones, one, isOne, wok1, findPE, List.find?, nop, prlr, isPure, pickR, optInt, rets, rv, rvs, CN, NW, IntKind.bits]
  case' neg =>
    rw [if_neg hL0] at hres hns
    obtain ⟨lt, hlt⟩ : ∃ x, last = x := ⟨_, rfl⟩
    have hltl : lt.natAbs < bW := by omega
    rw [hlt] at hres hns hrq
    clear hneg
    simp (disch := omega) only [seval, ↓SDX, isRes, slEl, bslParts, mmAll, mmR, SUX, List.replicate, List.append, pr, lr, er, binR, ev, putA, List.set, intOf, takeAg, cellsOf, wrAll, partsOk, ones, one, isOne, wok1, findPE, List.find?, nop, prlr, isPure, pickR, optInt, rets, rv, rvs, CN, NW, hn, hq, s2, hrq, IntKind.bits]
  all_goals
    have hm : r.length - v.length = q - n := by omega
    have s3 : ((q + 1 : Nat) : Int) - ((n + 1 : Nat) : Int) = ((q - n : Nat) : Int) := by omega
    clear hlast hrql hL
    obtain ⟨sz, hsz⟩ : ∃ x, ((L.natAbs : Nat) : Int) = x := ⟨_, rfl⟩
    have hszl : sz.natAbs < bW := by omega
    rw [hsz] at hres hns ⊢
    obtain ⟨N, hN⟩ : ∃ N, rowM (stepM sz lt r v) r.length = N := ⟨_, rfl⟩
    rw [hN] at hres hns
    refine loop_st (fun s : Nat × List Int => r.length - s.1) (fun s => ([.junk, roW v, .junk, .junk, .raw (.slice none 0 0), .raw (.int .i64 0), roW r, .ptr 2 0, .ptr 3 0, .ptr 4 0, .sl 5 7 0 s.1 true, .raw (.int .i64 (s.1 : Nat))] ++ List.replicate 95 .junk)) (fun s => [.dead, .dead, .c (wi L), .c (wi sz), .c (wi lt), .c (wds s.2)])
      (fun s => s.1 ≤ r.length ∧ rowM (stepM sz lt r v) s.1 = some s.2) (0, []) ⟨by dsimp only; omega, rfl⟩ (Wk.tmps (by simp only [fits, eq_self, and_self, Int.cast_ofNat_Int, Int.natCast_add, and_true, true_and, List.replicate, List.cons_append, List.nil_append])) ?_
    rintro ⟨k, l⟩ ⟨hk, hkl⟩
    dsimp only at hk hkl ⊢
    have hlk := rowM_len hkl
    by_cases hk2 : k < r.length
    · have hx := wds_get hk2
      have hxl := hri.get hk2
      obtain ⟨x, hxe⟩ : ∃ x, r.getD k 0 = x := ⟨_, rfl⟩
      rw [hxe] at hx hxl
      have hmul := S_l01Mul_pf h sz x hszl hxl
      have hnone : stepM sz lt r v k = none → RES = none := fun hn0 => by
        have h1 : rowM (stepM sz lt r v) (k + 1) = none := by simp only [rowM, hkl, hn0]
        have h2 := rowM_none h1 (show k + 1 ≤ r.length by omega)
        rw [hN] at h2; subst h2; exact hres.symm
      have hsome : ∀ y, stepM sz lt r v k = some y → rowM (stepM sz lt r v) (k + 1) = some (l ++ [y]) := fun y hy => by simp only [rowM, hkl, hy]
      have hadd : ∀ y, wds l ++ wi y = wds (l ++ [y]) := fun y => by rw [wds_append, wds_one]
      have hl7 := wds_length l
      rw [hlk] at hl7
      have hfk : stepM sz lt r v k = stepM sz lt r v k := rfl
      conv at hfk => rhs; unfold stepM
      rw [hxe, hm] at hfk
      by_cases h1 : (sz * x).natAbs < bW
      · rw [if_pos h1] at hmul hfk
        by_cases h2 : q - n ≤ k
        · rw [if_pos h2] at hfk
          have s4 : (k : Int) - ((q - n : Nat) : Int) = ((k - (q - n) : Nat) : Int) := by omega
          have hy := wds_get (l := v) (i := k - (q - n)) (by omega)
          have hyl := hrv.get (i := k - (q - n)) (by omega)
          obtain ⟨y, hye⟩ : ∃ y, v.getD (k - (q - n)) 0 = y := ⟨_, rfl⟩
          rw [hye] at hy hyl hfk
          have hmul2 := S_l01Mul_pf h lt y hltl hyl
          by_cases h3 : (lt * y).natAbs < bW
          · rw [if_pos h3] at hmul2 hfk
            have hng := S_l01Neg_pf h (lt * y) h3
            have hadd2 := S_l01Add_pf h (sz * x) (-(lt * y)) h1 (by omega)
            by_cases h4 : (sz * x + -(lt * y)).natAbs < bW
            · rw [if_pos h4] at hadd2 hfk
              have hfin := hsome _ hfk
              have hwd := hadd (sz * x + -(lt * y))
              clear hnone hsome hri hrv hns hN hres hkl hadd hfk
              generalize sz * x + -(lt * y) = z at *
              generalize lt * y = ly at *
              generalize sz * x = sx at *
              simp (disch := omega) only [seval, ↓SDX, isRes, slEl, bslParts, mmAll, mmR, SUX, List.replicate, List.append, pr, lr, er, binR, ev, putA, List.set, intOf, takeAg, cellsOf, wrAll, partsOk, ones, one, isOne, wok1, findPE, List.find?, nop, prlr, isPure, pickR, optInt, rets, rv, rvs, CN, NW, hn, hq, hx, s3, s4, hy, IntKind.bits]
              refine hmul.step ?_
              simp (disch := omega) only [seval, ↓SDX, isRes, slEl, bslParts, mmAll, mmR, SUX, List.replicate, List.append, pr, lr, er, binR, ev, putA, List.set, intOf, takeAg, cellsOf, wrAll, partsOk, ones, one, isOne, wok1, findPE, List.find?, nop, prlr, isPure, pickR, optInt, rets, rv, rvs, CN, NW, hn, hq, hx, s3, s4, hy, IntKind.bits]
              refine hmul2.step ?_
              simp (disch := omega) only [seval, ↓SDX, isRes, slEl, bslParts, mmAll, mmR, SUX, List.replicate, List.append, pr, lr, er, binR, ev, putA, List.set, intOf, takeAg, cellsOf, wrAll, partsOk, ones, one, isOne, wok1, findPE, List.find?, nop, prlr, isPure, pickR, optInt, rets, rv, rvs, CN, NW, hn, hq, hx, s3, s4, hy, IntKind.bits]
              refine hng.step ?_
              simp (disch := omega) only [seval, ↓SDX, isRes, slEl, bslParts, mmAll, mmR, SUX, List.replicate, List.append, pr, lr, er, binR, ev, putA, List.set, intOf, takeAg, cellsOf, wrAll, partsOk, ones, one, isOne, wok1, findPE, List.find?, nop, prlr, isPure, pickR, optInt, rets, rv, rvs, CN, NW, hn, hq, hx, s3, s4, hy, IntKind.bits]
              refine hadd2.step ?_
              simp (disch := omega) only [seval, ↓SDX, isRes, slEl, bslParts, mmAll, mmR, SUX, List.replicate, List.append, pr, lr, er, binR, ev, putA, List.set, intOf, takeAg, cellsOf, wrAll, partsOk, ones, one, isOne, wok1, findPE, List.find?, nop, prlr, isPure, pickR, optInt, rets, rv, rvs, CN, NW, hn, hq, hx, s3, s4, hy, hwd, IntKind.bits]
              exact ⟨(k + 1, l ++ [z]), by dsimp only; omega, ⟨by dsimp only; omega, hfin⟩, Wk.back (i := 5) (j := 10) (n := 6) (by decide) (by decide) (by decide) rfl rfl (by simp only [mvL, mvAV, cutL, cutAV, fits, DU, eq_self, and_self, and_true, true_and, Int.cast_ofNat_Int, Int.natCast_add, List.replicate, List.cons_append, List.nil_append, ↓reduceIte, Nat.reduceEqDiff, Nat.reduceLT, reduceCtorEq, if_true, if_false, List.map_cons, List.map_nil, List.take_succ_cons, List.take_zero, List.set]) (by simp only [cutH, mvH, mvSg, cutSg, mvL, cutL, DU, eq_self, and_self, and_true, true_and, Int.cast_ofNat_Int, Int.natCast_add, List.replicate, List.cons_append, List.nil_append, ↓reduceIte, Nat.reduceEqDiff, Nat.reduceLT, reduceCtorEq, if_true, if_false, List.map_cons, List.map_nil, List.take_succ_cons, List.take_zero, List.set])⟩
            · rw [if_neg h4] at hadd2 hfk
              rw [hnone hfk]
              clear hnone hsome hri hrv hns hN hres hkl hadd hfk
              generalize sz * x + -(lt * y) = z at *
              generalize lt * y = ly at *
              generalize sz * x = sx at *
              simp (disch := omega) only [seval, ↓SDX, isRes, slEl, bslParts, mmAll, mmR, SUX, List.replicate, List.append, pr, lr, er, binR, ev, putA, List.set, intOf, takeAg, cellsOf, wrAll, partsOk, ones, one, isOne, wok1, findPE, List.find?, nop, prlr, isPure, pickR, optInt, rets, rv, rvs, CN, NW, hn, hq, hx, s3, s4, hy, IntKind.bits]
              refine hmul.step ?_
              simp (disch := omega) only [seval, ↓SDX, isRes, slEl, bslParts, mmAll, mmR, SUX, List.replicate, List.append, pr, lr, er, binR, ev, putA, List.set, intOf, takeAg, cellsOf, wrAll, partsOk, ones, one, isOne, wok1, findPE, List.find?, nop, prlr, isPure, pickR, optInt, rets, rv, rvs, CN, NW, hn, hq, hx, s3, s4, hy, IntKind.bits]
              refine hmul2.step ?_
              simp (disch := omega) only [seval, ↓SDX, isRes, slEl, bslParts, mmAll, mmR, SUX, List.replicate, List.append, pr, lr, er, binR, ev, putA, List.set, intOf, takeAg, cellsOf, wrAll, partsOk, ones, one, isOne, wok1, findPE, List.find?, nop, prlr, isPure, pickR, optInt, rets, rv, rvs, CN, NW, hn, hq, hx, s3, s4, hy, IntKind.bits]
              refine hng.step ?_
              simp (disch := omega) only [seval, ↓SDX, isRes, slEl, bslParts, mmAll, mmR, SUX, List.replicate, List.append, pr, lr, er, binR, ev, putA, List.set, intOf, takeAg, cellsOf, wrAll, partsOk, ones, one, isOne, wok1, findPE, List.find?, nop, prlr, isPure, pickR, optInt, rets, rv, rvs, CN, NW, hn, hq, hx, s3, s4, hy, IntKind.bits]
              refine hadd2.step ?_
              simp (disch := omega) only [seval, ↓SDX, isRes, slEl, bslParts, mmAll, mmR, SUX, List.replicate, List.append, pr, lr, er, binR, ev, putA, List.set, intOf, takeAg, cellsOf, wrAll, partsOk, ones, one, isOne, wok1, findPE, List.find?, nop, prlr, isPure, pickR, optInt, rets, rv, rvs, CN, NW, hn, hq, hx, s3, s4, hy, IntKind.bits]
              unfold oL
              exact WkV.frz (i := 9) rfl trivial (WkV.eq (frz_none _ _ trivial) ⟨trivial, trivial, trivial⟩)
          · rw [if_neg h3] at hmul2 hfk
            rw [hnone hfk]
            clear hnone hsome hri hrv hns hN hres hkl hadd hfk
            generalize lt * y = ly at *
            generalize sz * x = sx at *
            simp (disch := omega) only [seval, ↓SDX, isRes, slEl, bslParts, mmAll, mmR, SUX, List.replicate, List.append, pr, lr, er, binR, ev, putA, List.set, intOf, takeAg, cellsOf, wrAll, partsOk, ones, one, isOne, wok1, findPE, List.find?, nop, prlr, isPure, pickR, optInt, rets, rv, rvs, CN, NW, hn, hq, hx, s3, s4, hy, IntKind.bits]
            refine hmul.step ?_
            simp (disch := omega) only [seval, ↓SDX, isRes, slEl, bslParts, mmAll, mmR, SUX, List.replicate, List.append, pr, lr, er, binR, ev, putA, List.set, intOf, takeAg, cellsOf, wrAll, partsOk, ones, one, isOne, wok1, findPE, List.find?, nop, prlr, isPure, pickR, optInt, rets, rv, rvs, CN, NW, hn, hq, hx, s3, s4, hy, IntKind.bits]
            refine hmul2.step ?_
            simp (disch := omega) only [seval, ↓SDX, isRes, slEl, bslParts, mmAll, mmR, SUX, List.replicate, List.append, pr, lr, er, binR, ev, putA, List.set, intOf, takeAg, cellsOf, wrAll, partsOk, ones, one, isOne, wok1, findPE, List.find?, nop, prlr, isPure, pickR, optInt, rets, rv, rvs, CN, NW, hn, hq, hx, s3, s4, hy, IntKind.bits]
            unfold oL
            exact WkV.frz (i := 8) rfl trivial (WkV.eq (frz_none _ _ trivial) ⟨trivial, trivial, trivial⟩)
        · rw [if_neg h2] at hfk
          have hfin := hsome _ hfk
          have hwd := hadd (sz * x)
          clear hnone hsome hri hrv hns hN hres hkl hadd hfk
          generalize sz * x = sx at *
          simp (disch := omega) only [seval, ↓SDX, isRes, slEl, bslParts, mmAll, mmR, SUX, List.replicate, List.append, pr, lr, er, binR, ev, putA, List.set, intOf, takeAg, cellsOf, wrAll, partsOk, ones, one, isOne, wok1, findPE, List.find?, nop, prlr, isPure, pickR, optInt, rets, rv, rvs, CN, NW, hn, hq, hx, s3, IntKind.bits]
          refine hmul.step ?_
          simp (disch := omega) only [seval, ↓SDX, isRes, slEl, bslParts, mmAll, mmR, SUX, List.replicate, List.append, pr, lr, er, binR, ev, putA, List.set, intOf, takeAg, cellsOf, wrAll, partsOk, ones, one, isOne, wok1, findPE, List.find?, nop, prlr, isPure, pickR, optInt, rets, rv, rvs, CN, NW, hn, hq, hx, s3, hwd, IntKind.bits]
          exact ⟨(k + 1, l ++ [sx]), by dsimp only; omega, ⟨by dsimp only; omega, hfin⟩, Wk.back (i := 5) (j := 8) (n := 6) (by decide) (by decide) (by decide) rfl rfl (by simp only [mvL, mvAV, cutL, cutAV, fits, DU, eq_self, and_self, and_true, true_and, Int.cast_ofNat_Int, Int.natCast_add, List.replicate, List.cons_append, List.nil_append, ↓reduceIte, Nat.reduceEqDiff, Nat.reduceLT, reduceCtorEq, if_true, if_false, List.map_cons, List.map_nil, List.take_succ_cons, List.take_zero, List.set]) (by simp only [cutH, mvH, mvSg, cutSg, mvL, cutL, DU, eq_self, and_self, and_true, true_and, Int.cast_ofNat_Int, Int.natCast_add, List.replicate, List.cons_append, List.nil_append, ↓reduceIte, Nat.reduceEqDiff, Nat.reduceLT, reduceCtorEq, if_true, if_false, List.map_cons, List.map_nil, List.take_succ_cons, List.take_zero, List.set])⟩
      · rw [if_neg h1] at hmul hfk
        rw [hnone hfk]
        clear hnone hsome hri hrv hns hN hres hkl hadd hfk
        simp (disch := omega) only [seval, ↓SDX, isRes, slEl, bslParts, mmAll, mmR, SUX, List.replicate, List.append, pr, lr, er, binR, ev, putA, List.set, intOf, takeAg, cellsOf, wrAll, partsOk, ones, one, isOne, wok1, findPE, List.find?, nop, prlr, isPure, pickR, optInt, rets, rv, rvs, CN, NW, hn, hq, hx, IntKind.bits]
        refine hmul.step ?_
        simp (disch := omega) only [seval, ↓SDX, isRes, slEl, bslParts, mmAll, mmR, SUX, List.replicate, List.append, pr, lr, er, binR, ev, putA, List.set, intOf, takeAg, cellsOf, wrAll, partsOk, ones, one, isOne, wok1, findPE, List.find?, nop, prlr, isPure, pickR, optInt, rets, rv, rvs, CN, NW, IntKind.bits]
        unfold oL
        exact WkV.frz (i := 7) rfl trivial (WkV.eq (frz_none _ _ trivial) ⟨trivial, trivial, trivial⟩)
    · have hk3 : k = r.length := by omega
      subst hk3
      rw [hN] at hkl
      subst hkl
      have hls := hns l rfl
      have hlin : inW l := rowM_fit (fun i x hx => stepM_fit hx) hN
      have hsh := S_l05Short_ct h l (by omega) hlin
      have hsl := short_le l
      have hin2 := hlin.short
      rw [hlk] at hsh
      clear hri hrv hns hlin hN
      simp (disch := omega) only [seval, ↓SDX, isRes, slEl, bslParts, mmAll, mmR, SUX, List.replicate, List.append, pr, lr, er, binR, ev, putA, List.set, intOf, takeAg, cellsOf, wrAll, partsOk, ones, one, isOne, wok1, findPE, List.find?, nop, prlr, isPure, pickR, optInt, rets, rv, rvs, CN, NW, hn, hq, IntKind.bits]
      rw [← hq]
      refine callD_sl hsh (by rfl) (noixL_wds _) ?_
      simp (disch := omega) only [seval, ↓SDX, isRes, slEl, bslParts, mmAll, mmR, SUX, List.replicate, List.append, pr, lr, er, binR, ev, putA, List.set, intOf, takeAg, cellsOf, wrAll, partsOk, ones, one, isOne, wok1, findPE, List.find?, nop, prlr, isPure, pickR, optInt, rets, rv, rvs, CN, NW, IntKind.bits]
      exact ⟨(f, short l), by dsimp only; omega, ⟨by dsimp only; omega, by dsimp only; omega, hin2, hres⟩, Wk.fzc (i := 5) (n := 4) rfl (noixL_wds _) (by decide) (by simp (disch := omega) only [frzL, frz, cutL, cutAV, fits, DU, eq_self, and_self, and_true, true_and, Int.cast_ofNat_Int, Int.natCast_add, List.replicate, List.cons_append, List.nil_append, ↓reduceIte, Nat.reduceEqDiff, Nat.reduceLT, reduceCtorEq, if_true, if_false, List.map_cons, List.map_nil, List.take_succ_cons, List.take_zero, List.set, Nat.zero_add, nle_t, wds_length, wds_take, i64s_length, List.drop_zero, take_short]) (by simp only [cutH, frzH, frzSg, cutSg, frzL, cutL, DU, eq_self, and_self, and_true, true_and, Int.cast_ofNat_Int, Int.natCast_add, List.replicate, List.cons_append, List.nil_append, ↓reduceIte, Nat.reduceEqDiff, Nat.reduceLT, reduceCtorEq, if_true, if_false, List.map_cons, List.map_nil, List.take_succ_cons, List.take_zero, List.set, Nat.zero_add, nle_t, wds_length, wds_take, i64s_length, List.drop_zero, take_short])⟩
end
end Go.Proofs.Lite

namespace Go.Proofs.Lite
open Go
/-- No 0 at the end. -/
def nz (l : List Int) : Prop := l = [] ∨ l.getD (l.length - 1) 0 ≠ 0
theorem shortN_nz (l : List Int) : ∀ k, shortN l k = 0 ∨ l.getD (shortN l k - 1) 0 ≠ 0
  | 0 => .inl rfl
  | k + 1 => by
    simp only [shortN]
    split
    · exact shortN_nz l k
    · rename_i h; right; rw [Nat.add_sub_cancel]; exact h
theorem short_nz (l : List Int) : nz (short l) := by
  have hle := shortN_le l l.length
  rcases shortN_nz l l.length with h | h
  · left; unfold short; rw [h]; rfl
  · by_cases h0 : shortN l l.length = 0
    · left; unfold short; rw [h0]; rfl
    · right
      rw [short_length]
      unfold short
      rw [List.getD_eq_getElem?_getD, List.getElem?_take_of_lt (by omega), ← List.getD_eq_getElem?_getD]; exact h
theorem nextM_fit {r v s : List Int} (h : nextM r v = some s) : inW s := rowM_fit (fun i x hx => stepM_fit hx) h
theorem rest_props {v : List Int} (hv : 1 ≤ v.length) : ∀ {f : Nat} {r s : List Int}, r.length < f → inW r → nz r → restM v f r = some s → s.length < v.length ∧ inW s ∧ nz s
  | 0, r, s, hf, _, _, _ => by omega
  | f + 1, r, s, hf, hr, hz, h => by
    simp only [restM] at h
    by_cases hc : r.length < v.length
    · rw [if_pos hc] at h; injection h with h; subst h; exact ⟨hc, hr, hz⟩
    · rw [if_neg hc] at h
      split at h
      · cases h
      · rename_i t ht
        have := next_short hv (by omega) ht
        exact rest_props hv (by omega) (nextM_fit ht).short (short_nz t) h
theorem inW.neg {l : List Int} (h : inW l) : inW (negM l) := by
  intro x hx
  obtain ⟨y, hy, rfl⟩ := List.mem_map.1 hx
  have := h y hy
  show (-y).natAbs < bW
  rw [Int.natAbs_neg]; exact this
theorem natAbs_fdiv_le (x : Int) (g : Nat) (hg : g ≠ 0) : (x.fdiv (g : Int)).natAbs ≤ x.natAbs := by
  rw [Int.fdiv_eq_ediv_of_nonneg _ (by omega)]
  have h0 : (0 : Int) < g := by omega
  have h1 := Int.mul_ediv_self_le (x := x) (k := (g : Int)) (by omega)
  have h2 := Int.lt_mul_ediv_self_add (x := x) (k := (g : Int)) h0
  generalize x / (g : Int) = q at *
  rcases Int.lt_or_le q 0 with h | h
  · have h3 : (g : Int) * q ≤ 1 * q := Int.mul_le_mul_of_nonpos_right (by omega) (by omega)
    have h4 : x < 0 := by
      have : (g : Int) * q + g ≤ 0 := by
        have : (g : Int) * (q + 1) ≤ 0 := Int.mul_nonpos_of_nonneg_of_nonpos (by omega) (by omega)
        rw [Int.mul_add, Int.mul_one] at this; exact this
      omega
    have h5 : x ≤ q := by
      by_cases e : q = -1
      · subst e; omega
      · have : (g : Int) * (q + 1) ≤ 1 * (q + 1) := Int.mul_le_mul_of_nonpos_right (by omega) (by omega)
        rw [Int.mul_add, Int.mul_one, Int.one_mul] at this; omega
    omega
  · have h3 : 1 * q ≤ (g : Int) * q := Int.mul_le_mul_of_nonneg_right (by omega) h
    omega
theorem inW.thin {l : List Int} (h : inW l) (hg : gcdL l 0 ≠ 0) : inW (thinM l) := by
  intro x hx
  obtain ⟨y, hy, rfl⟩ := List.mem_map.1 hx
  exact Nat.lt_of_le_of_lt (natAbs_fdiv_le y _ hg) (h y hy)
theorem gcdL_dvd : ∀ (l : List Int) (g : Nat), gcdL l g ∣ g ∧ ∀ x ∈ l, gcdL l g ∣ x.natAbs
  | [], g => ⟨Nat.dvd_refl _, fun x hx => by cases hx⟩
  | y :: l, g => by
    rw [gcdL_cons]
    obtain ⟨h1, h2⟩ := gcdL_dvd l (Nat.gcd g y.natAbs)
    refine ⟨Nat.dvd_trans h1 (Nat.gcd_dvd_left _ _), fun x hx => ?_⟩
    rcases List.mem_cons.1 hx with rfl | hx
    · exact Nat.dvd_trans h1 (Nat.gcd_dvd_right _ _)
    · exact h2 x hx
theorem gcdL_ne {l : List Int} (hz : nz l) (hl : l ≠ []) : gcdL l 0 ≠ 0 := by
  intro h0
  rcases hz with h | h
  · exact hl h
  · have hlen : 0 < l.length := by cases l with
      | nil => exact absurd rfl hl
      | cons => simp
    have hm : l.getD (l.length - 1) 0 ∈ l := by
      rw [List.getD_eq_getElem?_getD, List.getElem?_eq_getElem (by omega)]; exact List.getElem_mem _
    have := (gcdL_dvd l 0).2 _ hm
    rw [h0] at this
    have := Nat.eq_zero_of_zero_dvd this
    omega
/-- A chain, from two polynomials on. -/
def chainM (opp : Bool) : Nat → List (List Int) → List Int → List Int → Option (List (List Int))
  | 0, acc, _, _ => some acc
  | n + 1, acc, u, v => match restM v (u.length + 1) (short u) with
    | none => none
    | some r => if r.length = 0 then some acc else chainM opp n (acc ++ [thinM (if opp then negM r else r)]) v (thinM (if opp then negM r else r))
/-- A frozen row of rows. -/
abbrev roC (ls : List (List Int)) : AV := .ro 1 ls.length (ls.map roW)
def oC : Option (List (List Int)) → AV
  | some ls => .tup [roC ls, .raw (.int .i64 0)]
  | none => .tup [roC [], .raw (.int .i64 3)]
theorem noix_oC (o : Option (List (List Int))) : noix (oC o) := by cases o <;> exact ⟨trivial, trivial, trivial⟩
end Go.Proofs.Lite

namespace Go.Proofs.Lite
open Go
def rws (ls : List (List Int)) : List AV := ls.map roW
theorem rws_length (l : List (List Int)) : (rws l).length = l.length := by simp [rws]
theorem rws_append (a b : List (List Int)) : rws (a ++ b) = rws a ++ rws b := by simp [rws]
theorem noixL_rws (l : List (List Int)) : noixL (rws l) := by
  induction l with
  | nil => trivial
  | cons a l ih => exact ⟨trivial, ih⟩
theorem ones_rws (l : List (List Int)) : ones (rws l) := by
  induction l with
  | nil => trivial
  | cons a l ih => exact ⟨trivial, ih⟩
theorem rws_get {l : List (List Int)} {i : Nat} (h : i < l.length) : ((rws l).drop i).getD 0 .junk = roW (l.getD i []) := by
  simp [rws, List.getD_eq_getElem?_getD, h]
theorem mv_rws (j i : Nat) (l : List (List Int)) : mvL j i (rws l) = rws l := mvL_noix _ (noixL_rws l)
theorem cut_rws (n : Nat) (l : List (List Int)) : cutL n (rws l) = rws l := cutL_noix _ (noixL_rws l)
section
variable {P : Program} {F : FnsA} (h : IsA P F)
include h
set_option maxRecDepth 20000 in
theorem S_l05Chain_pf (u v : List Int) (opp : Bool) (hu : u.length ≤ 1000) (hv : v.length ≤ 1000) (hv1 : 1 ≤ v.length) (hru : inW u) (hrv : inW v) (hz : nz v) : Pf P F.S_l05Chain [roW u, roW v, .raw (.bool opp)] (oC (chainM opp (v.length + 1) [u, v] u v)) := by
  refine pf_of h.S_l05Chain ⟨trivial, trivial, trivial, trivial⟩ (noix_oC _) ?_
  obtain ⟨RES, hRES⟩ : ∃ R, chainM opp (v.length + 1) [u, v] u v = R := ⟨_, rfl⟩
  rw [hRES]
  simp (disch := omega) only [seval, ↓SDX, isRes, slEl, bslParts, mmAll, mmR, SUX, List.replicate, List.append, pr, lr, er, binR, ev, putA, List.set, intOf, takeAg, cellsOf, wrAll, partsOk, ones, one, isOne, wok1, findPE, List.find?, nop, prlr, isPure, pickR, optInt, rets, rv, rvs, S_l05Chain_c, CN, NW, IntKind.bits]
  refine loop_st (fun s : Nat × List (List Int) × List Int × List Int => s.1) (fun s => ([.junk, .junk, .raw (.bool opp), .junk, .junk, .junk, .raw (.slice none 0 0), .raw (.int .i64 0), .sl 0 1 0 s.2.1.length true] ++ List.replicate 38 .junk)) (fun s => [.c (rws s.2.1)])
    (fun s => s.2.2.2.length < s.1 ∧ 2 ≤ s.2.1.length ∧ s.2.1.length + s.2.2.2.length ≤ 1002 ∧ s.2.1.getD (s.2.1.length - 2) [] = s.2.2.1 ∧ s.2.1.getD (s.2.1.length - 1) [] = s.2.2.2 ∧ s.2.2.1.length ≤ 1000 ∧ 1 ≤ s.2.2.2.length ∧ inW s.2.2.1 ∧ inW s.2.2.2 ∧ chainM opp s.1 s.2.1 s.2.2.1 s.2.2.2 = RES) (v.length + 1, [u, v], u, v)
    ⟨by dsimp only; omega, by simp, by simp; omega, rfl, rfl, hu, hv1, hru, hrv, hRES⟩ ?_ ?_
  · dsimp only
    simp only [List.length_cons, List.length_nil, Nat.zero_add, Nat.reduceAdd]
    exact Wk.tmps (by simp only [fits, eq_self, and_self, Int.cast_ofNat_Int, Int.natCast_add, and_true, true_and, List.replicate, List.cons_append, List.nil_append])
  rintro ⟨f, acc, a, b⟩ ⟨hf, hl2, hlb, hga, hgb, hal, hb1, hra, hrb, hres⟩
  dsimp only at hf hl2 hlb hga hgb hal hb1 hra hrb hres ⊢
  clear hRES hru hrv hz hu hv hv1
  obtain ⟨f, rfl⟩ : ∃ f', f = f' + 1 := ⟨f - 1, by omega⟩
  obtain ⟨q, hq⟩ : ∃ q, acc.length = q + 2 := ⟨acc.length - 2, by omega⟩
  have s1 : ((q + 2 : Nat) : Int) - 1 = ((q + 1 : Nat) : Int) := by omega
  have s2 : ((q + 2 : Nat) : Int) - 2 = (q : Int) := by omega
  have g1 := rws_get (l := acc) (i := q) (by omega)
  have g2 := rws_get (l := acc) (i := q + 1) (by omega)
  rw [show q = acc.length - 2 from by omega, hga, show acc.length - 2 = q from by omega] at g1
  rw [show q + 1 = acc.length - 1 from by omega, hgb, show acc.length - 1 = q + 1 from by omega] at g2
  have hrest := S_l05Rest_pf h a b hal (by omega) hb1 hra hrb
  simp only [chainM] at hres
  have hprops := fun r hr => rest_props (v := b) hb1 (f := a.length + 1) (r := short a) (s := r) (by have := short_le a; omega) hra.short (short_nz a) hr
  obtain ⟨R, hR⟩ : ∃ R, restM b (a.length + 1) (short a) = R := ⟨_, rfl⟩
  rw [hR] at hrest hres hprops
  clear hga hra hR
  simp (disch := omega) only [seval, ↓SDX, isRes, slEl, bslParts, mmAll, mmR, SUX, List.replicate, List.append, pr, lr, er, binR, ev, putA, List.set, intOf, takeAg, cellsOf, wrAll, partsOk, ones, one, isOne, wok1, findPE, List.find?, nop, prlr, isPure, pickR, optInt, rets, rv, rvs, CN, NW, rws_length, ones_rws, hq, s1, s2, g1, g2, IntKind.bits]
  refine hrest.step ?_
  cases R with
  | none =>
    dsimp only at hres
    subst hres
    unfold oL oC
    simp (disch := omega) only [seval, ↓SDX, isRes, slEl, bslParts, mmAll, mmR, SUX, List.replicate, List.append, pr, lr, er, binR, ev, putA, List.set, intOf, takeAg, cellsOf, wrAll, partsOk, ones, one, isOne, wok1, findPE, List.find?, nop, prlr, isPure, pickR, optInt, rets, rv, rvs, CN, NW, IntKind.bits]
    refine WkV.frz (i := 1) rfl trivial (WkV.eq ?_ ⟨trivial, trivial, trivial⟩)
    simp [frz, frzL]
  | some r =>
    dsimp only at hres
    obtain ⟨hrl, hri, hrz⟩ := hprops r rfl
    clear hprops
    unfold oL
    by_cases hr0 : r.length = 0
    · rw [if_pos hr0] at hres
      subst hres
      unfold oC
      simp (disch := omega) only [seval, ↓SDX, isRes, slEl, bslParts, mmAll, mmR, SUX, List.replicate, List.append, pr, lr, er, binR, ev, putA, List.set, intOf, takeAg, cellsOf, wrAll, partsOk, ones, one, isOne, wok1, findPE, List.find?, nop, prlr, isPure, pickR, optInt, rets, rv, rvs, CN, NW, hr0, IntKind.bits]
      refine WkV.frz (i := 0) rfl (noixL_rws _) (WkV.eq ?_ ⟨trivial, trivial, trivial⟩)
      simp [frz, frzL, rws, List.take_of_length_le, hq]
    · rw [if_neg hr0] at hres
      have hth : ∀ l : List Int, l.length = r.length → inW l → nz l → True := fun _ _ _ _ => trivial
      cases opp with
      | true =>
        simp only [if_true] at hres
        have hop := S_l05Opposite_pf h r (by omega) hri
        have hne : negM r ≠ [] := by intro e; apply hr0; have := congrArg List.length e; simpa [negM] using this
        have hnz : nz (negM r) := by
          right
          rcases hrz with e | e
          · exact absurd (by rw [e]; rfl) hr0
          · intro e2; apply e
            simp only [negM, List.length_map, List.getD_eq_getElem?_getD, List.getElem?_map] at e2 ⊢
            rw [List.getElem?_eq_getElem (by omega)] at e2 ⊢
            simp only [Option.map_some, Option.getD_some] at e2 ⊢
            omega
        have hln : (negM r).length = r.length := by simp [negM]
        have hthin := S_l05Thin_pf h (negM r) (by omega) hri.neg (gcdL_ne hnz hne)
        have hin := hri.neg.thin (gcdL_ne hnz hne)
        have hlt : (thinM (negM r)).length = r.length := by simp [thinM, negM]
        have hwd : rws acc ++ [roW (thinM (negM r))] = rws (acc ++ [thinM (negM r)]) := by rw [rws_append]; rfl
        generalize thinM (negM r) = t at *
        generalize negM r = ng at *
        have hw1 : wr (raws [Value.slice none 0 0]) 0 [roW t] = [roW t] := rfl
        have hla : (acc ++ [t]).length = q + 2 + 1 := by rw [List.length_append, hq]; rfl
        have hg1 : (acc ++ [t]).getD ((acc ++ [t]).length - 2) [] = b := by
          rw [← hgb, List.getD_eq_getElem?_getD, List.getD_eq_getElem?_getD, hla, hq, List.getElem?_append_left (by omega)]; rfl
        have hg2 : (acc ++ [t]).getD ((acc ++ [t]).length - 1) [] = t := by
          rw [List.getD_eq_getElem?_getD, hla, List.getElem?_append_right (by omega), hq]; simp
        clear hgb
        generalize acc ++ [t] = acc' at *
        clear hri hrz hne hnz hth
        simp (disch := omega) only [seval, ↓SDX, isRes, slEl, bslParts, mmAll, mmR, SUX, List.replicate, List.append, pr, lr, er, binR, ev, putA, List.set, intOf, takeAg, cellsOf, wrAll, partsOk, ones, one, isOne, wok1, findPE, List.find?, nop, prlr, isPure, pickR, optInt, rets, rv, rvs, CN, NW, hr0, IntKind.bits]
        refine hop.step ?_
        simp (disch := omega) only [seval, ↓SDX, isRes, slEl, bslParts, mmAll, mmR, SUX, List.replicate, List.append, pr, lr, er, binR, ev, putA, List.set, intOf, takeAg, cellsOf, wrAll, partsOk, ones, one, isOne, wok1, findPE, List.find?, nop, prlr, isPure, pickR, optInt, rets, rv, rvs, CN, NW, IntKind.bits]
        refine hthin.step ?_
        simp (disch := omega) only [seval, ↓SDX, isRes, slEl, bslParts, mmAll, mmR, SUX, List.replicate, List.append, pr, lr, er, binR, ev, putA, List.set, intOf, takeAg, cellsOf, wrAll, partsOk, ones, one, isOne, wok1, findPE, List.find?, nop, prlr, isPure, pickR, optInt, rets, rv, rvs, CN, NW, hw1, List.take_succ_cons, List.take_zero, rws_length, hq, hwd, IntKind.bits]
        refine ⟨(f, acc', b, t), by dsimp only; omega, ⟨by dsimp only; omega, by dsimp only; omega, by dsimp only; omega, hg1, hg2, by dsimp only; omega, by dsimp only; omega, hrb, hin, hres⟩, ?_⟩
        dsimp only
        rw [hla]
        exact Wk.back (i := 0) (j := 2) (n := 1) (by decide) (by decide) (by decide) rfl rfl (by simp only [mvL, mvAV, cutL, cutAV, fits, DU, eq_self, and_self, and_true, true_and, Int.cast_ofNat_Int, Int.natCast_add, List.replicate, List.cons_append, List.nil_append, ↓reduceIte, Nat.reduceEqDiff, Nat.reduceLT, reduceCtorEq, if_true, if_false, List.map_cons, List.map_nil, List.take_succ_cons, List.take_zero, List.set, mv_rws, cut_rws]) (by simp only [cutH, mvH, mvSg, cutSg, mvL, cutL, DU, eq_self, and_self, and_true, true_and, Int.cast_ofNat_Int, Int.natCast_add, List.replicate, List.cons_append, List.nil_append, ↓reduceIte, Nat.reduceEqDiff, Nat.reduceLT, reduceCtorEq, if_true, if_false, List.map_cons, List.map_nil, List.take_succ_cons, List.take_zero, List.set, mv_rws, cut_rws])
      | false =>
        simp only [Bool.false_eq_true, if_false] at hres
        have hne : r ≠ [] := by intro e; apply hr0; rw [e]; rfl
        have hthin := S_l05Thin_pf h r (by omega) hri (gcdL_ne hrz hne)
        have hin := hri.thin (gcdL_ne hrz hne)
        have hlt : (thinM r).length = r.length := by simp [thinM]
        have hwd : rws acc ++ [roW (thinM r)] = rws (acc ++ [thinM r]) := by rw [rws_append]; rfl
        generalize thinM r = t at *
        have hw1 : wr (raws [Value.slice none 0 0]) 0 [roW t] = [roW t] := rfl
        have hla : (acc ++ [t]).length = q + 2 + 1 := by rw [List.length_append, hq]; rfl
        have hg1 : (acc ++ [t]).getD ((acc ++ [t]).length - 2) [] = b := by
          rw [← hgb, List.getD_eq_getElem?_getD, List.getD_eq_getElem?_getD, hla, hq, List.getElem?_append_left (by omega)]; rfl
        have hg2 : (acc ++ [t]).getD ((acc ++ [t]).length - 1) [] = t := by
          rw [List.getD_eq_getElem?_getD, hla, List.getElem?_append_right (by omega), hq]; simp
        clear hgb
        generalize acc ++ [t] = acc' at *
        clear hri hrz hne hth
        simp (disch := omega) only [seval, ↓SDX, isRes, slEl, bslParts, mmAll, mmR, SUX, List.replicate, List.append, pr, lr, er, binR, ev, putA, List.set, intOf, takeAg, cellsOf, wrAll, partsOk, ones, one, isOne, wok1, findPE, List.find?, nop, prlr, isPure, pickR, optInt, rets, rv, rvs, CN, NW, hr0, IntKind.bits]
        refine hthin.step ?_
        simp (disch := omega) only [seval, ↓SDX, isRes, slEl, bslParts, mmAll, mmR, SUX, List.replicate, List.append, pr, lr, er, binR, ev, putA, List.set, intOf, takeAg, cellsOf, wrAll, partsOk, ones, one, isOne, wok1, findPE, List.find?, nop, prlr, isPure, pickR, optInt, rets, rv, rvs, CN, NW, hw1, List.take_succ_cons, List.take_zero, rws_length, hq, hwd, IntKind.bits]
        refine ⟨(f, acc', b, t), by dsimp only; omega, ⟨by dsimp only; omega, by dsimp only; omega, by dsimp only; omega, hg1, hg2, by dsimp only; omega, by dsimp only; omega, hrb, hin, hres⟩, ?_⟩
        dsimp only
        rw [hla]
        exact Wk.back (i := 0) (j := 2) (n := 1) (by decide) (by decide) (by decide) rfl rfl (by simp only [mvL, mvAV, cutL, cutAV, fits, DU, eq_self, and_self, and_true, true_and, Int.cast_ofNat_Int, Int.natCast_add, List.replicate, List.cons_append, List.nil_append, ↓reduceIte, Nat.reduceEqDiff, Nat.reduceLT, reduceCtorEq, if_true, if_false, List.map_cons, List.map_nil, List.take_succ_cons, List.take_zero, List.set, mv_rws, cut_rws]) (by simp only [cutH, mvH, mvSg, cutSg, mvL, cutL, DU, eq_self, and_self, and_true, true_and, Int.cast_ofNat_Int, Int.natCast_add, List.replicate, List.cons_append, List.nil_append, ↓reduceIte, Nat.reduceEqDiff, Nat.reduceLT, reduceCtorEq, if_true, if_false, List.map_cons, List.map_nil, List.take_succ_cons, List.take_zero, List.set, mv_rws, cut_rws])
end
end Go.Proofs.Lite

namespace Go.Proofs.Lite
open Go
def sturmM (p : List Int) : Option (List (List Int)) := chainM true ((slopeM p).length + 1) [p, slopeM p] p (slopeM p)
theorem bW_big : 1000000000000 < bW := by decide
theorem polyOk_facts {p : List Int} (h : polyOk p = true) : 2 ≤ p.length ∧ p.length ≤ 9 ∧ p.getD (p.length - 1) 0 ≠ 0 ∧ ∀ x ∈ p, -1000000 ≤ x ∧ x ≤ 1000000 := by
  simp only [polyOk, Bool.and_eq_true, Bool.not_eq_true', decide_eq_true_eq, decide_eq_false_iff_not, List.all_eq_true] at h
  obtain ⟨⟨⟨h1, h2⟩, h3⟩, h4⟩ := h
  refine ⟨h1, h2, h3, fun x hx => ?_⟩
  have := h4 x hx
  simp only [polyIn, Bool.and_eq_true, decide_eq_true_eq] at this
  omega
theorem slopeM_in {p : List Int} (h : polyOk p = true) : ∀ x ∈ slopeM p, -1000000000 ≤ x ∧ x ≤ 1000000000 := by
  obtain ⟨h1, h2, h3, h4⟩ := polyOk_facts h
  intro x hx
  obtain ⟨i, hi, rfl⟩ := List.mem_map.1 hx
  rw [List.mem_range] at hi
  have hm : p.getD (i + 1) 0 ∈ p := by
    rw [List.getD_eq_getElem?_getD, List.getElem?_eq_getElem (by omega)]; exact List.getElem_mem _
  have := h4 _ hm
  generalize p.getD (i + 1) 0 = y at *
  have hi2 : i < 8 := by omega
  have : i = 0 ∨ i = 1 ∨ i = 2 ∨ i = 3 ∨ i = 4 ∨ i = 5 ∨ i = 6 ∨ i = 7 := by omega
  rcases this with rfl | rfl | rfl | rfl | rfl | rfl | rfl | rfl <;> omega
theorem slopeM_nz {p : List Int} (h : polyOk p = true) : nz (slopeM p) := by
  obtain ⟨h1, h2, h3, h4⟩ := polyOk_facts h
  right
  rw [slopeM_length, slopeM_get (by omega), show p.length - 1 - 1 + 1 = p.length - 1 from by omega]
  intro e
  rcases Int.mul_eq_zero.1 e with e | e
  · omega
  · exact h3 e
section
variable {P : Program} {F : FnsA} (h : IsA P F)
include h
set_option maxRecDepth 20000 in
theorem S_l05Sturm_pf (p : List Int) (hp : polyOk p = true) : Pf P F.S_l05Sturm [roI p] (oC (sturmM p)) := by
  refine pf_of h.S_l05Sturm ⟨trivial, trivial⟩ (noix_oC _) ?_
  obtain ⟨h1, h2, h3, h4⟩ := polyOk_facts hp
  have h5 := slopeM_in hp
  have hB := bW_big
  have hl := slopeM_length p
  have hw := S_l05Wides_pf h p (by omega) (fun x hx => by have := h4 x hx; omega)
  have hs := S_l05Slope_pf h p (by omega) (by omega) h4
  have hw2 := S_l05Wides_pf h (slopeM p) (by omega) (fun x hx => by have := h5 x hx; omega)
  have hc := S_l05Chain_pf h p (slopeM p) true (by omega) (by omega) (by omega) (fun x hx => by have := h4 x hx; omega) (fun x hx => by have := h5 x hx; omega) (slopeM_nz hp)
  unfold sturmM
  generalize chainM true ((slopeM p).length + 1) [p, slopeM p] p (slopeM p) = R at *
  generalize slopeM p = s at *
  clear h1 h2 h3 h4 h5 hl hp hB
  simp (disch := omega) only [seval, ↓SDX, isRes, slEl, bslParts, mmAll, mmR, SUX, List.replicate, List.append, pr, lr, er, binR, ev, putA, List.set, intOf, takeAg, cellsOf, wrAll, partsOk, ones, one, isOne, wok1, findPE, List.find?, nop, prlr, isPure, pickR, optInt, rets, rv, rvs, S_l05Sturm_c, IntKind.bits]
  refine hw.step ?_
  simp (disch := omega) only [seval, ↓SDX, isRes, slEl, bslParts, mmAll, mmR, SUX, List.replicate, List.append, pr, lr, er, binR, ev, putA, List.set, intOf, takeAg, cellsOf, wrAll, partsOk, ones, one, isOne, wok1, findPE, List.find?, nop, prlr, isPure, pickR, optInt, rets, rv, rvs, IntKind.bits]
  refine hs.step ?_
  simp (disch := omega) only [seval, ↓SDX, isRes, slEl, bslParts, mmAll, mmR, SUX, List.replicate, List.append, pr, lr, er, binR, ev, putA, List.set, intOf, takeAg, cellsOf, wrAll, partsOk, ones, one, isOne, wok1, findPE, List.find?, nop, prlr, isPure, pickR, optInt, rets, rv, rvs, IntKind.bits]
  refine hw2.step ?_
  simp (disch := omega) only [seval, ↓SDX, isRes, slEl, bslParts, mmAll, mmR, SUX, List.replicate, List.append, pr, lr, er, binR, ev, putA, List.set, intOf, takeAg, cellsOf, wrAll, partsOk, ones, one, isOne, wok1, findPE, List.find?, nop, prlr, isPure, pickR, optInt, rets, rv, rvs, IntKind.bits]
  refine hc.step ?_
  cases R <;> unfold oC
  all_goals
    simp (disch := omega) only [seval, ↓SDX, isRes, slEl, bslParts, mmAll, mmR, SUX, List.replicate, List.append, pr, lr, er, binR, ev, putA, List.set, intOf, takeAg, cellsOf, wrAll, partsOk, ones, one, isOne, wok1, findPE, List.find?, nop, prlr, isPure, pickR, optInt, rets, rv, rvs, IntKind.bits]
    exact WkV.eq (by first | rfl | simp) (by first | trivial | (simp only [noix, noixL, NX, and_true, true_and]; done))
end
end Go.Proofs.Lite

namespace Go.Proofs.Lite
open Go
/-- What a chain holds. -/
def chainOk (ls : List (List Int)) : Prop := 2 ≤ ls.length ∧ ls.length ≤ 2000 ∧ ∀ l ∈ ls, 1 ≤ l.length ∧ l.length ≤ 1000 ∧ inW l
theorem negM_nz {r : List Int} (hrz : nz r) : nz (negM r) := by
  rcases hrz with e | e
  · left; rw [e]; rfl
  · right
    rw [negM_length]
    intro e2; apply e
    simp only [negM, List.getD_eq_getElem?_getD, List.getElem?_map] at e2 ⊢
    cases hx : r[r.length - 1]? with
    | none => rfl
    | some x => rw [hx] at e2; simp only [Option.map_some, Option.getD_some] at e2 ⊢; omega
theorem chainM_ok (opp : Bool) : ∀ (f : Nat) (acc : List (List Int)) (u v : List Int) (out : List (List Int)), v.length < f → 1 ≤ v.length → v.length ≤ 1000 → inW u → acc.length + v.length ≤ 2000 → chainOk acc → chainM opp f acc u v = some out → inW v → chainOk out
  | 0, _, _, _, _, hf, _, _, _, _, _, _, _ => by omega
  | f + 1, acc, u, v, out, hf, hv1, hv, hu, hl, hok, hc, hiv => by
    simp only [chainM] at hc
    split at hc
    · cases hc
    · rename_i r hr
      obtain ⟨h1, h2, h3⟩ := rest_props (v := v) hv1 (f := u.length + 1) (r := short u) (s := r) (by have := short_le u; omega) hu.short (short_nz u) hr
      by_cases h0 : r.length = 0
      · rw [if_pos h0] at hc; injection hc with hc; subst hc; exact hok
      · rw [if_neg h0] at hc
        obtain ⟨s, hs⟩ : ∃ s, (if opp then negM r else r) = s := ⟨_, rfl⟩
        have hsl : s.length = r.length := by rw [← hs]; cases opp <;> simp [negM]
        have hsi : inW s := by rw [← hs]; cases opp; exact h2; exact h2.neg
        have hsz : nz s := by rw [← hs]; cases opp; exact h3; exact negM_nz h3
        rw [hs] at hc
        have hne : s ≠ [] := by intro e; rw [e] at hsl; simp at hsl; omega
        have hti := hsi.thin (gcdL_ne hsz hne)
        have htl : (thinM s).length = s.length := by simp [thinM]
        refine chainM_ok opp f _ v (thinM s) out (by omega) (by omega) (by omega) hiv (by rw [List.length_append]; simp only [List.length_cons, List.length_nil]; omega) ?_ hc hti
        obtain ⟨k1, k2, k3⟩ := hok
        refine ⟨by rw [List.length_append]; omega, by rw [List.length_append]; simp only [List.length_cons, List.length_nil]; omega, fun l hl => ?_⟩
        rcases List.mem_append.1 hl with hl | hl
        · exact k3 l hl
        · rw [List.mem_singleton] at hl; subst hl; exact ⟨by omega, by omega, hti⟩
theorem sturmM_ok {p : List Int} (hp : polyOk p = true) {out : List (List Int)} (ho : sturmM p = some out) : chainOk out := by
  obtain ⟨h1, h2, h3, h4⟩ := polyOk_facts hp
  have h5 := slopeM_in hp
  have hB := bW_big
  have hl := slopeM_length p
  have i1 : inW p := fun x hx => by have := h4 x hx; omega
  have i2 : inW (slopeM p) := fun x hx => by have := h5 x hx; omega
  refine chainM_ok true _ _ _ _ out (Nat.lt_succ_self _) (by omega) (by omega) i1 (by simp only [List.length_cons, List.length_nil]; omega) ⟨by simp, by simp, fun l hl2 => ?_⟩ ho i2
  simp only [List.mem_cons, List.not_mem_nil, or_false] at hl2
  rcases hl2 with rfl | rfl
  · exact ⟨by omega, by omega, i1⟩
  · exact ⟨by omega, by omega, i2⟩
def simpleM (p : List Int) : Except Int (List (List Int)) := match sturmM p with
  | none => .error 3
  | some ls => if 1 < (ls.getD (ls.length - 1) []).length then .error 4 else .ok ls
def oE : Except Int (List (List Int)) → AV
  | .ok ls => .tup [roC ls, .raw (.int .i64 0)]
  | .error e => .tup [roC [], .raw (.int .i64 e)]
theorem noix_oE (o : Except Int (List (List Int))) : noix (oE o) := by cases o <;> exact ⟨trivial, trivial, trivial⟩
section
variable {P : Program} {F : FnsA} (h : IsA P F)
include h
set_option maxRecDepth 20000 in
theorem S_l05Simple_pf (p : List Int) (hp : polyOk p = true) : Pf P F.S_l05Simple [roI p] (oE (simpleM p)) := by
  refine pf_of h.S_l05Simple ⟨trivial, trivial⟩ (noix_oE _) ?_
  have hs := S_l05Sturm_pf h p hp
  have hok := fun out ho => sturmM_ok hp (out := out) ho
  unfold simpleM
  obtain ⟨R, hR⟩ : ∃ R, sturmM p = R := ⟨_, rfl⟩
  rw [hR] at hs hok ⊢
  clear hR hp
  simp (disch := omega) only [seval, ↓SDX, isRes, slEl, bslParts, mmAll, mmR, SUX, List.replicate, List.append, pr, lr, er, binR, ev, putA, List.set, intOf, takeAg, cellsOf, wrAll, partsOk, ones, one, isOne, wok1, findPE, List.find?, nop, prlr, isPure, pickR, optInt, rets, rv, rvs, S_l05Simple_c, IntKind.bits]
  refine hs.step ?_
  cases R with
  | none =>
    clear hok
    unfold oE oC
    simp (disch := omega) only [seval, ↓SDX, isRes, slEl, bslParts, mmAll, mmR, SUX, List.replicate, List.append, pr, lr, er, binR, ev, putA, List.set, intOf, takeAg, cellsOf, wrAll, partsOk, ones, one, isOne, wok1, findPE, List.find?, nop, prlr, isPure, pickR, optInt, rets, rv, rvs, CN, IntKind.bits]
    refine WkV.frz (i := 0) rfl trivial (WkV.eq ?_ ⟨trivial, trivial, trivial⟩)
    simp [frz, frzL]
  | some ls =>
    obtain ⟨k1, k2, k3⟩ := hok ls rfl
    obtain ⟨q, hq⟩ : ∃ q, ls.length = q + 1 := ⟨ls.length - 1, by omega⟩
    have s1 : ((q + 1 : Nat) : Int) - 1 = (q : Int) := by omega
    have g1 := rws_get (l := ls) (i := q) (by omega)
    have hm : ls.getD q [] ∈ ls := by rw [List.getD_eq_getElem?_getD, List.getElem?_eq_getElem (by omega)]; exact List.getElem_mem _
    have hml := (k3 _ hm).2.1
    dsimp only
    rw [show ls.length - 1 = q from by omega]
    generalize ls.getD q [] = l at *
    have he : ls.map roW = rws ls := rfl
    clear hok k3 hm
    rw [show oC (some ls) = .tup [.ro 1 ls.length (rws ls), .raw (.int .i64 0)] from rfl]
    by_cases h1 : 1 < l.length
    · rw [if_pos h1]
      unfold oE
      simp (disch := omega) only [seval, ↓SDX, isRes, slEl, bslParts, mmAll, mmR, SUX, List.replicate, List.append, pr, lr, er, binR, ev, putA, List.set, intOf, takeAg, cellsOf, wrAll, partsOk, ones, one, isOne, wok1, findPE, List.find?, nop, prlr, isPure, pickR, optInt, rets, rv, rvs, CN, hq, s1, g1, rws_length, IntKind.bits]
      refine WkV.frz (i := 0) rfl trivial (WkV.eq ?_ ⟨trivial, trivial, trivial⟩)
      simp [frz, frzL]
    · rw [if_neg h1]
      unfold oE
      simp (disch := omega) only [seval, ↓SDX, isRes, slEl, bslParts, mmAll, mmR, SUX, List.replicate, List.append, pr, lr, er, binR, ev, putA, List.set, intOf, takeAg, cellsOf, wrAll, partsOk, ones, one, isOne, wok1, findPE, List.find?, nop, prlr, isPure, pickR, optInt, rets, rv, rvs, CN, hq, s1, g1, rws_length, IntKind.bits]
      refine WkV.eq ?_ ⟨trivial, trivial, trivial⟩
      simp [hq, he]
end
end Go.Proofs.Lite

namespace Go.Proofs.Lite
open Go
theorem hv_fit {a : Int} {pl : Nat} : ∀ {l : List Int} {e : Nat} {s x : Int}, s.natAbs < bW → hv a pl e s l = some x → x.natAbs < bW
  | [], e, s, x, hs, h => by simp only [hv] at h; injection h with h; subst h; exact hs
  | c :: r, e, s, x, hs, h => by
    simp only [hv] at h
    split at h
    · split at h
      · split at h
        · rename_i h3; exact hv_fit h3 h
        · cases h
      · cases h
    · cases h
theorem valueM_fit {p : List Int} {a x : Int} {pl : Nat} (hp : inW p) (hl : 1 ≤ p.length) (h : valueM p a pl = some x) : x.natAbs < bW := hv_fit (hp.get (by omega)) h
/-- How often the sign changes. -/
def turnsN (a : Int) (pl : Nat) : List (List Int) → Nat → Int → Option Nat
  | [], c, _ => some c
  | p :: ps, c, b => match valueM p a pl with
    | none => none
    | some x => if x.sign = 0 then turnsN a pl ps c b else turnsN a pl ps (if x.sign = -b then c + 1 else c) x.sign
def oN : Option Nat → AV
  | some n => .tup [.raw (.int .i64 (n : Nat)), .raw (.int .i64 0)]
  | none => .tup [.raw (.int .i64 0), .raw (.int .i64 3)]
theorem noix_oN (o : Option Nat) : noix (oN o) := by cases o <;> exact ⟨trivial, trivial, trivial⟩
section
variable {P : Program} {F : FnsA} (h : IsA P F)
include h
set_option maxRecDepth 20000 in
theorem S_l05Turns_pf (ls : List (List Int)) (a : Int) (pl : Nat) (hok : chainOk ls) (ha : a.natAbs < bW) (hpl : pl ≤ 100) : Pf P F.S_l05Turns [.ro 1 ls.length (rws ls), .agg (wi a), .raw (.int .i64 (pl : Nat))] (oN (turnsN a pl ls 0 0)) := by
  refine pf_of h.S_l05Turns ⟨trivial, noix_wi _, trivial, trivial⟩ (noix_oN _) ?_
  obtain ⟨RES, hRES⟩ : ∃ R, turnsN a pl ls 0 0 = R := ⟨_, rfl⟩
  rw [hRES]
  obtain ⟨-, k2, k3⟩ := hok
  simp (disch := omega) only [seval, ↓SDX, isRes, slEl, bslParts, mmAll, mmR, SUX, List.replicate, List.append, pr, lr, er, binR, ev, putA, List.set, intOf, takeAg, cellsOf, wrAll, partsOk, ones, one, isOne, wok1, findPE, List.find?, nop, prlr, isPure, pickR, optInt, rets, rv, rvs, S_l05Turns_c, CN, NW, IntKind.bits]
  refine loop_st (fun s : Nat × Nat × Int => ls.length - s.1) (fun s => ([.ro 1 ls.length (rws ls), .junk, .raw (.int .i64 (pl : Nat)), .junk, .ptr 0 0, .junk, .raw (.int .i64 0), .raw (.int .i64 0), .raw (.int .i64 (s.2.1 : Nat)), .raw (.int .i64 s.2.2), .raw (.int .i64 (s.1 : Nat))] ++ List.replicate 33 .junk)) (fun s => [.c (wi a)])
    (fun s => s.1 ≤ ls.length ∧ s.2.1 ≤ s.1 ∧ -1 ≤ s.2.2 ∧ s.2.2 ≤ 1 ∧ turnsN a pl (ls.drop s.1) s.2.1 s.2.2 = RES) (0, 0, 0) ⟨Nat.zero_le _, Nat.le_refl _, by decide, by decide, hRES⟩ (Wk.tmps (by simp only [fits, eq_self, and_self, Int.cast_ofNat_Int, Int.natCast_add, and_true, true_and, List.replicate, List.cons_append, List.nil_append])) ?_
  rintro ⟨k, c, b⟩ ⟨hk, hc, hb1, hb2, hres⟩
  dsimp only at hk hc hb1 hb2 hres ⊢
  clear hRES
  by_cases hk2 : k < ls.length
  · have g1 := rws_get hk2
    have hm : ls.getD k [] ∈ ls := by rw [List.getD_eq_getElem?_getD, List.getElem?_eq_getElem hk2]; exact List.getElem_mem _
    obtain ⟨m1, m2, m3⟩ := k3 _ hm
    have hd : ls.drop k = ls.getD k [] :: ls.drop (k + 1) := by rw [List.getD_eq_getElem?_getD, List.getElem?_eq_getElem hk2]; simp
    rw [hd] at hres
    have hval := S_l05Value_pf h (ls.getD k []) a pl m1 m2 m3 ha hpl
    have hvf := fun x hx => valueM_fit (x := x) (a := a) (pl := pl) m3 m1 hx
    simp only [turnsN] at hres
    generalize ls.getD k [] = p at *
    obtain ⟨V, hV⟩ : ∃ V, valueM p a pl = V := ⟨_, rfl⟩
    rw [hV] at hval hres hvf
    clear hV hd hm m3
    simp (disch := omega) only [seval, ↓SDX, isRes, slEl, bslParts, mmAll, mmR, SUX, List.replicate, List.append, pr, lr, er, binR, ev, putA, List.set, intOf, takeAg, cellsOf, wrAll, partsOk, ones, one, isOne, wok1, findPE, List.find?, nop, prlr, isPure, pickR, optInt, rets, rv, rvs, CN, NW, g1, rws_length, IntKind.bits]
    refine hval.step ?_
    cases V with
    | none =>
      dsimp only at hres
      subst hres
      clear hvf
      unfold oW oN
      simp (disch := omega) only [seval, ↓SDX, isRes, slEl, bslParts, mmAll, mmR, SUX, List.replicate, List.append, pr, lr, er, binR, ev, putA, List.set, intOf, takeAg, cellsOf, wrAll, partsOk, ones, one, isOne, wok1, findPE, List.find?, nop, prlr, isPure, pickR, optInt, rets, rv, rvs, CN, NW, IntKind.bits]
      exact WkV.eq (by first | rfl | simp) (by first | trivial | (simp only [noix, noixL, NX, and_true, true_and]; done))
    | some x =>
      dsimp only at hres
      have hx := hvf x rfl
      have hsg := S_l01Sign_wi h x hx
      have hs3 : x.sign = -1 ∨ x.sign = 0 ∨ x.sign = 1 := by
        rcases Int.lt_trichotomy x 0 with e | e | e
        · exact .inl (Int.sign_eq_neg_one_of_neg e)
        · subst e; exact .inr (.inl rfl)
        · exact .inr (.inr (Int.sign_eq_one_of_pos e))
      generalize x.sign = sg at *
      clear hvf
      unfold oW
      simp (disch := omega) only [seval, ↓SDX, isRes, slEl, bslParts, mmAll, mmR, SUX, List.replicate, List.append, pr, lr, er, binR, ev, putA, List.set, intOf, takeAg, cellsOf, wrAll, partsOk, ones, one, isOne, wok1, findPE, List.find?, nop, prlr, isPure, pickR, optInt, rets, rv, rvs, CN, NW, IntKind.bits]
      refine hsg.lend (.p0 rfl (by simp only [CX]) .nil) (by simp only [clean, cleanL, CX, and_true, true_and]) ?_
      clear k3
      by_cases h0 : sg = 0
      · rw [if_pos h0] at hres
        subst h0
        simp (disch := omega) only [seval, ↓SDX, isRes, slEl, bslParts, mmAll, mmR, SUX, List.replicate, List.append, pr, lr, er, binR, ev, putA, List.set, intOf, takeAg, cellsOf, wrAll, partsOk, ones, one, isOne, wok1, findPE, List.find?, nop, prlr, isPure, pickR, optInt, rets, rv, rvs, CN, NW, IntKind.bits]
        exact ⟨(k + 1, c, b), by dsimp only; omega, ⟨by dsimp only; omega, by dsimp only; omega, hb1, hb2, hres⟩, Wk.shed (n := 1) (by decide) (by simp only [fits, eq_self, and_self, Int.cast_ofNat_Int, Int.natCast_add, and_true, true_and, List.replicate, List.cons_append, List.nil_append]) (by simp only [cutL, cutAV, cutSg, CU, List.replicate, List.cons_append, List.nil_append, Nat.reduceLT, if_true, if_false, List.map_cons, List.map_nil, List.take_succ_cons, List.take_zero]) (by simp only [cutH, cutL, cutAV, cutSg, CU, List.replicate, List.cons_append, List.nil_append, Nat.reduceLT, if_true, if_false, List.map_cons, List.map_nil, List.take_succ_cons, List.take_zero])⟩
      rw [if_neg h0] at hres
      by_cases h1 : sg = -b
      · rw [if_pos h1] at hres
        simp (disch := omega) only [seval, ↓SDX, isRes, slEl, bslParts, mmAll, mmR, SUX, List.replicate, List.append, pr, lr, er, binR, ev, putA, List.set, intOf, takeAg, cellsOf, wrAll, partsOk, ones, one, isOne, wok1, findPE, List.find?, nop, prlr, isPure, pickR, optInt, rets, rv, rvs, CN, NW, IntKind.bits]
        exact ⟨(k + 1, c + 1, sg), by dsimp only; omega, ⟨by dsimp only; omega, by dsimp only; omega, by dsimp only; omega, by dsimp only; omega, hres⟩, Wk.shed (n := 1) (by decide) (by simp only [fits, eq_self, and_self, Int.cast_ofNat_Int, Int.natCast_add, and_true, true_and, List.replicate, List.cons_append, List.nil_append]) (by simp only [cutL, cutAV, cutSg, CU, List.replicate, List.cons_append, List.nil_append, Nat.reduceLT, if_true, if_false, List.map_cons, List.map_nil, List.take_succ_cons, List.take_zero]) (by simp only [cutH, cutL, cutAV, cutSg, CU, List.replicate, List.cons_append, List.nil_append, Nat.reduceLT, if_true, if_false, List.map_cons, List.map_nil, List.take_succ_cons, List.take_zero])⟩
      · rw [if_neg h1] at hres
        simp (disch := omega) only [seval, ↓SDX, isRes, slEl, bslParts, mmAll, mmR, SUX, List.replicate, List.append, pr, lr, er, binR, ev, putA, List.set, intOf, takeAg, cellsOf, wrAll, partsOk, ones, one, isOne, wok1, findPE, List.find?, nop, prlr, isPure, pickR, optInt, rets, rv, rvs, CN, NW, IntKind.bits]
        exact ⟨(k + 1, c, sg), by dsimp only; omega, ⟨by dsimp only; omega, by dsimp only; omega, by dsimp only; omega, by dsimp only; omega, hres⟩, Wk.shed (n := 1) (by decide) (by simp only [fits, eq_self, and_self, Int.cast_ofNat_Int, Int.natCast_add, and_true, true_and, List.replicate, List.cons_append, List.nil_append]) (by simp only [cutL, cutAV, cutSg, CU, List.replicate, List.cons_append, List.nil_append, Nat.reduceLT, if_true, if_false, List.map_cons, List.map_nil, List.take_succ_cons, List.take_zero]) (by simp only [cutH, cutL, cutAV, cutSg, CU, List.replicate, List.cons_append, List.nil_append, Nat.reduceLT, if_true, if_false, List.map_cons, List.map_nil, List.take_succ_cons, List.take_zero])⟩
  · have hk3 : k = ls.length := by omega
    subst hk3
    rw [List.drop_length] at hres
    simp only [turnsN] at hres
    subst hres
    unfold oN
    clear k3
    simp (disch := omega) only [seval, ↓SDX, isRes, slEl, bslParts, mmAll, mmR, SUX, List.replicate, List.append, pr, lr, er, binR, ev, putA, List.set, intOf, takeAg, cellsOf, wrAll, partsOk, ones, one, isOne, wok1, findPE, List.find?, nop, prlr, isPure, pickR, optInt, rets, rv, rvs, CN, NW, rws_length, IntKind.bits]
    exact WkV.eq (by first | rfl | simp) (by first | trivial | (simp only [noix, noixL, NX, and_true, true_and]; done))
end
end Go.Proofs.Lite

namespace Go.Proofs.Lite
open Go
theorem turnsN_le {a : Int} {pl : Nat} : ∀ {l : List (List Int)} {c n : Nat} {b : Int}, turnsN a pl l c b = some n → n ≤ c + l.length
  | [], c, n, b, h => by simp only [turnsN] at h; injection h with h; subst h; exact Nat.le_add_right _ _
  | p :: l, c, n, b, h => by
    simp only [turnsN] at h
    rw [List.length_cons]
    split at h
    · cases h
    · split at h
      · have := turnsN_le h; omega
      · have := turnsN_le h
        split at this <;> omega
def countM (ls : List (List Int)) (a b : Int) (pl : Nat) : Option Int := match turnsN a pl ls 0 0 with
  | none => none
  | some x => match turnsN b pl ls 0 0 with
    | none => none
    | some y => some ((x : Int) - (y : Int))
def oZ : Option Int → AV
  | some n => .tup [.raw (.int .i64 n), .raw (.int .i64 0)]
  | none => .tup [.raw (.int .i64 0), .raw (.int .i64 3)]
theorem noix_oZ (o : Option Int) : noix (oZ o) := by cases o <;> exact ⟨trivial, trivial, trivial⟩
section
variable {P : Program} {F : FnsA} (h : IsA P F)
include h
set_option maxRecDepth 20000 in
theorem S_l05Count_pf (ls : List (List Int)) (a b : Int) (pl : Nat) (hok : chainOk ls) (ha : a.natAbs < bW) (hb : b.natAbs < bW) (hpl : pl ≤ 100) : Pf P F.S_l05Count [.ro 1 ls.length (rws ls), .agg (wi a), .agg (wi b), .raw (.int .i64 (pl : Nat))] (oZ (countM ls a b pl)) := by
  refine pf_of h.S_l05Count ⟨trivial, noix_wi _, noix_wi _, trivial, trivial⟩ (noix_oZ _) ?_
  have t1 := S_l05Turns_pf h ls a pl hok ha hpl
  have t2 := S_l05Turns_pf h ls b pl hok hb hpl
  have l1 := fun n hn => turnsN_le (a := a) (pl := pl) (l := ls) (c := 0) (b := 0) (n := n) hn
  have l2 := fun n hn => turnsN_le (a := b) (pl := pl) (l := ls) (c := 0) (b := 0) (n := n) hn
  obtain ⟨-, k2, -⟩ := hok
  unfold countM
  generalize turnsN a pl ls 0 0 = X at *
  generalize turnsN b pl ls 0 0 = Y at *
  cases X with
  | none =>
    clear l1 l2
    unfold oZ
    simp (disch := omega) only [seval, ↓SDX, isRes, slEl, bslParts, mmAll, mmR, SUX, List.replicate, List.append, pr, lr, er, binR, ev, putA, List.set, intOf, takeAg, cellsOf, wrAll, partsOk, ones, one, isOne, wok1, findPE, List.find?, nop, prlr, isPure, pickR, optInt, rets, rv, rvs, S_l05Count_c, CN, NW, IntKind.bits]
    refine t1.step ?_
    unfold oN
    simp (disch := omega) only [seval, ↓SDX, isRes, slEl, bslParts, mmAll, mmR, SUX, List.replicate, List.append, pr, lr, er, binR, ev, putA, List.set, intOf, takeAg, cellsOf, wrAll, partsOk, ones, one, isOne, wok1, findPE, List.find?, nop, prlr, isPure, pickR, optInt, rets, rv, rvs, CN, NW, IntKind.bits]
    exact WkV.eq (by first | rfl | simp) (by first | trivial | (simp only [noix, noixL, NX, and_true, true_and]; done))
  | some x =>
    have := l1 x rfl
    clear l1
    cases Y with
    | none =>
      clear l2
      unfold oZ
      simp (disch := omega) only [seval, ↓SDX, isRes, slEl, bslParts, mmAll, mmR, SUX, List.replicate, List.append, pr, lr, er, binR, ev, putA, List.set, intOf, takeAg, cellsOf, wrAll, partsOk, ones, one, isOne, wok1, findPE, List.find?, nop, prlr, isPure, pickR, optInt, rets, rv, rvs, S_l05Count_c, CN, NW, IntKind.bits]
      refine t1.step ?_
      unfold oN
      simp (disch := omega) only [seval, ↓SDX, isRes, slEl, bslParts, mmAll, mmR, SUX, List.replicate, List.append, pr, lr, er, binR, ev, putA, List.set, intOf, takeAg, cellsOf, wrAll, partsOk, ones, one, isOne, wok1, findPE, List.find?, nop, prlr, isPure, pickR, optInt, rets, rv, rvs, CN, NW, IntKind.bits]
      refine t2.step ?_
      unfold oN
      simp (disch := omega) only [seval, ↓SDX, isRes, slEl, bslParts, mmAll, mmR, SUX, List.replicate, List.append, pr, lr, er, binR, ev, putA, List.set, intOf, takeAg, cellsOf, wrAll, partsOk, ones, one, isOne, wok1, findPE, List.find?, nop, prlr, isPure, pickR, optInt, rets, rv, rvs, CN, NW, IntKind.bits]
      exact WkV.eq (by first | rfl | simp) (by first | trivial | (simp only [noix, noixL, NX, and_true, true_and]; done))
    | some y =>
      have := l2 y rfl
      clear l2
      unfold oZ
      simp (disch := omega) only [seval, ↓SDX, isRes, slEl, bslParts, mmAll, mmR, SUX, List.replicate, List.append, pr, lr, er, binR, ev, putA, List.set, intOf, takeAg, cellsOf, wrAll, partsOk, ones, one, isOne, wok1, findPE, List.find?, nop, prlr, isPure, pickR, optInt, rets, rv, rvs, S_l05Count_c, CN, NW, IntKind.bits]
      refine t1.step ?_
      unfold oN
      simp (disch := omega) only [seval, ↓SDX, isRes, slEl, bslParts, mmAll, mmR, SUX, List.replicate, List.append, pr, lr, er, binR, ev, putA, List.set, intOf, takeAg, cellsOf, wrAll, partsOk, ones, one, isOne, wok1, findPE, List.find?, nop, prlr, isPure, pickR, optInt, rets, rv, rvs, CN, NW, IntKind.bits]
      refine t2.step ?_
      unfold oN
      simp (disch := omega) only [seval, ↓SDX, isRes, slEl, bslParts, mmAll, mmR, SUX, List.replicate, List.append, pr, lr, er, binR, ev, putA, List.set, intOf, takeAg, cellsOf, wrAll, partsOk, ones, one, isOne, wok1, findPE, List.find?, nop, prlr, isPure, pickR, optInt, rets, rv, rvs, CN, NW, IntKind.bits]
      exact WkV.eq (by first | rfl | simp) (by first | trivial | (simp only [noix, noixL, NX, and_true, true_and]; done))
end
end Go.Proofs.Lite

namespace Go.Proofs.Lite
open Go
section
variable {P : Program} {f : FuncId}
/-- Less may be known of what is handed over. -/
inductive Wkn : List AV → List AV → Prop
  | nil : Wkn [] []
  | v {a : AV} {as bs : List AV} : Wkn as bs → Wkn (a :: as) (a :: bs)
  | p {cs ds : List AV} {as bs : List AV} (k : Nat) : cs.take k = ds → Wkn as bs → Wkn (.rp cs :: as) (.rp ds :: bs)
theorem Wkn.rep {as bs : List AV} (h : Wkn as bs) {D : Store} {ρ : Env} : ∀ {vs : List Value}, RepL D ρ as vs → RepL D ρ bs vs := by
  induction h with
  | nil => exact fun h => h
  | v _ ih => intro vs hv; cases vs with
    | nil => simp [RepL] at hv
    | cons v vs => simp only [RepL] at hv ⊢; exact ⟨hv.1, ih hv.2⟩
  | p k hk _ ih => intro vs hv; cases vs with
    | nil => simp [RepL] at hv
    | cons v vs =>
      simp only [RepL, Rep] at hv ⊢
      obtain ⟨⟨a, h1, h2⟩, h3⟩ := hv
      exact ⟨⟨a, h1, hk ▸ h2.take k⟩, ih h3⟩
end
theorem cleanL_append' : ∀ {a b : List AV}, cleanL a → cleanL b → cleanL (a ++ b)
  | [], _, _, hb => hb
  | _ :: _, _, ha, hb => ⟨ha.1, cleanL_append' ha.2 hb⟩
def pc (n1 : Bool) (A1 : Nat) (n2 : Bool) (A2 : Nat) (pl : Int) : List AV := wd n1 A1 ++ (wd n2 A2 ++ [.raw (.int .i64 pl)])
def pi (a b pl : Int) : List AV := wi a ++ (wi b ++ [.raw (.int .i64 pl)])
section
variable (n1 n2 : Bool) (A1 A2 : Nat) (a b pl : Int)
theorem pc_take7 : (pc n1 A1 n2 A2 pl).take 7 = wd n1 A1 := by unfold pc; rw [List.take_append_of_le_length (by rw [wd_length]; decide), List.take_of_length_le (by rw [wd_length]; decide)]
theorem pc_drop7 : (pc n1 A1 n2 A2 pl).drop 7 = wd n2 A2 ++ [.raw (.int .i64 pl)] := by unfold pc; rw [List.drop_append, List.drop_of_length_le (by rw [wd_length]; decide), wd_length]; rfl
theorem pc_drop7t : ((pc n1 A1 n2 A2 pl).drop 7).take 7 = wd n2 A2 := by rw [pc_drop7, List.take_append_of_le_length (by rw [wd_length]; decide), List.take_of_length_le (by rw [wd_length]; decide)]
theorem pc_drop14 : (pc n1 A1 n2 A2 pl).drop 14 = [.raw (.int .i64 pl)] := by
  rw [show 14 = 7 + 7 from rfl, ← List.drop_drop, pc_drop7, List.drop_append, List.drop_of_length_le (by rw [wd_length]; decide), wd_length]; rfl
theorem pc_length : (pc n1 A1 n2 A2 pl).length = 15 := by simp [pc, wd_length]
theorem pc_len7 : ((pc n1 A1 n2 A2 pl).drop 7).length = 8 := by rw [List.length_drop, pc_length]
theorem clean_pc : cleanL (pc n1 A1 n2 A2 pl) := cleanL_append' (clean_wd _ _) (cleanL_append' (clean_wd _ _) ⟨trivial, trivial⟩)
theorem ones_pc : ones (pc n1 A1 n2 A2 pl) := ones_append.2 ⟨ones_wd _ _, ones_append.2 ⟨ones_wd _ _, rfl, trivial⟩⟩
theorem pi_take7 : (pi a b pl).take 7 = wi a := pc_take7 ..
theorem pi_drop7t : ((pi a b pl).drop 7).take 7 = wi b := pc_drop7t ..
theorem pi_drop14 : (pi a b pl).drop 14 = [.raw (.int .i64 pl)] := pc_drop14 ..
theorem pi_length : (pi a b pl).length = 15 := pc_length ..
theorem pi_len7 : ((pi a b pl).drop 7).length = 8 := pc_len7 ..
theorem clean_pi : cleanL (pi a b pl) := clean_pc ..
theorem ones_pi : ones (pi a b pl) := ones_pc ..
theorem noixL_pi : noixL (pi a b pl) := noixL_clean _ (clean_pi ..)
end
def PI := And.intro @pc_take7 <| And.intro @pc_drop7t <| And.intro @pc_drop14 <| And.intro @pc_length <| And.intro @pc_len7 <| And.intro @ones_pc <| And.intro @pi_take7 <| And.intro @pi_drop7t <| And.intro @pi_drop14 <| And.intro @pi_length <| And.intro @pi_len7 @ones_pi
theorem simpleM_err {p : List Int} {e : Int} (h : simpleM p = .error e) : e = 3 ∨ e = 4 := by
  unfold simpleM at h
  split at h
  · injection h with h; exact .inl h.symm
  · split at h
    · injection h with h; exact .inr h.symm
    · cases h
theorem simpleM_ok {p : List Int} (hp : polyOk p = true) {ls : List (List Int)} (h : simpleM p = .ok ls) : chainOk ls := by
  unfold simpleM at h
  split at h
  · cases h
  · rename_i out ho
    split at h
    · cases h
    · injection h with h; subst h; exact sturmM_ok hp ho
end Go.Proofs.Lite

namespace Go.Proofs.Lite
open Go

/-- Numbers of functions. -/
structure FnsB extends FnsA where
  W_FnExactHasOneZero : Nat
  W_FnExactPartsOf : Nat
  W_FnExactCommonParts : Nat
  W_FnExactRefinePart : Nat
  W_FnExactZeroApprox : Nat
  S_HasOneZero : Nat
  I_HasOneZero : Nat
  S_PartsOf : Nat
  I_PartsOf : Nat
  W_eqPartS : Nat
  W_markPartS : Nat
  W_heldPartS : Nat
  S_CommonParts : Nat
  I_CommonParts : Nat
  S_RefinePart : Nat
  I_RefinePart : Nat
  W_eqPart : Nat
  S_ZeroApprox : Nat
  I_ZeroApprox : Nat
  I_CountZeros : Nat
  S_l05Bound : Nat
  S_l05Cut : Nat
  I_bound : Nat
  I_sturm_split : Nat
  S_l05Common : Nat
  I_calc_commonOf : Nat
  I_calc_slopes : Nat
  I_calc_told : Nat
  S_l05Abs : Nat

def W_FnExactPartsOf_c (F : FnsB) : LF := ⟨(.seq (.reg [⟨(some 2), none, (.mv (.const (.bool false)))⟩]) (.seq (.seq (.reg [⟨(some 13), none, (.mv (.tmp 0))⟩, ⟨(some 14), none, (.lens (.tmp 13))⟩, ⟨(some 15), none, (.bin .gtr (.tmp 14) (.const (.int .i64 1048576)))⟩]) (.cond (.tmp 15) (.seq (.reg [⟨(some 2), none, (.mv (.const (.bool true)))⟩]) .ret) .skip)) (.seq (.reg [⟨(some 17), none, (.mv (.tmp 0))⟩, ⟨(some 18), none, (.call F.W_toInt64S [(.tmp 17)])⟩, ⟨(some 19), none, (.call F.S_PartsOf [(.tmp 18)])⟩, ⟨(some 16), none, (.mv (.tmp 19))⟩, ⟨(some 20), none, (.ext 0 (.tmp 16))⟩, ⟨(some 21), none, (.ext 1 (.tmp 16))⟩, ⟨(some 3), none, (.mv (.tmp 20))⟩, ⟨(some 4), none, (.mv (.tmp 21))⟩]) (.seq (.reg [⟨(some 22), none, (.mv (.tmp 0))⟩, ⟨(some 23), none, (.call F.W_toInt64S [(.tmp 22)])⟩, ⟨(some 5), none, (.mv (.tmp 23))⟩]) (.seq (.reg [⟨(some 25), none, (.mv (.tmp 5))⟩, ⟨(some 26), none, (.call F.I_PartsOf [(.tmp 25)])⟩, ⟨(some 24), none, (.mv (.tmp 26))⟩, ⟨(some 27), none, (.ext 0 (.tmp 24))⟩, ⟨(some 28), none, (.ext 1 (.tmp 24))⟩, ⟨(some 6), none, (.mv (.tmp 27))⟩, ⟨(some 7), none, (.mv (.tmp 28))⟩]) (.seq (.seq (.reg [⟨(some 29), none, (.mv (.tmp 6))⟩, ⟨(some 30), none, (.mv (.tmp 3))⟩, ⟨(some 31), none, (.call F.W_eqPartS [(.tmp 29), (.tmp 30)])⟩, ⟨(some 32), none, (.un .not (.tmp 31))⟩, ⟨(some 33), none, (.mv (.tmp 32))⟩, ⟨(some 34), (some (33, false)), (.mv (.tmp 7))⟩, ⟨(some 35), (some (33, false)), (.mv (.tmp 4))⟩, ⟨(some 36), (some (33, false)), (.bin .neq (.tmp 34) (.tmp 35))⟩, ⟨(some 37), none, (.pick (.tmp 33) (.const (.bool true)) (.tmp 36))⟩]) (.cond (.tmp 37) (.seq (.reg [⟨(some 2), none, (.mv (.const (.bool false)))⟩]) .ret) .skip)) (.seq (.seq (.reg [⟨(some 38), none, (.mv (.tmp 5))⟩, ⟨(some 39), none, (.mv (.tmp 0))⟩, ⟨(some 40), none, (.call F.W_toInt64S [(.tmp 39)])⟩, ⟨(some 41), none, (.call F.W_eqInt64S [(.tmp 38), (.tmp 40)])⟩, ⟨(some 42), none, (.un .not (.tmp 41))⟩]) (.cond (.tmp 42) (.seq (.reg [⟨(some 2), none, (.mv (.const (.bool false)))⟩]) .ret) .skip)) (.seq (.reg [⟨(some 8), none, (.mv (.const (.int .i64 1)))⟩]) (.seq (.reg [⟨(some 43), none, (.mv (.tmp 5))⟩, ⟨(some 44), none, (.mv (.tmp 8))⟩, ⟨(some 45), none, (.call F.W_markInt64S [(.tmp 43), (.tmp 44)])⟩, ⟨(some 8), none, (.mv (.tmp 45))⟩]) (.seq (.seq (.reg [⟨(some 46), none, (.mv (.tmp 8))⟩, ⟨(some 47), none, (.bin .lss (.tmp 46) (.const (.int .i64 0)))⟩, ⟨(some 48), none, (.mv (.tmp 47))⟩, ⟨(some 49), (some (48, false)), (.mv (.tmp 6))⟩, ⟨(some 50), (some (48, false)), (.mv (.tmp 3))⟩, ⟨(some 51), (some (48, false)), (.call F.W_eqPartS [(.tmp 49), (.tmp 50)])⟩, ⟨(some 52), (some (48, false)), (.un .not (.tmp 51))⟩, ⟨(some 53), none, (.pick (.tmp 48) (.const (.bool true)) (.tmp 52))⟩, ⟨(some 54), none, (.mv (.tmp 53))⟩, ⟨(some 55), (some (54, false)), (.mv (.tmp 7))⟩, ⟨(some 56), (some (54, false)), (.mv (.tmp 4))⟩, ⟨(some 57), (some (54, false)), (.bin .neq (.tmp 55) (.tmp 56))⟩, ⟨(some 58), none, (.pick (.tmp 54) (.const (.bool true)) (.tmp 57))⟩]) (.cond (.tmp 58) (.seq (.reg [⟨(some 2), none, (.mv (.const (.bool false)))⟩]) .ret) .skip)) (.seq (.reg [⟨(some 9), none, (.mv (.const (.int .i64 1)))⟩]) (.seq (.reg [⟨(some 59), none, (.mv (.tmp 6))⟩, ⟨(some 60), none, (.mv (.tmp 9))⟩, ⟨(some 61), none, (.call F.W_markPartS [(.tmp 59), (.tmp 60)])⟩, ⟨(some 9), none, (.mv (.tmp 61))⟩]) (.seq (.reg [⟨(some 10), none, (.mv (.const (.int .i64 1)))⟩]) (.seq (.reg [⟨(some 62), none, (.mv (.tmp 6))⟩, ⟨(some 63), none, (.mv (.tmp 10))⟩, ⟨(some 64), none, (.call F.W_heldPartS [(.tmp 62), (.tmp 63)])⟩, ⟨(some 10), none, (.mv (.tmp 64))⟩]) (.seq (.seq (.reg [⟨(some 65), none, (.mv (.tmp 10))⟩, ⟨(some 66), none, (.bin .lss (.tmp 65) (.const (.int .i64 0)))⟩]) (.cond (.tmp 66) (.seq (.reg [⟨(some 2), none, (.mv (.const (.bool false)))⟩]) .ret) .skip)) (.seq (.seq (.reg [⟨(some 67), none, (.mv (.tmp 10))⟩, ⟨(some 68), none, (.mv (.tmp 9))⟩, ⟨(some 69), none, (.bin .neq (.tmp 67) (.tmp 68))⟩]) (.cond (.tmp 69) (.seq (.reg [⟨(some 2), none, (.mv (.const (.bool false)))⟩]) .ret) .skip)) (.seq (.reg [⟨(some 71), none, (.mv (.tmp 0))⟩, ⟨(some 72), none, (.call F.W_toInt64S [(.tmp 71)])⟩, ⟨(some 73), none, (.call F.I_PartsOf [(.tmp 72)])⟩, ⟨(some 70), none, (.mv (.tmp 73))⟩, ⟨(some 74), none, (.ext 0 (.tmp 70))⟩, ⟨(some 75), none, (.ext 1 (.tmp 70))⟩, ⟨(some 11), none, (.mv (.tmp 74))⟩, ⟨(some 12), none, (.mv (.tmp 75))⟩]) (.seq (.seq (.reg [⟨(some 76), none, (.mv (.tmp 11))⟩, ⟨(some 77), none, (.mv (.tmp 3))⟩, ⟨(some 78), none, (.call F.W_eqPartS [(.tmp 76), (.tmp 77)])⟩, ⟨(some 79), none, (.un .not (.tmp 78))⟩, ⟨(some 80), none, (.mv (.tmp 79))⟩, ⟨(some 81), (some (80, false)), (.mv (.tmp 12))⟩, ⟨(some 82), (some (80, false)), (.mv (.tmp 4))⟩, ⟨(some 83), (some (80, false)), (.bin .neq (.tmp 81) (.tmp 82))⟩, ⟨(some 84), none, (.pick (.tmp 80) (.const (.bool true)) (.tmp 83))⟩]) (.cond (.tmp 84) (.seq (.reg [⟨(some 2), none, (.mv (.const (.bool false)))⟩]) .ret) .skip)) (.seq (.reg [⟨(some 10), none, (.mv (.const (.int .i64 1)))⟩]) (.seq (.reg [⟨(some 85), none, (.mv (.tmp 6))⟩, ⟨(some 86), none, (.mv (.tmp 10))⟩, ⟨(some 87), none, (.call F.W_heldPartS [(.tmp 85), (.tmp 86)])⟩, ⟨(some 10), none, (.mv (.tmp 87))⟩]) (.seq (.seq (.reg [⟨(some 88), none, (.mv (.tmp 10))⟩, ⟨(some 89), none, (.bin .lss (.tmp 88) (.const (.int .i64 0)))⟩]) (.cond (.tmp 89) (.seq (.reg [⟨(some 2), none, (.mv (.const (.bool false)))⟩]) .ret) .skip)) (.seq (.seq (.reg [⟨(some 90), none, (.mv (.tmp 10))⟩, ⟨(some 91), none, (.mv (.tmp 9))⟩, ⟨(some 92), none, (.bin .neq (.tmp 90) (.tmp 91))⟩]) (.cond (.tmp 92) (.seq (.reg [⟨(some 2), none, (.mv (.const (.bool false)))⟩]) .ret) .skip)) (.seq (.reg [⟨(some 2), none, (.mv (.const (.bool true)))⟩]) .ret))))))))))))))))))))))), 93, [(.tmp 2)]⟩
def S_PartsOf_c (F : FnsB) : LF := ⟨(.seq (.reg [⟨(some 2), none, (.mv (.const (.slice none 0 0)))⟩, ⟨(some 3), none, (.mv (.const (.int .i64 0)))⟩]) (.seq (.seq (.reg [⟨(some 10), none, (.mv (.tmp 0))⟩, ⟨(some 11), none, (.call F.S_l05Ok [(.tmp 10)])⟩, ⟨(some 12), none, (.un .not (.tmp 11))⟩]) (.cond (.tmp 12) (.seq (.reg [⟨(some 13), none, (.bsl 15 0 [(.bool false), (.int .u32 0), (.int .u32 0), (.int .u32 0), (.int .u32 0), (.int .u32 0), (.int .u32 0), (.bool false), (.int .u32 0), (.int .u32 0), (.int .u32 0), (.int .u32 0), (.int .u32 0), (.int .u32 0), (.int .i64 0)] [])⟩, ⟨(some 2), none, (.mv (.tmp 13))⟩, ⟨(some 3), none, (.mv (.const (.int .i64 1)))⟩]) .ret) .skip)) (.seq (.reg [⟨(some 15), none, (.mv (.tmp 0))⟩, ⟨(some 16), none, (.call F.S_l05Simple [(.tmp 15)])⟩, ⟨(some 14), none, (.mv (.tmp 16))⟩, ⟨(some 17), none, (.ext 0 (.tmp 14))⟩, ⟨(some 18), none, (.ext 1 (.tmp 14))⟩, ⟨(some 4), none, (.mv (.tmp 17))⟩, ⟨(some 5), none, (.mv (.tmp 18))⟩]) (.seq (.seq (.reg [⟨(some 19), none, (.mv (.tmp 5))⟩, ⟨(some 20), none, (.bin .neq (.tmp 19) (.const (.int .i64 0)))⟩]) (.cond (.tmp 20) (.seq (.reg [⟨(some 21), none, (.bsl 15 0 [(.bool false), (.int .u32 0), (.int .u32 0), (.int .u32 0), (.int .u32 0), (.int .u32 0), (.int .u32 0), (.bool false), (.int .u32 0), (.int .u32 0), (.int .u32 0), (.int .u32 0), (.int .u32 0), (.int .u32 0), (.int .i64 0)] [])⟩, ⟨(some 22), none, (.mv (.tmp 5))⟩, ⟨(some 2), none, (.mv (.tmp 21))⟩, ⟨(some 3), none, (.mv (.tmp 22))⟩]) .ret) .skip)) (.seq (.reg [⟨(some 24), none, (.call F.S_l01Of [(.const (.int .i64 1))])⟩, ⟨(some 25), none, (.mv (.tmp 0))⟩, ⟨(some 26), none, (.call F.S_l05Bound [(.tmp 25)])⟩, ⟨(some 27), none, (.call F.S_l01Up [(.tmp 24), (.tmp 26)])⟩, ⟨(some 23), none, (.mv (.tmp 27))⟩, ⟨(some 28), none, (.ext 0 (.tmp 23))⟩, ⟨(some 29), none, (.ext 1 (.tmp 23))⟩, ⟨(some 6), none, (.alloc [(.bool false), (.int .u32 0), (.int .u32 0), (.int .u32 0), (.int .u32 0), (.int .u32 0), (.int .u32 0)])⟩, ⟨none, none, (.store 7 (.tmp 6) (.tmp 28))⟩, ⟨(some 7), none, (.mv (.tmp 29))⟩]) (.seq (.dreg 1 [⟨0, ⟨(some 31), none, (.mv (.tmp 4))⟩, [], []⟩, ⟨1, ⟨(some 32), none, (.load true 7 (.tmp 6))⟩, [], []⟩, ⟨3, ⟨(some 34), none, (.load true 7 (.tmp 6))⟩, [], []⟩, ⟨2, ⟨(some 33), none, (.call F.S_l01Neg [(.tmp 32)])⟩, [1], [3]⟩, ⟨4, ⟨(some 35), none, (.build [(.bool false), (.int .u32 0), (.int .u32 0), (.int .u32 0), (.int .u32 0), (.int .u32 0), (.int .u32 0), (.bool false), (.int .u32 0), (.int .u32 0), (.int .u32 0), (.int .u32 0), (.int .u32 0), (.int .u32 0), (.int .i64 0)] [(0, (7, (.tmp 33))), (7, (7, (.tmp 34)))])⟩, [2, 3, 1], []⟩, ⟨5, ⟨(some 36), none, (.bslAt 0 15 0 [(.bool false), (.int .u32 0), (.int .u32 0), (.int .u32 0), (.int .u32 0), (.int .u32 0), (.int .u32 0), (.bool false), (.int .u32 0), (.int .u32 0), (.int .u32 0), (.int .u32 0), (.int .u32 0), (.int .u32 0), (.int .i64 0)] [])⟩, [], []⟩, ⟨6, ⟨(some 37), none, (.call F.S_l05Cut [(.tmp 31), (.tmp 35), (.tmp 36)])⟩, [0, 4, 5, 2, 3, 1], []⟩, ⟨7, ⟨(some 30), none, (.mv (.tmp 37))⟩, [6, 0, 4, 5, 2, 3, 1], []⟩, ⟨8, ⟨(some 38), none, (.ext 0 (.tmp 30))⟩, [7, 6, 0, 4, 5, 2, 3, 1], []⟩, ⟨9, ⟨(some 39), none, (.ext 1 (.tmp 30))⟩, [7, 6, 0, 4, 5, 2, 3, 1], []⟩, ⟨10, ⟨(some 8), none, (.mv (.tmp 38))⟩, [8, 6, 0, 1, 2, 3, 4, 5, 7], []⟩, ⟨11, ⟨(some 9), none, (.mv (.tmp 39))⟩, [9, 10, 0, 1, 2, 3, 4, 5, 6, 7, 8], []⟩]) (.seq (.seq (.reg [⟨(some 40), none, (.mv (.tmp 9))⟩, ⟨(some 41), none, (.bin .neq (.tmp 40) (.const (.int .i64 0)))⟩]) (.cond (.tmp 41) (.seq (.reg [⟨(some 42), none, (.bsl 15 0 [(.bool false), (.int .u32 0), (.int .u32 0), (.int .u32 0), (.int .u32 0), (.int .u32 0), (.int .u32 0), (.bool false), (.int .u32 0), (.int .u32 0), (.int .u32 0), (.int .u32 0), (.int .u32 0), (.int .u32 0), (.int .i64 0)] [])⟩, ⟨(some 43), none, (.mv (.tmp 9))⟩, ⟨(some 2), none, (.mv (.tmp 42))⟩, ⟨(some 3), none, (.mv (.tmp 43))⟩]) .ret) .skip)) (.seq (.reg [⟨(some 44), none, (.mv (.tmp 8))⟩, ⟨(some 2), none, (.mv (.tmp 44))⟩, ⟨(some 3), none, (.mv (.const (.int .i64 0)))⟩]) .ret)))))))), 45, [(.tmp 2), (.tmp 3)]⟩
def I_PartsOf_c (F : FnsB) : LF := ⟨(.seq (.reg [⟨(some 2), none, (.mv (.const (.slice none 0 0)))⟩, ⟨(some 3), none, (.mv (.const (.int .i64 0)))⟩]) (.seq (.seq (.reg [⟨(some 7), none, (.mv (.tmp 0))⟩, ⟨(some 8), none, (.call F.I_ValidPoly [(.tmp 7)])⟩, ⟨(some 9), none, (.un .not (.tmp 8))⟩]) (.cond (.tmp 9) (.seq (.reg [⟨(some 2), none, (.mv (.const (.slice none 0 0)))⟩, ⟨(some 3), none, (.mv (.const (.int .i64 1)))⟩]) .ret) .skip)) (.seq (.reg [⟨(some 11), none, (.mv (.tmp 0))⟩, ⟨(some 12), none, (.call F.I_newSturm [(.tmp 11)])⟩, ⟨(some 10), none, (.mv (.tmp 12))⟩, ⟨(some 13), none, (.ext 0 (.tmp 10))⟩, ⟨(some 14), none, (.ext 1 (.tmp 10))⟩, ⟨(some 4), none, (.mv (.tmp 13))⟩, ⟨(some 5), none, (.mv (.tmp 14))⟩]) (.seq (.seq (.reg [⟨(some 15), none, (.mv (.tmp 5))⟩, ⟨(some 16), none, (.bin .neq (.tmp 15) (.const (.int .i64 0)))⟩]) (.cond (.tmp 16) (.seq (.reg [⟨(some 17), none, (.mv (.tmp 5))⟩, ⟨(some 2), none, (.mv (.const (.slice none 0 0)))⟩, ⟨(some 3), none, (.mv (.tmp 17))⟩]) .ret) .skip)) (.seq (.reg [⟨(some 18), none, (.mv (.tmp 0))⟩, ⟨(some 19), none, (.call F.I_bound [(.tmp 18)])⟩, ⟨(some 20), none, (.bin .shl (.const (.int .i64 1)) (.tmp 19))⟩, ⟨(some 21), none, (.call F.I_WideOf [(.tmp 20)])⟩, ⟨(some 6), none, (.alloc [(.bool false), (.int .u32 0), (.int .u32 0), (.int .u32 0), (.int .u32 0), (.int .u32 0), (.int .u32 0)])⟩, ⟨none, none, (.store 7 (.tmp 6) (.tmp 21))⟩]) (.seq (.dreg 1 [⟨0, ⟨(some 22), none, (.mv (.tmp 4))⟩, [], []⟩, ⟨2, ⟨(some 24), none, (.load true 7 (.tmp 6))⟩, [], []⟩, ⟨4, ⟨(some 26), none, (.load true 7 (.tmp 6))⟩, [], []⟩, ⟨3, ⟨(some 25), none, (.call F.I_opposite [(.tmp 24)])⟩, [2], [4]⟩, ⟨5, ⟨(some 27), none, (.build [(.bool false), (.int .u32 0), (.int .u32 0), (.int .u32 0), (.int .u32 0), (.int .u32 0), (.int .u32 0), (.bool false), (.int .u32 0), (.int .u32 0), (.int .u32 0), (.int .u32 0), (.int .u32 0), (.int .u32 0), (.int .i64 0)] [(0, (7, (.tmp 25))), (7, (7, (.tmp 26))), (14, (1, (.const (.int .i64 0))))])⟩, [3, 4, 2], []⟩, ⟨1, ⟨(some 23), none, (.bslAt 0 15 0 [(.bool false), (.int .u32 0), (.int .u32 0), (.int .u32 0), (.int .u32 0), (.int .u32 0), (.int .u32 0), (.bool false), (.int .u32 0), (.int .u32 0), (.int .u32 0), (.int .u32 0), (.int .u32 0), (.int .u32 0), (.int .i64 0)] [])⟩, [], []⟩, ⟨6, ⟨(some 28), none, (.call F.I_sturm_split [(.tmp 22), (.tmp 23), (.tmp 27)])⟩, [0, 1, 5, 3, 4, 2], []⟩, ⟨7, ⟨(some 29), none, (.ext 0 (.tmp 28))⟩, [6, 0, 1, 5, 3, 4, 2], []⟩, ⟨8, ⟨(some 30), none, (.ext 1 (.tmp 28))⟩, [6, 0, 1, 5, 3, 4, 2], []⟩, ⟨9, ⟨(some 2), none, (.mv (.tmp 29))⟩, [7, 6, 0, 1, 2, 3, 4, 5, 8], []⟩, ⟨10, ⟨(some 3), none, (.mv (.tmp 30))⟩, [8, 9, 0, 1, 2, 3, 4, 5, 6, 7], []⟩]) .ret)))))), 31, [(.tmp 2), (.tmp 3)]⟩
def W_eqPartS_c (F : FnsB) : LF := ⟨(.seq (.reg [⟨(some 4), none, (.mv (.const (.bool false)))⟩]) (.seq (.seq (.reg [⟨(some 6), none, (.mv (.tmp 0))⟩, ⟨(some 7), none, (.lens (.tmp 6))⟩, ⟨(some 8), none, (.mv (.tmp 1))⟩, ⟨(some 9), none, (.lens (.tmp 8))⟩, ⟨(some 10), none, (.bin .neq (.tmp 7) (.tmp 9))⟩]) (.cond (.tmp 10) (.seq (.reg [⟨(some 4), none, (.mv (.const (.bool false)))⟩]) .ret) .skip)) (.seq (.seq (.reg [⟨(some 5), none, (.mv (.const (.int .i64 0)))⟩]) (.block 0 (.loop (.seq (.seq (.reg [⟨(some 11), none, (.mv (.tmp 5))⟩, ⟨(some 12), none, (.mv (.tmp 0))⟩, ⟨(some 13), none, (.lens (.tmp 12))⟩, ⟨(some 14), none, (.bin .lss (.tmp 11) (.tmp 13))⟩]) (.cond (.tmp 14) .skip (.exit 0))) (.seq (.block 1 (.seq (.dreg 0 [⟨0, ⟨(some 17), none, (.mv (.tmp 0))⟩, [], []⟩, ⟨1, ⟨(some 18), none, (.mv (.tmp 5))⟩, [], []⟩, ⟨2, ⟨(some 19), none, (.isl 15 (.tmp 17) (.tmp 18))⟩, [0, 1], []⟩, ⟨3, ⟨(some 20), none, (.load true 15 (.tmp 19))⟩, [2, 0, 1], []⟩, ⟨4, ⟨(some 21), none, (.mv (.tmp 1))⟩, [], []⟩, ⟨5, ⟨(some 22), none, (.mv (.tmp 5))⟩, [], []⟩, ⟨6, ⟨(some 23), none, (.isl 15 (.tmp 21) (.tmp 22))⟩, [4, 5], []⟩, ⟨7, ⟨(some 24), none, (.load true 15 (.tmp 23))⟩, [6, 4, 5], []⟩, ⟨8, ⟨(some 25), none, (.call F.W_eqPart [(.tmp 20), (.tmp 24)])⟩, [3, 7, 2, 0, 1, 6, 4, 5], []⟩, ⟨9, ⟨(some 26), none, (.un .not (.tmp 25))⟩, [8, 3, 7, 2, 0, 1, 6, 4, 5], []⟩]) (.cond (.tmp 26) (.seq (.reg [⟨(some 4), none, (.mv (.const (.bool false)))⟩]) .ret) .skip))) (.reg [⟨(some 15), none, (.mv (.tmp 5))⟩, ⟨(some 16), none, (.bin .add (.tmp 15) (.const (.int .i64 1)))⟩, ⟨(some 5), none, (.mv (.tmp 16))⟩])))))) (.seq (.reg [⟨(some 4), none, (.mv (.const (.bool true)))⟩]) .ret)))), 27, [(.tmp 4)]⟩
def W_markPartS_c (F : FnsB) : LF := ⟨(.seq (.reg [⟨(some 4), none, (.mv (.const (.int .i64 0)))⟩]) (.seq (.seq (.reg [⟨(some 5), none, (.mv (.const (.int .i64 0)))⟩]) (.block 0 (.loop (.seq (.seq (.reg [⟨(some 8), none, (.mv (.tmp 5))⟩, ⟨(some 9), none, (.mv (.tmp 0))⟩, ⟨(some 10), none, (.lens (.tmp 9))⟩, ⟨(some 11), none, (.bin .lss (.tmp 8) (.tmp 10))⟩]) (.cond (.tmp 11) .skip (.exit 0))) (.seq (.block 1 (.seq (.reg [⟨(some 14), none, (.mv (.tmp 0))⟩, ⟨(some 15), none, (.mv (.tmp 5))⟩, ⟨(some 16), none, (.mv (.tmp 1))⟩, ⟨(some 17), none, (.bin .rem (.tmp 16) (.const (.int .i64 3)))⟩, ⟨(some 18), none, (.bin .eql (.tmp 17) (.const (.int .i64 0)))⟩, ⟨(some 19), none, (.isl 15 (.tmp 14) (.tmp 15))⟩, ⟨(some 20), none, (.fad 0 (.tmp 19))⟩, ⟨(some 21), none, (.fad 0 (.tmp 20))⟩, ⟨none, none, (.store 1 (.tmp 21) (.tmp 18))⟩]) (.seq (.reg [⟨(some 22), none, (.mv (.tmp 1))⟩, ⟨(some 23), none, (.bin .add (.tmp 22) (.const (.int .i64 1)))⟩, ⟨(some 1), none, (.mv (.tmp 23))⟩]) (.seq (.seq (.reg [⟨(some 6), none, (.mv (.const (.int .i64 0)))⟩]) (.block 2 (.loop (.seq (.seq (.reg [⟨(some 24), none, (.mv (.tmp 6))⟩, ⟨(some 25), none, (.bin .lss (.tmp 24) (.const (.int .i64 6)))⟩]) (.cond (.tmp 25) .skip (.exit 2))) (.seq (.block 3 (.seq (.reg [⟨(some 28), none, (.mv (.tmp 0))⟩, ⟨(some 29), none, (.mv (.tmp 5))⟩, ⟨(some 30), none, (.mv (.tmp 6))⟩, ⟨(some 31), none, (.mv (.tmp 1))⟩, ⟨(some 32), none, (.conv .u32 (.tmp 31))⟩, ⟨(some 33), none, (.isl 15 (.tmp 28) (.tmp 29))⟩, ⟨(some 34), none, (.fad 0 (.tmp 33))⟩, ⟨(some 35), none, (.fad 1 (.tmp 34))⟩, ⟨(some 36), none, (.iarr 6 1 (.tmp 35) (.tmp 30))⟩, ⟨none, none, (.store 1 (.tmp 36) (.tmp 32))⟩]) (.reg [⟨(some 37), none, (.mv (.tmp 1))⟩, ⟨(some 38), none, (.bin .add (.tmp 37) (.const (.int .i64 1)))⟩, ⟨(some 1), none, (.mv (.tmp 38))⟩]))) (.reg [⟨(some 26), none, (.mv (.tmp 6))⟩, ⟨(some 27), none, (.bin .add (.tmp 26) (.const (.int .i64 1)))⟩, ⟨(some 6), none, (.mv (.tmp 27))⟩])))))) (.seq (.reg [⟨(some 39), none, (.mv (.tmp 0))⟩, ⟨(some 40), none, (.mv (.tmp 5))⟩, ⟨(some 41), none, (.mv (.tmp 1))⟩, ⟨(some 42), none, (.bin .rem (.tmp 41) (.const (.int .i64 3)))⟩, ⟨(some 43), none, (.bin .eql (.tmp 42) (.const (.int .i64 0)))⟩, ⟨(some 44), none, (.isl 15 (.tmp 39) (.tmp 40))⟩, ⟨(some 45), none, (.fad 7 (.tmp 44))⟩, ⟨(some 46), none, (.fad 0 (.tmp 45))⟩, ⟨none, none, (.store 1 (.tmp 46) (.tmp 43))⟩]) (.seq (.reg [⟨(some 47), none, (.mv (.tmp 1))⟩, ⟨(some 48), none, (.bin .add (.tmp 47) (.const (.int .i64 1)))⟩, ⟨(some 1), none, (.mv (.tmp 48))⟩]) (.seq (.seq (.reg [⟨(some 7), none, (.mv (.const (.int .i64 0)))⟩]) (.block 4 (.loop (.seq (.seq (.reg [⟨(some 49), none, (.mv (.tmp 7))⟩, ⟨(some 50), none, (.bin .lss (.tmp 49) (.const (.int .i64 6)))⟩]) (.cond (.tmp 50) .skip (.exit 4))) (.seq (.block 5 (.seq (.reg [⟨(some 53), none, (.mv (.tmp 0))⟩, ⟨(some 54), none, (.mv (.tmp 5))⟩, ⟨(some 55), none, (.mv (.tmp 7))⟩, ⟨(some 56), none, (.mv (.tmp 1))⟩, ⟨(some 57), none, (.conv .u32 (.tmp 56))⟩, ⟨(some 58), none, (.isl 15 (.tmp 53) (.tmp 54))⟩, ⟨(some 59), none, (.fad 7 (.tmp 58))⟩, ⟨(some 60), none, (.fad 1 (.tmp 59))⟩, ⟨(some 61), none, (.iarr 6 1 (.tmp 60) (.tmp 55))⟩, ⟨none, none, (.store 1 (.tmp 61) (.tmp 57))⟩]) (.reg [⟨(some 62), none, (.mv (.tmp 1))⟩, ⟨(some 63), none, (.bin .add (.tmp 62) (.const (.int .i64 1)))⟩, ⟨(some 1), none, (.mv (.tmp 63))⟩]))) (.reg [⟨(some 51), none, (.mv (.tmp 7))⟩, ⟨(some 52), none, (.bin .add (.tmp 51) (.const (.int .i64 1)))⟩, ⟨(some 7), none, (.mv (.tmp 52))⟩])))))) (.seq (.reg [⟨(some 64), none, (.mv (.tmp 0))⟩, ⟨(some 65), none, (.mv (.tmp 5))⟩, ⟨(some 66), none, (.mv (.tmp 1))⟩, ⟨(some 67), none, (.isl 15 (.tmp 64) (.tmp 65))⟩, ⟨(some 68), none, (.fad 14 (.tmp 67))⟩, ⟨none, none, (.store 1 (.tmp 68) (.tmp 66))⟩]) (.reg [⟨(some 69), none, (.mv (.tmp 1))⟩, ⟨(some 70), none, (.bin .add (.tmp 69) (.const (.int .i64 1)))⟩, ⟨(some 1), none, (.mv (.tmp 70))⟩]))))))))) (.reg [⟨(some 12), none, (.mv (.tmp 5))⟩, ⟨(some 13), none, (.bin .add (.tmp 12) (.const (.int .i64 1)))⟩, ⟨(some 5), none, (.mv (.tmp 13))⟩])))))) (.seq (.reg [⟨(some 71), none, (.mv (.tmp 1))⟩, ⟨(some 4), none, (.mv (.tmp 71))⟩]) .ret))), 72, [(.tmp 4)]⟩
def W_heldPartS_c (F : FnsB) : LF := ⟨(.seq (.reg [⟨(some 4), none, (.mv (.const (.int .i64 0)))⟩]) (.seq (.seq (.reg [⟨(some 5), none, (.mv (.const (.int .i64 0)))⟩]) (.block 0 (.loop (.seq (.seq (.reg [⟨(some 8), none, (.mv (.tmp 5))⟩, ⟨(some 9), none, (.mv (.tmp 0))⟩, ⟨(some 10), none, (.lens (.tmp 9))⟩, ⟨(some 11), none, (.bin .lss (.tmp 8) (.tmp 10))⟩]) (.cond (.tmp 11) .skip (.exit 0))) (.seq (.block 1 (.seq (.seq (.reg [⟨(some 14), none, (.mv (.tmp 0))⟩, ⟨(some 15), none, (.mv (.tmp 5))⟩, ⟨(some 16), none, (.isl 15 (.tmp 14) (.tmp 15))⟩, ⟨(some 17), none, (.fad 0 (.tmp 16))⟩, ⟨(some 18), none, (.fad 0 (.tmp 17))⟩, ⟨(some 19), none, (.load false 1 (.tmp 18))⟩, ⟨(some 20), none, (.mv (.tmp 1))⟩, ⟨(some 21), none, (.bin .rem (.tmp 20) (.const (.int .i64 3)))⟩, ⟨(some 22), none, (.bin .eql (.tmp 21) (.const (.int .i64 0)))⟩, ⟨(some 23), none, (.beq true (.tmp 19) (.tmp 22))⟩]) (.cond (.tmp 23) (.seq (.reg [⟨(some 4), none, (.mv (.const (.int .i64 (-1))))⟩]) .ret) .skip)) (.seq (.reg [⟨(some 24), none, (.mv (.tmp 1))⟩, ⟨(some 25), none, (.bin .add (.tmp 24) (.const (.int .i64 1)))⟩, ⟨(some 1), none, (.mv (.tmp 25))⟩]) (.seq (.seq (.reg [⟨(some 6), none, (.mv (.const (.int .i64 0)))⟩]) (.block 2 (.loop (.seq (.seq (.reg [⟨(some 26), none, (.mv (.tmp 6))⟩, ⟨(some 27), none, (.bin .lss (.tmp 26) (.const (.int .i64 6)))⟩]) (.cond (.tmp 27) .skip (.exit 2))) (.seq (.block 3 (.seq (.seq (.reg [⟨(some 30), none, (.mv (.tmp 0))⟩, ⟨(some 31), none, (.mv (.tmp 5))⟩, ⟨(some 32), none, (.mv (.tmp 6))⟩, ⟨(some 33), none, (.isl 15 (.tmp 30) (.tmp 31))⟩, ⟨(some 34), none, (.fad 0 (.tmp 33))⟩, ⟨(some 35), none, (.fad 1 (.tmp 34))⟩, ⟨(some 36), none, (.iarr 6 1 (.tmp 35) (.tmp 32))⟩, ⟨(some 37), none, (.load false 1 (.tmp 36))⟩, ⟨(some 38), none, (.mv (.tmp 1))⟩, ⟨(some 39), none, (.conv .u32 (.tmp 38))⟩, ⟨(some 40), none, (.bin .neq (.tmp 37) (.tmp 39))⟩]) (.cond (.tmp 40) (.seq (.reg [⟨(some 4), none, (.mv (.const (.int .i64 (-1))))⟩]) .ret) .skip)) (.reg [⟨(some 41), none, (.mv (.tmp 1))⟩, ⟨(some 42), none, (.bin .add (.tmp 41) (.const (.int .i64 1)))⟩, ⟨(some 1), none, (.mv (.tmp 42))⟩]))) (.reg [⟨(some 28), none, (.mv (.tmp 6))⟩, ⟨(some 29), none, (.bin .add (.tmp 28) (.const (.int .i64 1)))⟩, ⟨(some 6), none, (.mv (.tmp 29))⟩])))))) (.seq (.seq (.reg [⟨(some 43), none, (.mv (.tmp 0))⟩, ⟨(some 44), none, (.mv (.tmp 5))⟩, ⟨(some 45), none, (.isl 15 (.tmp 43) (.tmp 44))⟩, ⟨(some 46), none, (.fad 7 (.tmp 45))⟩, ⟨(some 47), none, (.fad 0 (.tmp 46))⟩, ⟨(some 48), none, (.load false 1 (.tmp 47))⟩, ⟨(some 49), none, (.mv (.tmp 1))⟩, ⟨(some 50), none, (.bin .rem (.tmp 49) (.const (.int .i64 3)))⟩, ⟨(some 51), none, (.bin .eql (.tmp 50) (.const (.int .i64 0)))⟩, ⟨(some 52), none, (.beq true (.tmp 48) (.tmp 51))⟩]) (.cond (.tmp 52) (.seq (.reg [⟨(some 4), none, (.mv (.const (.int .i64 (-1))))⟩]) .ret) .skip)) (.seq (.reg [⟨(some 53), none, (.mv (.tmp 1))⟩, ⟨(some 54), none, (.bin .add (.tmp 53) (.const (.int .i64 1)))⟩, ⟨(some 1), none, (.mv (.tmp 54))⟩]) (.seq (.seq (.reg [⟨(some 7), none, (.mv (.const (.int .i64 0)))⟩]) (.block 4 (.loop (.seq (.seq (.reg [⟨(some 55), none, (.mv (.tmp 7))⟩, ⟨(some 56), none, (.bin .lss (.tmp 55) (.const (.int .i64 6)))⟩]) (.cond (.tmp 56) .skip (.exit 4))) (.seq (.block 5 (.seq (.seq (.reg [⟨(some 59), none, (.mv (.tmp 0))⟩, ⟨(some 60), none, (.mv (.tmp 5))⟩, ⟨(some 61), none, (.mv (.tmp 7))⟩, ⟨(some 62), none, (.isl 15 (.tmp 59) (.tmp 60))⟩, ⟨(some 63), none, (.fad 7 (.tmp 62))⟩, ⟨(some 64), none, (.fad 1 (.tmp 63))⟩, ⟨(some 65), none, (.iarr 6 1 (.tmp 64) (.tmp 61))⟩, ⟨(some 66), none, (.load false 1 (.tmp 65))⟩, ⟨(some 67), none, (.mv (.tmp 1))⟩, ⟨(some 68), none, (.conv .u32 (.tmp 67))⟩, ⟨(some 69), none, (.bin .neq (.tmp 66) (.tmp 68))⟩]) (.cond (.tmp 69) (.seq (.reg [⟨(some 4), none, (.mv (.const (.int .i64 (-1))))⟩]) .ret) .skip)) (.reg [⟨(some 70), none, (.mv (.tmp 1))⟩, ⟨(some 71), none, (.bin .add (.tmp 70) (.const (.int .i64 1)))⟩, ⟨(some 1), none, (.mv (.tmp 71))⟩]))) (.reg [⟨(some 57), none, (.mv (.tmp 7))⟩, ⟨(some 58), none, (.bin .add (.tmp 57) (.const (.int .i64 1)))⟩, ⟨(some 7), none, (.mv (.tmp 58))⟩])))))) (.seq (.seq (.reg [⟨(some 72), none, (.mv (.tmp 0))⟩, ⟨(some 73), none, (.mv (.tmp 5))⟩, ⟨(some 74), none, (.isl 15 (.tmp 72) (.tmp 73))⟩, ⟨(some 75), none, (.fad 14 (.tmp 74))⟩, ⟨(some 76), none, (.load false 1 (.tmp 75))⟩, ⟨(some 77), none, (.mv (.tmp 1))⟩, ⟨(some 78), none, (.bin .neq (.tmp 76) (.tmp 77))⟩]) (.cond (.tmp 78) (.seq (.reg [⟨(some 4), none, (.mv (.const (.int .i64 (-1))))⟩]) .ret) .skip)) (.reg [⟨(some 79), none, (.mv (.tmp 1))⟩, ⟨(some 80), none, (.bin .add (.tmp 79) (.const (.int .i64 1)))⟩, ⟨(some 1), none, (.mv (.tmp 80))⟩]))))))))) (.reg [⟨(some 12), none, (.mv (.tmp 5))⟩, ⟨(some 13), none, (.bin .add (.tmp 12) (.const (.int .i64 1)))⟩, ⟨(some 5), none, (.mv (.tmp 13))⟩])))))) (.seq (.reg [⟨(some 81), none, (.mv (.tmp 1))⟩, ⟨(some 4), none, (.mv (.tmp 81))⟩]) .ret))), 82, [(.tmp 4)]⟩
def W_eqPart_c (F : FnsB) : LF := ⟨(.seq (.reg [⟨(some 2), none, (.box (.tmp 0))⟩, ⟨(some 3), none, (.box (.tmp 1))⟩, ⟨(some 4), none, (.mv (.const (.bool false)))⟩]) (.seq (.seq (.reg [⟨(some 5), none, (.fad 0 (.tmp 2))⟩, ⟨(some 6), none, (.load true 7 (.tmp 5))⟩, ⟨(some 7), none, (.fad 0 (.tmp 3))⟩, ⟨(some 8), none, (.load true 7 (.tmp 7))⟩, ⟨(some 9), none, (.call F.W_eqWide [(.tmp 6), (.tmp 8)])⟩, ⟨(some 10), none, (.un .not (.tmp 9))⟩]) (.cond (.tmp 10) (.seq (.reg [⟨(some 4), none, (.mv (.const (.bool false)))⟩]) .ret) .skip)) (.seq (.seq (.reg [⟨(some 11), none, (.fad 7 (.tmp 2))⟩, ⟨(some 12), none, (.load true 7 (.tmp 11))⟩, ⟨(some 13), none, (.fad 7 (.tmp 3))⟩, ⟨(some 14), none, (.load true 7 (.tmp 13))⟩, ⟨(some 15), none, (.call F.W_eqWide [(.tmp 12), (.tmp 14)])⟩, ⟨(some 16), none, (.un .not (.tmp 15))⟩]) (.cond (.tmp 16) (.seq (.reg [⟨(some 4), none, (.mv (.const (.bool false)))⟩]) .ret) .skip)) (.seq (.seq (.reg [⟨(some 17), none, (.fad 14 (.tmp 2))⟩, ⟨(some 18), none, (.load false 1 (.tmp 17))⟩, ⟨(some 19), none, (.fad 14 (.tmp 3))⟩, ⟨(some 20), none, (.load false 1 (.tmp 19))⟩, ⟨(some 21), none, (.bin .neq (.tmp 18) (.tmp 20))⟩]) (.cond (.tmp 21) (.seq (.reg [⟨(some 4), none, (.mv (.const (.bool false)))⟩]) .ret) .skip)) (.seq (.reg [⟨(some 4), none, (.mv (.const (.bool true)))⟩]) .ret))))), 22, [(.tmp 4)]⟩
def S_l05Bound_c (F : FnsB) : LF := ⟨(.seq (.reg [⟨(some 2), none, (.mv (.const (.int .i64 0)))⟩]) (.seq (.reg [⟨(some 3), none, (.mv (.const (.int .i64 0)))⟩]) (.seq (.seq (.reg [⟨(some 4), none, (.mv (.const (.int .i64 0)))⟩]) (.block 0 (.loop (.seq (.seq (.reg [⟨(some 6), none, (.mv (.tmp 4))⟩, ⟨(some 7), none, (.bin .add (.tmp 6) (.const (.int .i64 1)))⟩, ⟨(some 8), none, (.mv (.tmp 0))⟩, ⟨(some 9), none, (.lens (.tmp 8))⟩, ⟨(some 10), none, (.bin .lss (.tmp 7) (.tmp 9))⟩]) (.cond (.tmp 10) .skip (.exit 0))) (.seq (.block 1 (.reg [⟨(some 13), none, (.mv (.tmp 3))⟩, ⟨(some 14), none, (.mv (.tmp 0))⟩, ⟨(some 15), none, (.mv (.tmp 4))⟩, ⟨(some 16), none, (.isl 1 (.tmp 14) (.tmp 15))⟩, ⟨(some 17), none, (.load false 1 (.tmp 16))⟩, ⟨(some 18), none, (.call F.S_l05Abs [(.tmp 17)])⟩, ⟨(some 19), none, (.call F.S_l00Max [(.tmp 13), (.tmp 18)])⟩, ⟨(some 3), none, (.mv (.tmp 19))⟩])) (.reg [⟨(some 11), none, (.mv (.tmp 4))⟩, ⟨(some 12), none, (.bin .add (.tmp 11) (.const (.int .i64 1)))⟩, ⟨(some 4), none, (.mv (.tmp 12))⟩])))))) (.seq (.reg [⟨(some 5), none, (.mv (.const (.int .i64 0)))⟩]) (.seq (.block 2 (.loop (.seq (.seq (.reg [⟨(some 20), none, (.mv (.tmp 0))⟩, ⟨(some 21), none, (.mv (.tmp 0))⟩, ⟨(some 22), none, (.lens (.tmp 21))⟩, ⟨(some 23), none, (.bin .sub (.tmp 22) (.const (.int .i64 1)))⟩, ⟨(some 24), none, (.isl 1 (.tmp 20) (.tmp 23))⟩, ⟨(some 25), none, (.load false 1 (.tmp 24))⟩, ⟨(some 26), none, (.call F.S_l05Abs [(.tmp 25)])⟩, ⟨(some 27), none, (.mv (.tmp 5))⟩, ⟨(some 28), none, (.conv .u64 (.tmp 27))⟩, ⟨(some 29), none, (.bin .shl (.const (.int .i64 1)) (.tmp 28))⟩, ⟨(some 30), none, (.bin .sub (.tmp 29) (.const (.int .i64 1)))⟩, ⟨(some 31), none, (.bin .mul (.tmp 26) (.tmp 30))⟩, ⟨(some 32), none, (.mv (.tmp 3))⟩, ⟨(some 33), none, (.bin .lss (.tmp 31) (.tmp 32))⟩]) (.cond (.tmp 33) .skip (.exit 2))) (.block 3 (.reg [⟨(some 34), none, (.mv (.tmp 5))⟩, ⟨(some 35), none, (.bin .add (.tmp 34) (.const (.int .i64 1)))⟩, ⟨(some 5), none, (.mv (.tmp 35))⟩]))))) (.seq (.reg [⟨(some 36), none, (.mv (.tmp 5))⟩, ⟨(some 2), none, (.mv (.tmp 36))⟩]) .ret)))))), 37, [(.tmp 2)]⟩
def S_l05Cut_c (F : FnsB) : LF := ⟨(.seq (.reg [⟨(some 4), none, (.box (.tmp 1))⟩, ⟨(some 6), none, (.mv (.const (.slice none 0 0)))⟩, ⟨(some 7), none, (.mv (.const (.int .i64 0)))⟩]) (.seq (.seq (.reg [⟨(some 17), none, (.fad 14 (.tmp 4))⟩, ⟨(some 18), none, (.load false 1 (.tmp 17))⟩, ⟨(some 19), none, (.bin .gtr (.tmp 18) (.const (.int .i64 48)))⟩]) (.cond (.tmp 19) (.seq (.reg [⟨(some 20), none, (.bsl 15 0 [(.bool false), (.int .u32 0), (.int .u32 0), (.int .u32 0), (.int .u32 0), (.int .u32 0), (.int .u32 0), (.bool false), (.int .u32 0), (.int .u32 0), (.int .u32 0), (.int .u32 0), (.int .u32 0), (.int .u32 0), (.int .i64 0)] [])⟩, ⟨(some 6), none, (.mv (.tmp 20))⟩, ⟨(some 7), none, (.mv (.const (.int .i64 7)))⟩]) .ret) .skip)) (.seq (.reg [⟨(some 22), none, (.mv (.tmp 0))⟩, ⟨(some 23), none, (.fad 0 (.tmp 4))⟩, ⟨(some 24), none, (.load true 7 (.tmp 23))⟩, ⟨(some 25), none, (.fad 7 (.tmp 4))⟩, ⟨(some 26), none, (.load true 7 (.tmp 25))⟩, ⟨(some 27), none, (.fad 14 (.tmp 4))⟩, ⟨(some 28), none, (.load false 1 (.tmp 27))⟩, ⟨(some 29), none, (.call F.S_l05Count [(.tmp 22), (.tmp 24), (.tmp 26), (.tmp 28)])⟩, ⟨(some 21), none, (.mv (.tmp 29))⟩, ⟨(some 30), none, (.ext 0 (.tmp 21))⟩, ⟨(some 31), none, (.ext 1 (.tmp 21))⟩, ⟨(some 8), none, (.mv (.tmp 30))⟩, ⟨(some 9), none, (.mv (.tmp 31))⟩]) (.seq (.seq (.reg [⟨(some 32), none, (.mv (.tmp 9))⟩, ⟨(some 33), none, (.bin .neq (.tmp 32) (.const (.int .i64 0)))⟩, ⟨(some 34), none, (.mv (.tmp 33))⟩, ⟨(some 35), (some (34, false)), (.mv (.tmp 8))⟩, ⟨(some 36), (some (34, false)), (.bin .eql (.tmp 35) (.const (.int .i64 0)))⟩, ⟨(some 37), none, (.pick (.tmp 34) (.const (.bool true)) (.tmp 36))⟩]) (.cond (.tmp 37) (.seq (.reg [⟨(some 38), none, (.mv (.tmp 2))⟩, ⟨(some 39), none, (.mv (.tmp 9))⟩, ⟨(some 6), none, (.mv (.tmp 38))⟩, ⟨(some 7), none, (.mv (.tmp 39))⟩]) .ret) .skip)) (.seq (.seq (.reg [⟨(some 40), none, (.mv (.tmp 8))⟩, ⟨(some 41), none, (.bin .eql (.tmp 40) (.const (.int .i64 1)))⟩]) (.cond (.tmp 41) (.seq (.reg [⟨(some 42), none, (.mv (.tmp 2))⟩, ⟨(some 43), none, (.load true 15 (.tmp 4))⟩, ⟨(some 44), none, (.bsl 15 1 [(.bool false), (.int .u32 0), (.int .u32 0), (.int .u32 0), (.int .u32 0), (.int .u32 0), (.int .u32 0), (.bool false), (.int .u32 0), (.int .u32 0), (.int .u32 0), (.int .u32 0), (.int .u32 0), (.int .u32 0), (.int .i64 0)] [(0, (.tmp 43))])⟩, ⟨(some 45), none, (.app 15 64 (.tmp 42) (.tmp 44))⟩, ⟨(some 6), none, (.mv (.tmp 45))⟩, ⟨(some 7), none, (.mv (.const (.int .i64 0)))⟩]) .ret) .skip)) (.seq (.reg [⟨(some 47), none, (.fad 0 (.tmp 4))⟩, ⟨(some 48), none, (.load true 7 (.tmp 47))⟩, ⟨(some 49), none, (.call F.S_l01Up [(.tmp 48), (.const (.int .i64 1))])⟩, ⟨(some 46), none, (.mv (.tmp 49))⟩, ⟨(some 50), none, (.ext 0 (.tmp 46))⟩, ⟨(some 51), none, (.ext 1 (.tmp 46))⟩, ⟨(some 10), none, (.alloc [(.bool false), (.int .u32 0), (.int .u32 0), (.int .u32 0), (.int .u32 0), (.int .u32 0), (.int .u32 0)])⟩, ⟨none, none, (.store 7 (.tmp 10) (.tmp 50))⟩, ⟨(some 11), none, (.mv (.tmp 51))⟩]) (.seq (.reg [⟨(some 53), none, (.fad 7 (.tmp 4))⟩, ⟨(some 54), none, (.load true 7 (.tmp 53))⟩, ⟨(some 55), none, (.call F.S_l01Up [(.tmp 54), (.const (.int .i64 1))])⟩, ⟨(some 52), none, (.mv (.tmp 55))⟩, ⟨(some 56), none, (.ext 0 (.tmp 52))⟩, ⟨(some 57), none, (.ext 1 (.tmp 52))⟩, ⟨(some 12), none, (.alloc [(.bool false), (.int .u32 0), (.int .u32 0), (.int .u32 0), (.int .u32 0), (.int .u32 0), (.int .u32 0)])⟩, ⟨none, none, (.store 7 (.tmp 12) (.tmp 56))⟩, ⟨(some 13), none, (.mv (.tmp 57))⟩]) (.seq (.reg [⟨(some 59), none, (.fad 0 (.tmp 4))⟩, ⟨(some 60), none, (.load true 7 (.tmp 59))⟩, ⟨(some 61), none, (.fad 7 (.tmp 4))⟩, ⟨(some 62), none, (.load true 7 (.tmp 61))⟩, ⟨(some 63), none, (.call F.S_l01Add [(.tmp 60), (.tmp 62)])⟩, ⟨(some 58), none, (.mv (.tmp 63))⟩, ⟨(some 64), none, (.ext 0 (.tmp 58))⟩, ⟨(some 65), none, (.ext 1 (.tmp 58))⟩, ⟨(some 14), none, (.alloc [(.bool false), (.int .u32 0), (.int .u32 0), (.int .u32 0), (.int .u32 0), (.int .u32 0), (.int .u32 0)])⟩, ⟨none, none, (.store 7 (.tmp 14) (.tmp 64))⟩, ⟨(some 15), none, (.mv (.tmp 65))⟩]) (.seq (.seq (.reg [⟨(some 66), none, (.mv (.tmp 11))⟩, ⟨(some 67), none, (.bin .neq (.tmp 66) (.const (.int .i64 0)))⟩, ⟨(some 68), none, (.mv (.tmp 67))⟩, ⟨(some 69), (some (68, false)), (.mv (.tmp 13))⟩, ⟨(some 70), (some (68, false)), (.bin .neq (.tmp 69) (.const (.int .i64 0)))⟩, ⟨(some 71), none, (.pick (.tmp 68) (.const (.bool true)) (.tmp 70))⟩, ⟨(some 72), none, (.mv (.tmp 71))⟩, ⟨(some 73), (some (72, false)), (.mv (.tmp 15))⟩, ⟨(some 74), (some (72, false)), (.bin .neq (.tmp 73) (.const (.int .i64 0)))⟩, ⟨(some 75), none, (.pick (.tmp 72) (.const (.bool true)) (.tmp 74))⟩]) (.cond (.tmp 75) (.seq (.reg [⟨(some 76), none, (.bsl 15 0 [(.bool false), (.int .u32 0), (.int .u32 0), (.int .u32 0), (.int .u32 0), (.int .u32 0), (.int .u32 0), (.bool false), (.int .u32 0), (.int .u32 0), (.int .u32 0), (.int .u32 0), (.int .u32 0), (.int .u32 0), (.int .i64 0)] [])⟩, ⟨(some 6), none, (.mv (.tmp 76))⟩, ⟨(some 7), none, (.mv (.const (.int .i64 3)))⟩]) .ret) .skip)) (.seq (.reg [⟨(some 78), none, (.mv (.tmp 0))⟩, ⟨(some 79), none, (.load true 7 (.tmp 10))⟩, ⟨(some 80), none, (.load true 7 (.tmp 14))⟩, ⟨(some 81), none, (.fad 14 (.tmp 4))⟩, ⟨(some 82), none, (.load false 1 (.tmp 81))⟩, ⟨(some 83), none, (.bin .add (.tmp 82) (.const (.int .i64 1)))⟩, ⟨(some 84), none, (.build [(.bool false), (.int .u32 0), (.int .u32 0), (.int .u32 0), (.int .u32 0), (.int .u32 0), (.int .u32 0), (.bool false), (.int .u32 0), (.int .u32 0), (.int .u32 0), (.int .u32 0), (.int .u32 0), (.int .u32 0), (.int .i64 0)] [(0, (7, (.tmp 79))), (7, (7, (.tmp 80))), (14, (1, (.tmp 83)))])⟩, ⟨(some 85), none, (.mv (.tmp 2))⟩, ⟨(some 86), none, (.call F.S_l05Cut [(.tmp 78), (.tmp 84), (.tmp 85)])⟩, ⟨(some 77), none, (.mv (.tmp 86))⟩, ⟨(some 87), none, (.ext 0 (.tmp 77))⟩, ⟨(some 88), none, (.ext 1 (.tmp 77))⟩, ⟨(some 2), none, (.mv (.tmp 87))⟩, ⟨(some 16), none, (.mv (.tmp 88))⟩]) (.seq (.seq (.reg [⟨(some 89), none, (.mv (.tmp 16))⟩, ⟨(some 90), none, (.bin .neq (.tmp 89) (.const (.int .i64 0)))⟩]) (.cond (.tmp 90) (.seq (.reg [⟨(some 91), none, (.bsl 15 0 [(.bool false), (.int .u32 0), (.int .u32 0), (.int .u32 0), (.int .u32 0), (.int .u32 0), (.int .u32 0), (.bool false), (.int .u32 0), (.int .u32 0), (.int .u32 0), (.int .u32 0), (.int .u32 0), (.int .u32 0), (.int .i64 0)] [])⟩, ⟨(some 92), none, (.mv (.tmp 16))⟩, ⟨(some 6), none, (.mv (.tmp 91))⟩, ⟨(some 7), none, (.mv (.tmp 92))⟩]) .ret) .skip)) (.seq (.reg [⟨(some 93), none, (.mv (.tmp 0))⟩, ⟨(some 94), none, (.load true 7 (.tmp 14))⟩, ⟨(some 95), none, (.load true 7 (.tmp 12))⟩, ⟨(some 96), none, (.fad 14 (.tmp 4))⟩, ⟨(some 97), none, (.load false 1 (.tmp 96))⟩, ⟨(some 98), none, (.bin .add (.tmp 97) (.const (.int .i64 1)))⟩, ⟨(some 99), none, (.build [(.bool false), (.int .u32 0), (.int .u32 0), (.int .u32 0), (.int .u32 0), (.int .u32 0), (.int .u32 0), (.bool false), (.int .u32 0), (.int .u32 0), (.int .u32 0), (.int .u32 0), (.int .u32 0), (.int .u32 0), (.int .i64 0)] [(0, (7, (.tmp 94))), (7, (7, (.tmp 95))), (14, (1, (.tmp 98)))])⟩, ⟨(some 100), none, (.mv (.tmp 2))⟩, ⟨(some 101), none, (.call F.S_l05Cut [(.tmp 93), (.tmp 99), (.tmp 100)])⟩, ⟨(some 102), none, (.ext 0 (.tmp 101))⟩, ⟨(some 103), none, (.ext 1 (.tmp 101))⟩, ⟨(some 6), none, (.mv (.tmp 102))⟩, ⟨(some 7), none, (.mv (.tmp 103))⟩]) .ret)))))))))))), 104, [(.tmp 6), (.tmp 7)]⟩
def I_bound_c (F : FnsB) : LF := ⟨(.seq (.reg [⟨(some 2), none, (.mv (.const (.int .i64 0)))⟩]) (.seq (.dreg 0 [⟨0, ⟨(some 8), none, (.mv (.tmp 0))⟩, [], []⟩, ⟨1, ⟨(some 9), none, (.mv (.tmp 0))⟩, [], []⟩, ⟨2, ⟨(some 10), none, (.lens (.tmp 9))⟩, [1], []⟩, ⟨3, ⟨(some 11), none, (.bin .sub (.tmp 10) (.const (.int .i64 1)))⟩, [2, 1], []⟩, ⟨4, ⟨(some 12), none, (.isl 1 (.tmp 8) (.tmp 11))⟩, [0, 3, 2, 1], []⟩, ⟨5, ⟨(some 13), none, (.load false 1 (.tmp 12))⟩, [4, 0, 3, 2, 1], []⟩, ⟨6, ⟨(some 14), none, (.mv (.tmp 0))⟩, [], []⟩, ⟨7, ⟨(some 15), none, (.mv (.tmp 0))⟩, [], []⟩, ⟨8, ⟨(some 16), none, (.lens (.tmp 15))⟩, [7], []⟩, ⟨9, ⟨(some 17), none, (.bin .sub (.tmp 16) (.const (.int .i64 1)))⟩, [8, 7], []⟩, ⟨10, ⟨(some 18), none, (.isl 1 (.tmp 14) (.tmp 17))⟩, [6, 9, 8, 7], []⟩, ⟨11, ⟨(some 19), none, (.load false 1 (.tmp 18))⟩, [10, 6, 9, 8, 7], []⟩, ⟨12, ⟨(some 20), none, (.un .neg (.tmp 19))⟩, [11, 10, 6, 9, 8, 7], []⟩, ⟨13, ⟨(some 21), none, (.mm false [(.tmp 13), (.tmp 20)])⟩, [5, 12, 4, 0, 3, 2, 1, 11, 10, 6, 9, 8, 7], []⟩, ⟨14, ⟨(some 3), none, (.mv (.tmp 21))⟩, [13, 0, 1, 2, 3, 4, 5, 6, 7, 8, 9, 10, 11, 12], []⟩]) (.seq (.reg [⟨(some 4), none, (.mv (.const (.int .i64 0)))⟩]) (.seq (.seq (.reg [⟨(some 22), none, (.mv (.tmp 0))⟩, ⟨(some 23), none, (.mv (.tmp 0))⟩, ⟨(some 24), none, (.lens (.tmp 23))⟩, ⟨(some 25), none, (.bin .sub (.tmp 24) (.const (.int .i64 1)))⟩, ⟨(some 26), none, (.ssl 1 (.tmp 22) none (some (.tmp 25)))⟩, ⟨(some 27), none, (.lens (.tmp 26))⟩, ⟨(some 28), none, (.mv (.const (.int .i64 0)))⟩]) (.block 0 (.loop (.seq (.reg [⟨(some 29), none, (.bin .lss (.tmp 28) (.tmp 27))⟩]) (.seq (.cond (.tmp 29) .skip (.exit 0)) (.seq (.block 1 (.seq (.reg [⟨(some 30), none, (.isl 1 (.tmp 26) (.tmp 28))⟩, ⟨(some 31), none, (.load false 1 (.tmp 30))⟩, ⟨(some 6), none, (.mv (.tmp 31))⟩]) (.reg [⟨(some 32), none, (.mv (.tmp 4))⟩, ⟨(some 33), none, (.mv (.tmp 6))⟩, ⟨(some 34), none, (.mv (.tmp 6))⟩, ⟨(some 35), none, (.un .neg (.tmp 34))⟩, ⟨(some 36), none, (.mm false [(.tmp 32), (.tmp 33), (.tmp 35)])⟩, ⟨(some 4), none, (.mv (.tmp 36))⟩]))) (.reg [⟨(some 37), none, (.bin .add (.tmp 28) (.const (.int .i64 1)))⟩, ⟨(some 28), none, (.mv (.tmp 37))⟩]))))))) (.seq (.reg [⟨(some 7), none, (.mv (.const (.int .i64 0)))⟩]) (.seq (.block 2 (.loop (.seq (.seq (.reg [⟨(some 38), none, (.mv (.tmp 3))⟩, ⟨(some 39), none, (.mv (.tmp 7))⟩, ⟨(some 40), none, (.bin .shl (.const (.int .i64 1)) (.tmp 39))⟩, ⟨(some 41), none, (.bin .sub (.tmp 40) (.const (.int .i64 1)))⟩, ⟨(some 42), none, (.bin .mul (.tmp 38) (.tmp 41))⟩, ⟨(some 43), none, (.mv (.tmp 4))⟩, ⟨(some 44), none, (.bin .lss (.tmp 42) (.tmp 43))⟩]) (.cond (.tmp 44) .skip (.exit 2))) (.block 3 (.reg [⟨(some 45), none, (.mv (.tmp 7))⟩, ⟨(some 46), none, (.bin .add (.tmp 45) (.const (.int .i64 1)))⟩, ⟨(some 7), none, (.mv (.tmp 46))⟩]))))) (.seq (.reg [⟨(some 47), none, (.mv (.tmp 7))⟩, ⟨(some 2), none, (.mv (.tmp 47))⟩]) .ret))))))), 48, [(.tmp 2)]⟩
def I_sturm_split_c (F : FnsB) : LF := ⟨(.seq (.reg [⟨(some 5), none, (.box (.tmp 2))⟩, ⟨(some 6), none, (.mv (.const (.slice none 0 0)))⟩, ⟨(some 7), none, (.mv (.const (.int .i64 0)))⟩]) (.seq (.reg [⟨(some 13), none, (.mv (.tmp 0))⟩, ⟨(some 14), none, (.fad 0 (.tmp 5))⟩, ⟨(some 15), none, (.load true 7 (.tmp 14))⟩, ⟨(some 16), none, (.fad 7 (.tmp 5))⟩, ⟨(some 17), none, (.load true 7 (.tmp 16))⟩, ⟨(some 18), none, (.fad 14 (.tmp 5))⟩, ⟨(some 19), none, (.load false 1 (.tmp 18))⟩, ⟨(some 20), none, (.call F.I_sturm_count [(.tmp 13), (.tmp 15), (.tmp 17), (.tmp 19)])⟩, ⟨(some 8), none, (.mv (.tmp 20))⟩]) (.seq (.block 0 (.seq (.reg [⟨(some 22), none, (.mv (.tmp 0))⟩, ⟨(some 23), none, (.nilc (.tmp 22))⟩, ⟨(some 24), none, (.fad 0 (.tmp 23))⟩, ⟨(some 25), none, (.fad 0 (.tmp 24))⟩, ⟨(some 26), none, (.load false 1 (.tmp 25))⟩, ⟨(some 21), none, (.mv (.tmp 26))⟩]) (.cond (.tmp 21) (.seq (.reg [⟨(some 6), none, (.mv (.const (.slice none 0 0)))⟩, ⟨(some 7), none, (.mv (.const (.int .i64 3)))⟩]) .ret) (.seq (.reg [⟨(some 28), none, (.mv (.tmp 8))⟩, ⟨(some 29), none, (.bin .eql (.tmp 28) (.const (.int .i64 0)))⟩, ⟨(some 27), none, (.mv (.tmp 29))⟩]) (.cond (.tmp 27) (.seq (.reg [⟨(some 30), none, (.mv (.tmp 1))⟩, ⟨(some 6), none, (.mv (.tmp 30))⟩, ⟨(some 7), none, (.mv (.const (.int .i64 0)))⟩]) .ret) (.seq (.reg [⟨(some 32), none, (.mv (.tmp 8))⟩, ⟨(some 33), none, (.bin .eql (.tmp 32) (.const (.int .i64 1)))⟩, ⟨(some 31), none, (.mv (.tmp 33))⟩]) (.cond (.tmp 31) (.seq (.reg [⟨(some 34), none, (.mv (.tmp 1))⟩, ⟨(some 35), none, (.load true 15 (.tmp 5))⟩, ⟨(some 36), none, (.bsl 15 1 [(.bool false), (.int .u32 0), (.int .u32 0), (.int .u32 0), (.int .u32 0), (.int .u32 0), (.int .u32 0), (.bool false), (.int .u32 0), (.int .u32 0), (.int .u32 0), (.int .u32 0), (.int .u32 0), (.int .u32 0), (.int .i64 0)] [(0, (.tmp 35))])⟩, ⟨(some 37), none, (.app 15 64 (.tmp 34) (.tmp 36))⟩, ⟨(some 6), none, (.mv (.tmp 37))⟩, ⟨(some 7), none, (.mv (.const (.int .i64 0)))⟩]) .ret) (.seq (.reg [⟨(some 39), none, (.fad 14 (.tmp 5))⟩, ⟨(some 40), none, (.load false 1 (.tmp 39))⟩, ⟨(some 41), none, (.bin .eql (.tmp 40) (.const (.int .i64 48)))⟩, ⟨(some 38), none, (.mv (.tmp 41))⟩]) (.cond (.tmp 38) (.seq (.reg [⟨(some 6), none, (.mv (.const (.slice none 0 0)))⟩, ⟨(some 7), none, (.mv (.const (.int .i64 7)))⟩]) .ret) .skip))))))))) (.seq (.dreg 1 [⟨0, ⟨(some 42), none, (.mv (.tmp 0))⟩, [], []⟩, ⟨1, ⟨(some 43), none, (.nilc (.tmp 42))⟩, [0], []⟩, ⟨2, ⟨(some 44), none, (.fad 0 (.tmp 43))⟩, [1, 0], []⟩, ⟨3, ⟨(some 45), none, (.fad 0 (.tmp 5))⟩, [], []⟩, ⟨4, ⟨(some 46), none, (.load true 7 (.tmp 45))⟩, [3], []⟩, ⟨5, ⟨(some 47), none, (.fad 7 (.tmp 5))⟩, [], []⟩, ⟨6, ⟨(some 48), none, (.load true 7 (.tmp 47))⟩, [5], []⟩, ⟨7, ⟨(some 49), none, (.call F.I_calc_add [(.tmp 44), (.tmp 46), (.tmp 48)])⟩, [2, 4, 6, 1, 0, 3, 5], []⟩, ⟨8, ⟨(some 9), none, (.allocAt 0 [(.bool false), (.int .u32 0), (.int .u32 0), (.int .u32 0), (.int .u32 0), (.int .u32 0), (.int .u32 0)])⟩, [], []⟩, ⟨9, ⟨none, none, (.store 7 (.tmp 9) (.tmp 49))⟩, [8, 7, 0, 1, 2, 3, 4, 5, 6], []⟩]) (.seq (.dreg 2 [⟨0, ⟨(some 50), none, (.mv (.tmp 0))⟩, [], []⟩, ⟨1, ⟨(some 51), none, (.nilc (.tmp 50))⟩, [0], []⟩, ⟨2, ⟨(some 52), none, (.fad 0 (.tmp 51))⟩, [1, 0], []⟩, ⟨4, ⟨(some 54), none, (.fad 0 (.tmp 5))⟩, [], []⟩, ⟨5, ⟨(some 55), none, (.load true 7 (.tmp 54))⟩, [4], []⟩, ⟨7, ⟨(some 57), none, (.mv (.tmp 0))⟩, [], []⟩, ⟨8, ⟨(some 58), none, (.nilc (.tmp 57))⟩, [7], []⟩, ⟨9, ⟨(some 59), none, (.fad 0 (.tmp 58))⟩, [8, 7], []⟩, ⟨11, ⟨(some 61), none, (.fad 7 (.tmp 5))⟩, [], []⟩, ⟨12, ⟨(some 62), none, (.load true 7 (.tmp 61))⟩, [11], []⟩, ⟨3, ⟨(some 53), none, (.call F.I_WideOf [(.const (.int .i64 2))])⟩, [], [5, 12]⟩, ⟨6, ⟨(some 56), none, (.call F.I_calc_mul [(.tmp 52), (.tmp 53), (.tmp 55)])⟩, [2, 3, 5, 1, 0, 4], [12]⟩, ⟨10, ⟨(some 60), none, (.call F.I_WideOf [(.const (.int .i64 2))])⟩, [6, 2, 3, 5, 1, 0, 4], [12]⟩, ⟨13, ⟨(some 63), none, (.call F.I_calc_mul [(.tmp 59), (.tmp 60), (.tmp 62)])⟩, [9, 10, 12, 8, 7, 6, 2, 3, 5, 1, 0, 4, 11], []⟩, ⟨14, ⟨(some 10), none, (.allocAt 0 [(.bool false), (.int .u32 0), (.int .u32 0), (.int .u32 0), (.int .u32 0), (.int .u32 0), (.int .u32 0)])⟩, [], []⟩, ⟨15, ⟨(some 11), none, (.allocAt 1 [(.bool false), (.int .u32 0), (.int .u32 0), (.int .u32 0), (.int .u32 0), (.int .u32 0), (.int .u32 0)])⟩, [], []⟩, ⟨16, ⟨none, none, (.store 7 (.tmp 10) (.tmp 56))⟩, [14, 6, 13, 0, 1, 2, 3, 4, 5, 15, 9, 10, 12, 8, 7, 11], []⟩, ⟨17, ⟨none, none, (.store 7 (.tmp 11) (.tmp 63))⟩, [15, 13, 16, 0, 1, 2, 3, 4, 5, 6, 7, 8, 9, 10, 11, 12, 14], []⟩]) (.seq (.reg [⟨(some 65), none, (.mv (.tmp 0))⟩, ⟨(some 66), none, (.mv (.tmp 1))⟩, ⟨(some 67), none, (.load true 7 (.tmp 10))⟩, ⟨(some 68), none, (.load true 7 (.tmp 9))⟩, ⟨(some 69), none, (.fad 14 (.tmp 5))⟩, ⟨(some 70), none, (.load false 1 (.tmp 69))⟩, ⟨(some 71), none, (.bin .add (.tmp 70) (.const (.int .i64 1)))⟩, ⟨(some 72), none, (.build [(.bool false), (.int .u32 0), (.int .u32 0), (.int .u32 0), (.int .u32 0), (.int .u32 0), (.int .u32 0), (.bool false), (.int .u32 0), (.int .u32 0), (.int .u32 0), (.int .u32 0), (.int .u32 0), (.int .u32 0), (.int .i64 0)] [(0, (7, (.tmp 67))), (7, (7, (.tmp 68))), (14, (1, (.tmp 71)))])⟩, ⟨(some 73), none, (.call F.I_sturm_split [(.tmp 65), (.tmp 66), (.tmp 72)])⟩, ⟨(some 64), none, (.mv (.tmp 73))⟩, ⟨(some 74), none, (.ext 0 (.tmp 64))⟩, ⟨(some 75), none, (.ext 1 (.tmp 64))⟩, ⟨(some 1), none, (.mv (.tmp 74))⟩, ⟨(some 12), none, (.mv (.tmp 75))⟩]) (.seq (.seq (.reg [⟨(some 76), none, (.mv (.tmp 12))⟩, ⟨(some 77), none, (.bin .neq (.tmp 76) (.const (.int .i64 0)))⟩]) (.cond (.tmp 77) (.seq (.reg [⟨(some 78), none, (.mv (.tmp 12))⟩, ⟨(some 6), none, (.mv (.const (.slice none 0 0)))⟩, ⟨(some 7), none, (.mv (.tmp 78))⟩]) .ret) .skip)) (.seq (.reg [⟨(some 79), none, (.mv (.tmp 0))⟩, ⟨(some 80), none, (.mv (.tmp 1))⟩, ⟨(some 81), none, (.load true 7 (.tmp 9))⟩, ⟨(some 82), none, (.load true 7 (.tmp 11))⟩, ⟨(some 83), none, (.fad 14 (.tmp 5))⟩, ⟨(some 84), none, (.load false 1 (.tmp 83))⟩, ⟨(some 85), none, (.bin .add (.tmp 84) (.const (.int .i64 1)))⟩, ⟨(some 86), none, (.build [(.bool false), (.int .u32 0), (.int .u32 0), (.int .u32 0), (.int .u32 0), (.int .u32 0), (.int .u32 0), (.bool false), (.int .u32 0), (.int .u32 0), (.int .u32 0), (.int .u32 0), (.int .u32 0), (.int .u32 0), (.int .i64 0)] [(0, (7, (.tmp 81))), (7, (7, (.tmp 82))), (14, (1, (.tmp 85)))])⟩, ⟨(some 87), none, (.call F.I_sturm_split [(.tmp 79), (.tmp 80), (.tmp 86)])⟩, ⟨(some 88), none, (.ext 0 (.tmp 87))⟩, ⟨(some 89), none, (.ext 1 (.tmp 87))⟩, ⟨(some 6), none, (.mv (.tmp 88))⟩, ⟨(some 7), none, (.mv (.tmp 89))⟩]) .ret)))))))), 90, [(.tmp 6), (.tmp 7)]⟩
def S_l05Abs_c (F : FnsB) : LF := ⟨(.seq (.reg [⟨(some 2), none, (.mv (.const (.int .i64 0)))⟩]) (.seq (.seq (.reg [⟨(some 3), none, (.mv (.tmp 0))⟩, ⟨(some 4), none, (.bin .lss (.tmp 3) (.const (.int .i64 0)))⟩]) (.cond (.tmp 4) (.seq (.reg [⟨(some 5), none, (.mv (.tmp 0))⟩, ⟨(some 6), none, (.un .neg (.tmp 5))⟩, ⟨(some 2), none, (.mv (.tmp 6))⟩]) .ret) .skip)) (.seq (.reg [⟨(some 7), none, (.mv (.tmp 0))⟩, ⟨(some 2), none, (.mv (.tmp 7))⟩]) .ret))), 8, [(.tmp 2)]⟩

/-- The functions are these. -/
structure IsB (P : Program) (F : FnsB) : Prop extends IsA P F.toFnsA where
  W_FnExactPartsOf : stripF P F.W_FnExactPartsOf = some (W_FnExactPartsOf_c F)
  S_PartsOf : stripF P F.S_PartsOf = some (S_PartsOf_c F)
  I_PartsOf : stripF P F.I_PartsOf = some (I_PartsOf_c F)
  W_eqPartS : stripF P F.W_eqPartS = some (W_eqPartS_c F)
  W_markPartS : stripF P F.W_markPartS = some (W_markPartS_c F)
  W_heldPartS : stripF P F.W_heldPartS = some (W_heldPartS_c F)
  W_eqPart : stripF P F.W_eqPart = some (W_eqPart_c F)
  S_l05Bound : stripF P F.S_l05Bound = some (S_l05Bound_c F)
  S_l05Cut : stripF P F.S_l05Cut = some (S_l05Cut_c F)
  I_bound : stripF P F.I_bound = some (I_bound_c F)
  I_sturm_split : stripF P F.I_sturm_split = some (I_sturm_split_c F)
  S_l05Abs : stripF P F.S_l05Abs = some (S_l05Abs_c F)
end Go.Proofs.Lite

namespace Go.Proofs.Lite
open Go
section
variable {P : Program} {n0 : Nat} {T : List AV} {H : Heap} {f : FuncId}
/-- A function that is handed one piece of memory to write, beside values: what it does, as a relation. -/
structure OwR (P : Program) (f : FuncId) (c args : List AV) (R : AV → List AV → Prop) : Prop where
  ct : Ct P f (.ptr 0 0 :: args) [.c c] (fun v' H' => ∃ c', H' = [.c c'] ∧ R v' c')
  na : noixL args
  nc : noixL c
  ok : ∀ v' c', R v' c' → noix v' ∧ noixL c' ∧ c'.length = c.length
theorem OwR.step {c args : List AV} {R : AV → List AV → Prop} (h : OwR P f c args R) {i o : Nat} {seg : List AV} (hi : H[i]? = some (.c seg)) (hl : o + c.length ≤ seg.length) (hs : (seg.drop o).take c.length = c)
    {d : Option Nat} {K : List AV → Heap → Prop} {w : KW K} (hk : ∀ v c', R v c' → K (putA T d v) (H.set i (.c (wr seg o c')))) : CallD P f (.ptr i o :: args) d T H K w := by
  refine ⟨[(i, o)], [], .ptr 0 0 :: args, [.c c], _, h.ct, ?_, ?_, by simp, ?_, ?_, fun v' Hc' hR => ⟨fun h => absurd rfl h, ?_⟩⟩
  · simp only [argsOk]
    exact ⟨.inl (by simp [ren, rix]), argsOk_same h.na⟩
  · simp only [embOk, and_true]
    exact ⟨by simp, seg, hi, hl, by rw [renL_noix c h.nc]; exact hs⟩
  · simp only [slOkL, slOk, true_and]; exact slOkL_noix args h.na
  · simp only [slOkH, and_true]; exact slOkL_noix c h.nc
  · obtain ⟨c', rfl, hR⟩ := hR
    obtain ⟨h1, h2, h3⟩ := h.ok _ _ hR
    rw [ren_noix _ h1]
    simp only [back, backs, back1, getD_c' hi, h3, true_or, if_true, renL_noix c' h2, List.length_singleton, List.drop_succ_cons, List.drop_zero, List.map_nil, List.append_nil]
    simpa only [wr, h3] using hk v' c' hR
theorem OwR.step0 {c args : List AV} {R : AV → List AV → Prop} (h : OwR P f c args R) {i : Nat} (hi : H[i]? = some (.c c))
    {d : Option Nat} {K : List AV → Heap → Prop} {w : KW K} (hk : ∀ v c', R v c' → K (putA T d v) (H.set i (.c c'))) : CallD P f (.ptr i 0 :: args) d T H K w :=
  h.step hi (by simp) (by simp) (fun v c' hR => by rw [wr_full (h.ok _ _ hR).2.2.symm]; exact hk v c' hR)
def OendR (rs : List RV) (R : AV → List AV → Prop) : Post
  | .exit _, _, _ => False
  | _, T, H => (rets T H rs).1 ∧ ∃ v c', R v c' ∧ WkV 1 H (rets T H rs).2 v [.c c']
theorem oendr_ret {rs : List RV} {R : AV → List AV → Prop} : OendR rs R .ret T H = ((rets T H rs).1 ∧ ∃ v c', R v c' ∧ WkV 1 H (rets T H rs).2 v [.c c']) := rfl
theorem oendr_normal {rs : List RV} {R : AV → List AV → Prop} : OendR rs R .normal T H = ((rets T H rs).1 ∧ ∃ v c', R v c' ∧ WkV 1 H (rets T H rs).2 v [.c c']) := rfl
theorem owR_of {lf : LF} {c args : List AV} {R : AV → List AV → Prop} (hf : stripF P f = some lf) (na : noixL args) (nc : noixL c) (ok : ∀ v' c', R v' c' → noix v' ∧ noixL c' ∧ c'.length = c.length)
    (h : awp P 1 lf.code (OendR lf.res R) ((.ptr 0 0 :: args) ++ List.replicate (lf.ntmps - (args.length + 1)) .junk) [.c c]) : OwR P f c args R := by
  refine ⟨ct_of_sound hf ((sound_of_awp h).mono ?_), na, nc, ok⟩
  intro e T H he
  cases e with
  | normal => obtain ⟨h1, v, c', h2, h3⟩ := he; exact ⟨h1, v, _, h3, c', rfl, h2⟩
  | ret => obtain ⟨h1, v, c', h2, h3⟩ := he; exact ⟨h1, v, _, h3, c', rfl, h2⟩
  | exit i => exact he.elim
def OR := And.intro @oendr_ret @oendr_normal
/-- What a function hands back may be all its own. -/
theorem callD_fresh {args : List AV} {R : AV → Heap → Prop} (h : Ct P f args [] R) (ha : noixL args) {d : Option Nat} {K : List AV → Heap → Prop} {w : KW K}
    (hk : ∀ v H', R v H' → K (putA T d (ren [] H.length v)) (H ++ H'.map (renSg [] H.length))) : CallD P f args d T H K w := by
  refine ⟨[], [], args, [], R, h, argsOk_same ha, by simp [embOk], by simp, slOkL_noix args ha, by simp [slOkH], fun v Hc' hR => ⟨fun h => absurd rfl h, ?_⟩⟩
  simpa [back, backs] using hk v Hc' hR
def Fend (rs : List RV) (R : AV → Heap → Prop) : Post
  | .exit _, _, _ => False
  | _, T, H => (rets T H rs).1 ∧ ∃ v H', R v H' ∧ WkV 0 H (rets T H rs).2 v H'
theorem fend_ret {rs : List RV} {R : AV → Heap → Prop} : Fend rs R .ret T H = ((rets T H rs).1 ∧ ∃ v H', R v H' ∧ WkV 0 H (rets T H rs).2 v H') := rfl
theorem fend_normal {rs : List RV} {R : AV → Heap → Prop} : Fend rs R .normal T H = ((rets T H rs).1 ∧ ∃ v H', R v H' ∧ WkV 0 H (rets T H rs).2 v H') := rfl
def FR := And.intro @fend_ret @fend_normal
theorem fresh_of {lf : LF} {args : List AV} {R : AV → Heap → Prop} (hf : stripF P f = some lf)
    (h : awp P 0 lf.code (Fend lf.res R) (args ++ List.replicate (lf.ntmps - args.length) .junk) []) : Ct P f args [] R := by
  refine ct_of_sound hf ((sound_of_awp h).mono ?_)
  intro e T H he
  cases e with
  | normal => obtain ⟨h1, v, c', h2, h3⟩ := he; exact ⟨h1, v, _, h3, h2⟩
  | ret => obtain ⟨h1, v, c', h2, h3⟩ := he; exact ⟨h1, v, _, h3, h2⟩
  | exit i => exact he.elim
end
theorem wds_set {l : List Int} {k : Nat} (x : Int) (h : k < l.length) : wr (wds l) (k * 7) (wi x) = wds (l.set k x) := by
  unfold wr
  rw [wi_length, show k * 7 + 7 = (k + 1) * 7 from by omega, wds_take, wds_drop, ← wds_one, ← wds_append, ← wds_append]
  congr 1
  rw [List.set_eq_take_append_cons_drop, if_pos h]; rfl
theorem i64s_set {l : List Int} {k : Nat} (x : Int) (h : k < l.length) : wr (i64s l) k [.raw (.int .i64 x)] = i64s (l.set k x) := by
  unfold wr
  rw [i64s_take, List.length_singleton, i64s_drop, show [AV.raw (Value.int .i64 x)] = i64s [x] from rfl, ← i64s_append, ← i64s_append]
  congr 1
  rw [List.set_eq_take_append_cons_drop, if_pos h]; rfl
theorem raws_append (a b : List Value) : raws (a ++ b) = raws a ++ raws b := by simp [raws]
theorem raws_rep7 (n : Nat) : raws (List.replicate n [Value.bool false, .int .u32 0, .int .u32 0, .int .u32 0, .int .u32 0, .int .u32 0, .int .u32 0]).flatten = wds (List.replicate n 0) := by
  induction n with
  | zero => rfl
  | succ n ih => rw [List.replicate_succ, List.replicate_succ, List.flatten_cons, raws_append, ih, wds_cons, raws_z7]
theorem raws_rep1 (n : Nat) : raws (List.replicate n [Value.int .i64 0]).flatten = i64s (List.replicate n 0) := by
  induction n with
  | zero => rfl
  | succ n ih => rw [List.replicate_succ, List.replicate_succ, List.flatten_cons, raws_append, ih]; rfl
theorem set_take {l t : List Int} {k : Nat} {x : Int} (hl : l.length = t.length) (hk : k < t.length) (h : l.take k = t.take k) (hx : x = t.getD k 0) : (l.set k x).take (k + 1) = t.take (k + 1) := by
  rw [take_succ_getD hk, ← hx, ← h, List.take_set]
  rw [List.take_succ, List.getElem?_eq_getElem (by omega), List.set_append]
  have hm : min k l.length = k := by omega
  simp [hm]
def RW := And.intro @raws_rep7 <| And.intro @raws_rep1 <| And.intro @wds_set @i64s_set
end Go.Proofs.Lite

namespace Go.Proofs.Lite
open Go
/-- The first place where something holds, from a place on. -/
def idxM (g : Int → Bool) : List Int → Nat → Int
  | [], _ => -1
  | x :: r, k => if g x then (k : Int) else idxM g r (k + 1)
theorem idxM_ge {g : Int → Bool} : ∀ {l : List Int} {k : Nat}, decide (0 ≤ idxM g l k) = l.any g
  | [], _ => rfl
  | x :: r, k => by
    simp only [idxM, List.any_cons]
    by_cases hg : g x = true
    · simp [hg]
    · have hg' : g x = false := by simpa using hg
      simp only [hg', Bool.false_eq_true, if_false, Bool.false_or]; exact idxM_ge
theorem idxM_lt {g : Int → Bool} : ∀ {l : List Int} {k : Nat}, -1 ≤ idxM g l k ∧ idxM g l k < k + l.length + 1
  | [], k => by simp only [idxM]; omega
  | x :: r, k => by
    simp only [idxM, List.length_cons]
    have := idxM_lt (g := g) (l := r) (k := k + 1)
    split <;> omega
theorem all_any (p : List Int) : (!p.any fun x => !polyIn x) = p.all polyIn := by
  induction p with
  | nil => rfl
  | cons a p ih => simp only [List.any_cons, List.all_cons, Bool.not_or, Bool.not_not, ih]
section
variable {P : Program} {F : FnsA} (h : IsA P F)
include h
set_option maxRecDepth 20000 in
theorem X_IndexFunc_int64_pf (f : Nat) (hcl : callable P f = true) (g : Int → Bool) (p : List Int) (hl : p.length ≤ 1048576) (hf : ∀ x, Pf P f [.raw (.int .i64 x)] (.raw (.bool (g x)))) : Pf P F.X_IndexFunc_int64 [roI p, .fn f []] (.raw (.int .i64 (idxM g p 0))) := by
  refine pf_of h.X_IndexFunc_int64 ⟨trivial, trivial, trivial⟩ trivial ?_
  obtain ⟨RES, hRES⟩ : ∃ R, idxM g p 0 = R := ⟨_, rfl⟩
  rw [hRES]
  simp (disch := omega) only [seval, ↓SDX, isRes, slEl, bslParts, mmAll, mmR, SUX, List.replicate, List.append, pr, lr, er, binR, ev, putA, List.set, intOf, takeAg, cellsOf, wrAll, partsOk, ones, one, isOne, wok1, findPE, List.find?, nop, prlr, isPure, pickR, optInt, rets, rv, rvs, X_IndexFunc_int64_c, CN, NW, IntKind.bits]
  refine loop_st (fun k : Nat => p.length - k) (fun k => ([roI p, .fn f [], .junk, .junk, .raw (.int .i64 0), .junk, .junk, .raw (.int .i64 (p.length : Nat)), .raw (.int .i64 (k : Nat))] ++ List.replicate 10 .junk)) (fun k => []) (fun k => k ≤ p.length ∧ idxM g (p.drop k) k = RES) 0 ⟨Nat.zero_le _, hRES⟩ (Wk.tmps (by simp only [fits, eq_self, and_self, Int.cast_ofNat_Int, Int.natCast_add, and_true, true_and, List.replicate, List.cons_append, List.nil_append])) ?_
  rintro k ⟨hk, hres⟩
  clear hRES
  by_cases hk2 : k < p.length
  · have hx := i64s_get hk2
    rw [drop_getD hk2] at hres
    simp only [idxM] at hres
    have hp := hf (p.getD k 0)
    generalize p.getD k 0 = x at *
    by_cases hg : g x = true
    · rw [hg] at hres hp
      simp only [if_true] at hres
      subst hres
      simp (disch := omega) only [seval, ↓SDX, isRes, slEl, bslParts, mmAll, mmR, SUX, List.replicate, List.append, pr, lr, er, binR, ev, putA, List.set, intOf, takeAg, cellsOf, wrAll, partsOk, ones, one, isOne, wok1, findPE, List.find?, nop, prlr, isPure, pickR, optInt, rets, rv, rvs, CN, NW, hx, hcl, IntKind.bits]
      refine hp.step ?_
      simp (disch := omega) only [seval, ↓SDX, isRes, slEl, bslParts, mmAll, mmR, SUX, List.replicate, List.append, pr, lr, er, binR, ev, putA, List.set, intOf, takeAg, cellsOf, wrAll, partsOk, ones, one, isOne, wok1, findPE, List.find?, nop, prlr, isPure, pickR, optInt, rets, rv, rvs, CN, NW, IntKind.bits]
      exact WkV.eq (by first | rfl | simp) (by first | trivial | (simp only [noix, noixL, NX, and_true, true_and]; done))
    · rw [if_neg hg] at hres
      rw [show g x = false from by simpa using hg] at hp
      clear hg
      simp (disch := omega) only [seval, ↓SDX, isRes, slEl, bslParts, mmAll, mmR, SUX, List.replicate, List.append, pr, lr, er, binR, ev, putA, List.set, intOf, takeAg, cellsOf, wrAll, partsOk, ones, one, isOne, wok1, findPE, List.find?, nop, prlr, isPure, pickR, optInt, rets, rv, rvs, CN, NW, hx, hcl, IntKind.bits]
      refine hp.step ?_
      simp (disch := omega) only [seval, ↓SDX, isRes, slEl, bslParts, mmAll, mmR, SUX, List.replicate, List.append, pr, lr, er, binR, ev, putA, List.set, intOf, takeAg, cellsOf, wrAll, partsOk, ones, one, isOne, wok1, findPE, List.find?, nop, prlr, isPure, pickR, optInt, rets, rv, rvs, CN, NW, IntKind.bits]
      exact ⟨k + 1, by omega, ⟨by omega, hres⟩, Wk.tmps (by simp only [fits, eq_self, and_self, Int.cast_ofNat_Int, Int.natCast_add, and_true, true_and, List.replicate, List.cons_append, List.nil_append])⟩
  · have : k = p.length := by omega
    subst this
    rw [List.drop_length] at hres
    simp only [idxM] at hres
    subst hres
    simp (disch := omega) only [seval, ↓SDX, isRes, slEl, bslParts, mmAll, mmR, SUX, List.replicate, List.append, pr, lr, er, binR, ev, putA, List.set, intOf, takeAg, cellsOf, wrAll, partsOk, ones, one, isOne, wok1, findPE, List.find?, nop, prlr, isPure, pickR, optInt, rets, rv, rvs, CN, NW, IntKind.bits]
    exact WkV.eq (by first | rfl | simp) (by first | trivial | (simp only [noix, noixL, NX, and_true, true_and]; done))
theorem X_ContainsFunc_int64_pf (f : Nat) (hcl : callable P f = true) (g : Int → Bool) (p : List Int) (hl : p.length ≤ 1048576) (hf : ∀ x, Pf P f [.raw (.int .i64 x)] (.raw (.bool (g x)))) : Pf P F.X_ContainsFunc_int64 [roI p, .fn f []] (.raw (.bool (p.any g))) := by
  refine pf_of h.X_ContainsFunc_int64 ⟨trivial, trivial, trivial⟩ trivial ?_
  have hi := X_IndexFunc_int64_pf h f hcl g p hl hf
  have hg := idxM_ge (g := g) (l := p) (k := 0)
  have hlt := idxM_lt (g := g) (l := p) (k := 0)
  generalize idxM g p 0 = R at *
  clear hf
  simp (disch := omega) only [seval, ↓SDX, isRes, slEl, bslParts, mmAll, mmR, SUX, List.replicate, List.append, pr, lr, er, binR, ev, putA, List.set, intOf, takeAg, cellsOf, wrAll, partsOk, ones, one, isOne, wok1, findPE, List.find?, nop, prlr, isPure, pickR, optInt, rets, rv, rvs, X_ContainsFunc_int64_c, IntKind.bits]
  refine hi.step ?_
  simp (disch := omega) only [seval, ↓SDX, isRes, slEl, bslParts, mmAll, mmR, SUX, List.replicate, List.append, pr, lr, er, binR, ev, putA, List.set, intOf, takeAg, cellsOf, wrAll, partsOk, ones, one, isOne, wok1, findPE, List.find?, nop, prlr, isPure, pickR, optInt, rets, rv, rvs, hg, IntKind.bits]
  exact WkV.eq (by first | rfl | simp) (by first | trivial | (simp only [noix, noixL, NX, and_true, true_and]; done))
theorem I_ValidPoly_1_pf (x : Int) : Pf P F.I_ValidPoly_1 [.raw (.int .i64 x)] (.raw (.bool (!polyIn x))) := by
  refine pf_of h.I_ValidPoly_1 (by simp only [noixL, noix, NX, and_true, true_and]) trivial ?_
  have hw := I_within_pf h x (-1000000) 1000000
  rw [show (decide ((-1000000 : Int) ≤ x) && decide (x ≤ 1000000)) = polyIn x from rfl] at hw
  simp (disch := omega) only [seval, ↓SDX, isRes, slEl, bslParts, mmAll, mmR, SUX, List.replicate, List.append, pr, lr, er, binR, ev, putA, List.set, intOf, takeAg, cellsOf, wrAll, partsOk, ones, one, isOne, wok1, findPE, List.find?, nop, prlr, isPure, pickR, optInt, rets, rv, rvs, I_ValidPoly_1_c, IntKind.bits]
  refine hw.step ?_
  simp (disch := omega) only [seval, ↓SDX, isRes, slEl, bslParts, mmAll, mmR, SUX, List.replicate, List.append, pr, lr, er, binR, ev, putA, List.set, intOf, takeAg, cellsOf, wrAll, partsOk, ones, one, isOne, wok1, findPE, List.find?, nop, prlr, isPure, pickR, optInt, rets, rv, rvs, IntKind.bits]
  exact WkV.eq (by first | rfl | simp) (by first | trivial | (simp only [noix, noixL, NX, and_true, true_and]; done))
set_option maxRecDepth 20000 in
theorem I_ValidPoly_pf (hcl : callable P F.I_ValidPoly_1 = true) (p : List Int) (hl : p.length ≤ 1048576) : Pf P F.I_ValidPoly [roI p] (.raw (.bool (polyOk p))) := by
  refine pf_of h.I_ValidPoly ⟨trivial, trivial⟩ trivial ?_
  have hc := X_ContainsFunc_int64_pf h F.I_ValidPoly_1 hcl (fun x => !polyIn x) p hl (I_ValidPoly_1_pf h)
  unfold polyOk
  rw [← all_any p]
  generalize p.any (fun x => !polyIn x) = B at *
  by_cases h2 : 2 ≤ p.length ∧ p.length ≤ 9
  · have e2 : (decide (2 ≤ p.length) && decide (p.length ≤ 9)) = true := by simp [h2]
    obtain ⟨n, hn⟩ : ∃ n, p.length = n + 1 := ⟨p.length - 1, by omega⟩
    have s1 : ((n + 1 : Nat) : Int) - 1 = (n : Int) := by omega
    have hg := i64s_get (l := p) (i := n) (by omega)
    rw [e2, hn, Nat.add_sub_cancel]
    obtain ⟨L, hL⟩ : ∃ L, p.getD n 0 = L := ⟨_, rfl⟩
    rw [hL] at hg ⊢
    clear e2
    by_cases h0 : L = 0
    · subst h0
      simp (disch := omega) only [seval, ↓SDX, isRes, slEl, bslParts, mmAll, mmR, SUX, List.replicate, List.append, pr, lr, er, binR, ev, putA, List.set, intOf, takeAg, cellsOf, wrAll, partsOk, ones, one, isOne, wok1, findPE, List.find?, nop, prlr, isPure, pickR, optInt, rets, rv, rvs, I_ValidPoly_c, CN, NW, hn, s1, hg, IntKind.bits]
      exact WkV.eq (by first | rfl | simp) (by first | trivial | (simp only [noix, noixL, NX, and_true, true_and]; done))
    · simp (disch := omega) only [seval, ↓SDX, isRes, slEl, bslParts, mmAll, mmR, SUX, List.replicate, List.append, pr, lr, er, binR, ev, putA, List.set, intOf, takeAg, cellsOf, wrAll, partsOk, ones, one, isOne, wok1, findPE, List.find?, nop, prlr, isPure, pickR, optInt, rets, rv, rvs, I_ValidPoly_c, CN, NW, hn, s1, hg, h0, IntKind.bits]
      refine hc.step ?_
      simp (disch := omega) only [seval, ↓SDX, isRes, slEl, bslParts, mmAll, mmR, SUX, List.replicate, List.append, pr, lr, er, binR, ev, putA, List.set, intOf, takeAg, cellsOf, wrAll, partsOk, ones, one, isOne, wok1, findPE, List.find?, nop, prlr, isPure, pickR, optInt, rets, rv, rvs, IntKind.bits]
      exact WkV.eq (by simp) trivial
  · have e2 : (decide (2 ≤ p.length) && decide (p.length ≤ 9)) = false := by
      simp only [Bool.and_eq_false_iff, decide_eq_false_iff_not]; omega
    rw [e2]
    clear e2 hc
    by_cases h3 : p.length < 2
    · clear h2
      simp (disch := omega) only [seval, ↓SDX, isRes, slEl, bslParts, mmAll, mmR, SUX, List.replicate, List.append, pr, lr, er, binR, ev, putA, List.set, intOf, takeAg, cellsOf, wrAll, partsOk, ones, one, isOne, wok1, findPE, List.find?, nop, prlr, isPure, pickR, optInt, rets, rv, rvs, I_ValidPoly_c, CN, IntKind.bits]
      exact WkV.eq (by first | rfl | simp) (by first | trivial | (simp only [noix, noixL, NX, and_true, true_and]; done))
    · have h4 : 9 < p.length := by omega
      clear h2
      simp (disch := omega) only [seval, ↓SDX, isRes, slEl, bslParts, mmAll, mmR, SUX, List.replicate, List.append, pr, lr, er, binR, ev, putA, List.set, intOf, takeAg, cellsOf, wrAll, partsOk, ones, one, isOne, wok1, findPE, List.find?, nop, prlr, isPure, pickR, optInt, rets, rv, rvs, I_ValidPoly_c, CN, IntKind.bits]
      exact WkV.eq (by first | rfl | simp) (by first | trivial | (simp only [noix, noixL, NX, and_true, true_and]; done))
set_option maxRecDepth 20000 in
theorem I_widen_pf (l : List Int) (hl : l.length ≤ 1000000) (hr : ∀ x ∈ l, -9223372036854775808 ≤ x ∧ x < 9223372036854775808) : Pf P F.I_widen [roI l] (roW l) := by
  refine pf_of h.I_widen ⟨trivial, trivial⟩ trivial ?_
  obtain ⟨n, hn⟩ : ∃ n, l.length = n := ⟨_, rfl⟩
  rw [hn] at hl
  simp (disch := omega) only [seval, ↓SDX, isRes, slEl, bslParts, mmAll, mmR, SUX, List.replicate, List.append, pr, lr, er, binR, ev, putA, List.set, intOf, takeAg, cellsOf, wrAll, partsOk, ones, one, isOne, wok1, findPE, List.find?, nop, prlr, isPure, pickR, optInt, rets, rv, rvs, I_widen_c, CN, NW, hn, RW, IntKind.bits]
  refine loop_st (fun s : Nat × List Int => n - s.1) (fun s => ([.junk, .junk, .raw (.slice none 0 0), .sl 0 7 0 n true, .junk, .junk, .junk, .junk, .junk, roI l, .raw (.int .i64 (n : Nat)), .raw (.int .i64 (s.1 : Nat))] ++ List.replicate 11 .junk)) (fun s => [.c (wds s.2)])
    (fun s => s.1 ≤ n ∧ s.2.length = n ∧ s.2.take s.1 = l.take s.1) (0, List.replicate n 0) ⟨Nat.zero_le _, by simp, rfl⟩ (Wk.tmps (by simp only [fits, eq_self, and_self, Int.cast_ofNat_Int, Int.natCast_add, and_true, true_and, List.replicate, List.cons_append, List.nil_append])) ?_
  rintro ⟨k, s⟩ ⟨hk, hs, ht⟩
  dsimp only at hk hs ht ⊢
  by_cases hk2 : k < n
  · have hx := i64s_get (l := l) (i := k) (by omega)
    obtain ⟨h1, h2⟩ := hr (l.getD k 0) (by rw [List.getD_eq_getElem?_getD, List.getElem?_eq_getElem (by omega)]; exact List.getElem_mem _)
    have hst := set_take (k := k) (hs.trans hn.symm) (by omega) ht rfl
    have hp := I_WideOf_pf h _ h1 h2
    have hsl : (s.set k (l.getD k 0)).length = n := by rw [List.length_set]; exact hs
    generalize l.getD k 0 = x at *
    clear hr
    simp (disch := omega) only [seval, ↓SDX, isRes, slEl, bslParts, mmAll, mmR, SUX, List.replicate, List.append, pr, lr, er, binR, ev, putA, List.set, intOf, takeAg, cellsOf, wrAll, partsOk, ones, one, isOne, wok1, findPE, List.find?, nop, prlr, isPure, pickR, optInt, rets, rv, rvs, CN, NW, hx, IntKind.bits]
    refine hp.step ?_
    simp (disch := omega) only [seval, ↓SDX, isRes, slEl, bslParts, mmAll, mmR, SUX, List.replicate, List.append, pr, lr, er, binR, ev, putA, List.set, intOf, takeAg, cellsOf, wrAll, partsOk, ones, one, isOne, wok1, findPE, List.find?, nop, prlr, isPure, pickR, optInt, rets, rv, rvs, CN, NW, hs, RW, IntKind.bits]
    exact ⟨(k + 1, s.set k x), by dsimp only; omega, ⟨by dsimp only; omega, hsl, hst⟩, Wk.shed (n := 1) (by decide) (by simp only [fits, eq_self, and_self, Int.cast_ofNat_Int, Int.natCast_add, and_true, true_and, List.replicate, List.cons_append, List.nil_append]) (by simp only [cutL, cutAV, cutSg, CU, List.replicate, List.cons_append, List.nil_append, Nat.reduceLT, if_true, if_false, List.map_cons, List.map_nil, List.take_succ_cons, List.take_zero, cut_wds, cut_i64s]) (by simp only [cutH, cutL, cutAV, cutSg, CU, List.replicate, List.cons_append, List.nil_append, Nat.reduceLT, if_true, if_false, List.map_cons, List.map_nil, List.take_succ_cons, List.take_zero, cut_wds, cut_i64s])⟩
  · have hk3 : k = n := by omega
    subst hk3
    rw [List.take_of_length_le (by omega), List.take_of_length_le (by omega)] at ht
    subst ht
    clear hr
    simp (disch := omega) only [seval, ↓SDX, isRes, slEl, bslParts, mmAll, mmR, SUX, List.replicate, List.append, pr, lr, er, binR, ev, putA, List.set, intOf, takeAg, cellsOf, wrAll, partsOk, ones, one, isOne, wok1, findPE, List.find?, nop, prlr, isPure, pickR, optInt, rets, rv, rvs, CN, NW, IntKind.bits]
    refine WkV.frz (i := 0) rfl (noixL_wds _) (WkV.eq ?_ trivial)
    simp [frz, wds_length, List.take_of_length_le, hs]
set_option maxRecDepth 20000 in
theorem I_slope_pf (l : List Int) (hl : l.length ≤ 1000) (hl1 : 1 ≤ l.length) (hr : ∀ x ∈ l, -1000000 ≤ x ∧ x ≤ 1000000) : Pf P F.I_slope [roI l] (roI (slopeM l)) := by
  refine pf_of h.I_slope ⟨trivial, trivial⟩ trivial ?_
  obtain ⟨n, hn⟩ : ∃ n, l.length = n + 1 := ⟨l.length - 1, by omega⟩
  have s1 : ((n + 1 : Nat) : Int) - 1 = (n : Int) := by omega
  have htl := slopeM_length l
  have htg := fun k hk => slopeM_get (p := l) (k := k) hk
  generalize slopeM l = t at *
  rw [hn, Nat.add_sub_cancel] at htl htg
  simp (disch := omega) only [seval, ↓SDX, isRes, slEl, bslParts, mmAll, mmR, SUX, List.replicate, List.append, pr, lr, er, binR, ev, putA, List.set, intOf, takeAg, cellsOf, wrAll, partsOk, ones, one, isOne, wok1, findPE, List.find?, nop, prlr, isPure, pickR, optInt, rets, rv, rvs, I_slope_c, CN, NW, hn, s1, RW, IntKind.bits]
  refine loop_st (fun s : Nat × List Int => n - s.1) (fun s => ([roI l, .junk, .raw (.slice none 0 0), .sl 0 1 0 n true, .junk, .junk, .junk, .junk, .junk, .junk, .raw (.int .i64 (n : Nat)), .raw (.int .i64 (s.1 : Nat))] ++ List.replicate 15 .junk)) (fun s => [.c (i64s s.2)])
    (fun s => s.1 ≤ n ∧ s.2.length = n ∧ s.2.take s.1 = t.take s.1) (0, List.replicate n 0) ⟨Nat.zero_le _, by simp, rfl⟩ (Wk.tmps (by simp only [fits, eq_self, and_self, Int.cast_ofNat_Int, Int.natCast_add, and_true, true_and, List.replicate, List.cons_append, List.nil_append])) ?_
  rintro ⟨k, s⟩ ⟨hk, hs, ht⟩
  dsimp only at hk hs ht ⊢
  by_cases hk2 : k < n
  · have hx := i64s_get (l := l) (i := k + 1) (by omega)
    obtain ⟨h1, h2⟩ := hr (l.getD (k + 1) 0) (by rw [List.getD_eq_getElem?_getD, List.getElem?_eq_getElem (by omega)]; exact List.getElem_mem _)
    have hst := set_take (k := k) (hs.trans htl.symm) (by omega) ht (htg k hk2).symm
    have hsl : (s.set k (((k + 1 : Nat) : Int) * l.getD (k + 1) 0)).length = n := by rw [List.length_set]; exact hs
    have hb : -1000000000 ≤ ((k + 1 : Nat) : Int) * l.getD (k + 1) 0 ∧ ((k + 1 : Nat) : Int) * l.getD (k + 1) 0 ≤ 1000000000 := by
      have a1 : ((k + 1 : Nat) : Int) ≤ 1000 := by omega
      have a2 : (0 : Int) ≤ ((k + 1 : Nat) : Int) := by omega
      have b1 := Int.mul_le_mul_of_nonneg_left h2 a2
      have b2 := Int.mul_le_mul_of_nonneg_left h1 a2
      omega
    have hki : (k : Int) + 1 = ((k + 1 : Nat) : Int) := by omega
    clear htg hr
    generalize l.getD (k + 1) 0 = x at *
    obtain ⟨y, hy⟩ : ∃ y, ((k + 1 : Nat) : Int) * x = y := ⟨_, rfl⟩
    rw [hy] at hst hsl hb
    simp (disch := omega) only [seval, ↓SDX, isRes, slEl, bslParts, mmAll, mmR, SUX, List.replicate, List.append, pr, lr, er, binR, ev, putA, List.set, intOf, takeAg, cellsOf, wrAll, partsOk, ones, one, isOne, wok1, findPE, List.find?, nop, prlr, isPure, pickR, optInt, rets, rv, rvs, CN, NW, hki, hx, hs, hy, RW, IntKind.bits]
    exact ⟨(k + 1, s.set k y), by dsimp only; omega, ⟨by dsimp only; omega, hsl, hst⟩, Wk.shed (n := 1) (by decide) (by simp only [fits, eq_self, and_self, Int.cast_ofNat_Int, Int.natCast_add, and_true, true_and, List.replicate, List.cons_append, List.nil_append]) (by simp only [cutL, cutAV, cutSg, CU, List.replicate, List.cons_append, List.nil_append, Nat.reduceLT, if_true, if_false, List.map_cons, List.map_nil, List.take_succ_cons, List.take_zero, cut_wds, cut_i64s]) (by simp only [cutH, cutL, cutAV, cutSg, CU, List.replicate, List.cons_append, List.nil_append, Nat.reduceLT, if_true, if_false, List.map_cons, List.map_nil, List.take_succ_cons, List.take_zero, cut_wds, cut_i64s])⟩
  · have hk3 : k = n := by omega
    subst hk3
    rw [List.take_of_length_le (by omega), List.take_of_length_le (by omega)] at ht
    subst ht
    clear hr htg
    simp (disch := omega) only [seval, ↓SDX, isRes, slEl, bslParts, mmAll, mmR, SUX, List.replicate, List.append, pr, lr, er, binR, ev, putA, List.set, intOf, takeAg, cellsOf, wrAll, partsOk, ones, one, isOne, wok1, findPE, List.find?, nop, prlr, isPure, pickR, optInt, rets, rv, rvs, CN, NW, IntKind.bits]
    refine WkV.frz (i := 0) rfl (noixL_i64s _) (WkV.eq ?_ trivial)
    simp [frz, i64s_length, List.take_of_length_le, hs]
end
end Go.Proofs.Lite

namespace Go.Proofs.Lite
open Go
def mulO (a b : Int) : Int := if (a * b).natAbs < bW then a * b else 0
theorem mulO_lt (a b : Int) : (mulO a b).natAbs < bW := by unfold mulO; split; assumption; decide
def stV (sz lt x y : Int) (b : Bool) : Int := if b then cl (mulO sz x - mulO lt y) else mulO sz x
def stO (sz lt x y : Int) (b : Bool) : Bool := !decide ((sz * x).natAbs < bW) || (b && (!decide ((lt * y).natAbs < bW) || !decide ((mulO sz x - mulO lt y).natAbs < bW)))
theorem st_agree (sz lt : Int) (r v : List Int) (i : Nat) {x y : Int} {b : Bool} (hx : r.getD i 0 = x) (hy : b = true → v.getD (i - (r.length - v.length)) 0 = y) (hb : b = decide (r.length - v.length ≤ i)) :
    stepM sz lt r v i = if stO sz lt x y b then none else some (stV sz lt x y b) := by
  unfold stepM stO stV
  rw [hx]
  by_cases h1 : (sz * x).natAbs < bW
  · by_cases h2 : r.length - v.length ≤ i
    · have hb' : b = true := by rw [hb]; simpa using h2
      subst hb'
      rw [hy rfl]
      by_cases h3 : (lt * y).natAbs < bW
      · have e1 : mulO sz x = sz * x := if_pos h1
        have e2 : mulO lt y = lt * y := if_pos h3
        rw [e1, e2, Int.sub_eq_add_neg]
        by_cases h4 : (sz * x + -(lt * y)).natAbs < bW
        · simp [h1, h2, h3, h4, cl_eq]
        · simp [h1, h2, h3, h4]
      · simp [h1, h2, h3]
    · have hb' : b = false := by rw [hb]; simpa using h2
      subst hb'
      have e1 : mulO sz x = sz * x := if_pos h1
      simp [h1, h2, e1]
  · simp [h1]
theorem shortN_take (l : List Int) {m : Nat} : ∀ {k : Nat}, k ≤ m → shortN (l.take m) k = shortN l k
  | 0, _ => rfl
  | k + 1, h => by
    simp only [shortN]
    rw [shortN_take l (show k ≤ m by omega), List.getD_eq_getElem?_getD, List.getElem?_take_of_lt (by omega), ← List.getD_eq_getElem?_getD]
theorem short_take {l : List Int} {m : Nat} (h : m ≤ l.length) : short (l.take m) = l.take (shortN l m) := by
  unfold short
  have hl : (l.take m).length = m := by rw [List.length_take]; omega
  rw [hl, shortN_take l (Nat.le_refl m), List.take_take]
  congr 1
  have := shortN_le l m
  omega
theorem set_take1 {l : List Int} {k : Nat} {z : Int} (h : k < l.length) : (l.set k z).take (k + 1) = l.take k ++ [z] := by
  rw [List.take_set, List.take_succ, List.getElem?_eq_getElem h, List.set_append]
  have hm : min k l.length = k := by omega
  simp [hm]
theorem set_drop1 {l : List Int} {k : Nat} {z : Int} : (l.set k z).drop (k + 1) = l.drop (k + 1) := by
  rw [List.drop_set_of_lt (by omega)]
theorem inW.set {l : List Int} (h : inW l) {k : Nat} {z : Int} (hz : z.natAbs < bW) : inW (l.set k z) := by
  intro x hx
  rcases List.mem_or_eq_of_mem_set hx with h1 | h1
  · exact h x h1
  · subst h1; exact hz
theorem drop_get {a b : List Int} {k : Nat} (h : a.drop k = b.drop k) : a.getD k 0 = b.getD k 0 := by
  have := congrArg (fun l => l.getD 0 0) h
  simpa [List.getD_eq_getElem?_getD] using this
/-- How far the program's row is. -/
def rowJ (f : Nat → Option Int) (m k : Nat) (L L' : List Int) (o : Bool) : Prop :=
  (o = false ∧ rowM f k = some (L'.take k) ∧ L'.drop k = L.drop k) ∨ (o = true ∧ rowM f m = none)
theorem rowJ.next {sz lt : Int} {r v : List Int} {m k : Nat} {L L' : List Int} {o : Bool} (h : rowJ (stepM sz lt r v) m k L L' o) (hk : k < m) (hm : m ≤ L.length) (hl : L'.length = L.length) (hr : r = L.take m)
    {y : Int} {b : Bool} (hy : b = true → v.getD (k - (m - v.length)) 0 = y) (hb : b = decide (m - v.length ≤ k)) :
    rowJ (stepM sz lt r v) m (k + 1) L (L'.set k (stV sz lt (L'.getD k 0) y b)) (o || stO sz lt (L'.getD k 0) y b) := by
  have hrl : r.length = m := by rw [hr, List.length_take]; omega
  rcases h with ⟨rfl, h1, h2⟩ | ⟨rfl, h1⟩
  · have hx : r.getD k 0 = L'.getD k 0 := by
      rw [drop_get h2, hr, List.getD_eq_getElem?_getD, List.getElem?_take_of_lt hk, ← List.getD_eq_getElem?_getD]
    have hs := st_agree sz lt r v k hx (by rw [hrl]; exact hy) (by rw [hrl]; exact hb)
    generalize L'.getD k 0 = x at *
    by_cases ho : stO sz lt x y b = true
    · rw [ho] at hs ⊢
      right
      refine ⟨rfl, rowM_none (k := k + 1) ?_ (by omega)⟩
      simp only [rowM, h1, hs, if_true]
    · have ho' : stO sz lt x y b = false := by simpa using ho
      rw [ho'] at hs ⊢
      left
      refine ⟨rfl, ?_, ?_⟩
      · simp only [rowM, h1, hs]
        rw [set_take1 (by omega)]; rfl
      · rw [set_drop1]
        have := congrArg (List.drop 1) h2
        simpa [List.drop_drop] using this
  · right; exact ⟨by simp, h1⟩
theorem gcdL_neg : ∀ (l : List Int) (g : Nat), gcdL (negM l) g = gcdL l g
  | [], _ => rfl
  | x :: l, g => by
    rw [show negM (x :: l) = (-x) :: negM l from rfl, gcdL_cons, gcdL_cons, Int.natAbs_neg]; exact gcdL_neg l _
def lightM (opp : Bool) (l : List Int) : List Int := thinM (if opp then negM l else l)
theorem lightM_length (opp : Bool) (l : List Int) : (lightM opp l).length = l.length := by unfold lightM; cases opp <;> simp [thinM, negM]
/-- What a coefficient becomes. -/
theorem light_get {opp : Bool} {l : List Int} {k : Nat} (hk : k < l.length) (hg : gcdL l 0 ≠ 0) :
    (lightM opp l).getD k 0 = if (decide (l.getD k 0 < 0) != opp) then -(((l.getD k 0).natAbs / gcdL l 0 : Nat) : Int) else (((l.getD k 0).natAbs / gcdL l 0 : Nat) : Int) := by
  have hd : gcdL l 0 ∣ (l.getD k 0).natAbs := by
    refine (gcdL_dvd l 0).2 _ ?_
    rw [List.getD_eq_getElem?_getD, List.getElem?_eq_getElem hk]; exact List.getElem_mem _
  have key : ∀ x : Int, gcdL l 0 ∣ x.natAbs → x.fdiv (gcdL l 0 : Nat) = if x < 0 then -((x.natAbs / gcdL l 0 : Nat) : Int) else ((x.natAbs / gcdL l 0 : Nat) : Int) := by
    intro x hx
    generalize gcdL l 0 = g at *
    obtain ⟨q, hq⟩ := hx
    rw [hq, Nat.mul_div_cancel_left _ (by omega), Int.fdiv_eq_ediv_of_nonneg _ (by omega)]
    by_cases h0 : x < 0
    · rw [if_pos h0, show x = (g : Int) * (-(q : Int)) from by rw [Int.mul_neg, ← Int.natCast_mul, ← hq]; omega]
      exact Int.mul_ediv_cancel_left _ (by omega)
    · rw [if_neg h0, show x = (g : Int) * (q : Int) from by rw [← Int.natCast_mul, ← hq]; omega]
      exact Int.mul_ediv_cancel_left _ (by omega)
  unfold lightM
  cases opp
  · simp only [Bool.false_eq_true, if_false]
    rw [thinM_get hk, key _ hd]
    simp
  · simp only [if_true]
    rw [thinM_get (by rw [negM_length]; exact hk), gcdL_neg, negM_get hk, key _ (by rw [Int.natAbs_neg]; exact hd), Int.natAbs_neg]
    generalize l.getD k 0 = x at *
    rcases Int.lt_trichotomy x 0 with h0 | h0 | h0
    · have : ¬ -x < 0 := by omega
      simp [h0, this]
      intro k; exact absurd k (by omega)
    · subst h0; simp
    · have h1 : -x < 0 := by omega
      have h2 : ¬ x < 0 := by omega
      simp [h1, h2]
      intro k; exact absurd k (by omega)
theorem gcdL_take {l : List Int} {k g : Nat} (h : k < l.length) : gcdL (l.take (k + 1)) g = Nat.gcd (gcdL (l.take k) g) (l.getD k 0).natAbs := by
  rw [take_succ_getD h]; unfold gcdL; rw [List.foldl_append]; rfl
end Go.Proofs.Lite

namespace Go.Proofs.Lite
open Go
section
variable {P : Program} {F : FnsA} (h : IsA P F)
include h
set_option maxRecDepth 20000 in
theorem I_trimmed_ct (l : List Int) (n : Nat) (hn : n ≤ l.length) (hl : l.length ≤ 1000000) (hr : inW l) : Ct P F.I_trimmed [.sl 0 7 0 n true] [.c (wds l)] (fun v' H' => H' = [.c (wds l)] ∧ v' = .sl 0 7 0 (shortN l n) true) := by
  refine own_of h.I_trimmed ?_
  obtain ⟨R, hR⟩ : ∃ R, shortN l n = R := ⟨_, rfl⟩
  rw [hR]
  simp (disch := omega) only [seval, ↓SDX, isRes, slEl, bslParts, mmAll, mmR, SUX, List.replicate, List.append, pr, lr, er, binR, ev, putA, List.set, intOf, takeAg, cellsOf, wrAll, partsOk, ones, one, isOne, wok1, findPE, List.find?, nop, prlr, isPure, pickR, optInt, rets, rv, rvs, I_trimmed_c, IntKind.bits]
  refine loop_st (fun s : Nat => s) (fun k => ([.sl 0 7 0 k true, .junk, .raw (.slice none 0 0)] ++ List.replicate 19 .junk)) (fun k => [.c (wds l)]) (fun k => k ≤ n ∧ shortN l k = R) n ⟨Nat.le_refl _, hR⟩ (Wk.tmps (by simp only [fits, eq_self, and_self, Int.cast_ofNat_Int, Int.natCast_add, and_true, true_and, List.replicate, List.cons_append, List.nil_append])) ?_
  rintro k ⟨hk, hkR⟩
  by_cases hk0 : k = 0
  · subst hk0
    simp only [shortN] at hkR
    subst hkR
    clear hr hR
    simp (disch := omega) only [seval, ↓SDX, isRes, slEl, bslParts, mmAll, mmR, SUX, List.replicate, List.append, pr, lr, er, binR, ev, putA, List.set, intOf, takeAg, cellsOf, wrAll, partsOk, ones, one, isOne, wok1, findPE, List.find?, nop, prlr, isPure, pickR, optInt, rets, rv, rvs, IntKind.bits]
    exact WkV.eq1' rfl (by simp [cutAV]) rfl (cutL_noix _ (noixL_wds _))
  obtain ⟨i, rfl⟩ : ∃ i, k = i + 1 := ⟨k - 1, by omega⟩
  have hget := wds_get (l := l) (i := i) (by omega)
  have hx := hr.get (i := i) (by omega)
  have hp := I_sign_pf h _ hx
  have hki : ((i + 1 : Nat) : Int) - 1 = (i : Int) := by omega
  simp only [shortN] at hkR
  have hle := shortN_le l i
  obtain ⟨x, hxe⟩ : ∃ x, l.getD i 0 = x := ⟨_, rfl⟩
  rw [hxe] at hget hx hp hkR
  have hlen : i * 7 + 7 ≤ (wds l).length := by rw [wds_length]; omega
  clear hr hR
  simp (disch := omega) only [seval, ↓SDX, isRes, slEl, bslParts, mmAll, mmR, SUX, List.replicate, List.append, pr, lr, er, binR, ev, putA, List.set, intOf, takeAg, cellsOf, wrAll, partsOk, ones, one, isOne, wok1, findPE, List.find?, nop, prlr, isPure, pickR, optInt, rets, rv, rvs, CN, hki, hget, IntKind.bits]
  refine hp.step ?_
  by_cases h0 : x = 0
  · rw [if_pos h0] at hkR
    subst h0
    simp (disch := omega) only [seval, ↓SDX, isRes, slEl, bslParts, mmAll, mmR, SUX, List.replicate, List.append, pr, lr, er, binR, ev, putA, List.set, intOf, takeAg, cellsOf, wrAll, partsOk, ones, one, isOne, wok1, findPE, List.find?, nop, prlr, isPure, pickR, optInt, rets, rv, rvs, CN, hki, Int.sign_zero, IntKind.bits]
    exact ⟨i, by omega, ⟨by omega, hkR⟩, Wk.tmps (by simp only [fits, eq_self, and_self, Int.cast_ofNat_Int, Int.natCast_add, and_true, true_and, List.replicate, List.cons_append, List.nil_append])⟩
  · rw [if_neg h0] at hkR
    subst hkR
    have hs : ¬ x.sign = 0 := fun k => h0 (Int.sign_eq_zero_iff_zero.1 k)
    simp (disch := omega) only [seval, ↓SDX, isRes, slEl, bslParts, mmAll, mmR, SUX, List.replicate, List.append, pr, lr, er, binR, ev, putA, List.set, intOf, takeAg, cellsOf, wrAll, partsOk, ones, one, isOne, wok1, findPE, List.find?, nop, prlr, isPure, pickR, optInt, rets, rv, rvs, CN, hki, IntKind.bits]
    exact WkV.eq1' rfl (by simp [cutAV]) rfl (cutL_noix _ (noixL_wds _))
theorem X_Clone_Wide_ct (u : List Int) (h1 : 1 ≤ u.length) (h2 : u.length ≤ 1000) : Ct P F.X_Clone_Wide [roW u] [] (fun v' H' => H' = [.c (wds u)] ∧ v' = .sl 0 7 0 u.length true) := by
  refine fresh_of h.X_Clone_Wide ?_
  simp (disch := omega) only [seval, ↓SDX, isRes, slEl, bslParts, mmAll, mmR, SUX, List.replicate, List.append, pr, lr, er, binR, ev, putA, List.set, intOf, takeAg, cellsOf, wrAll, partsOk, ones, one, isOne, wok1, findPE, List.find?, nop, prlr, isPure, pickR, optInt, rets, rv, rvs, X_Clone_Wide_c, FR, NW, CN, IntKind.bits]
  refine ⟨_, _, ⟨rfl, rfl⟩, ?_⟩
  exact Wk.back (i := 0) (j := 1) (n := 1) (by decide) (by decide) (by decide) rfl rfl (by simp only [mvL, mvAV, cutL, cutAV, fits, DU, eq_self, and_self, and_true, true_and, Int.cast_ofNat_Int, Int.natCast_add, List.replicate, List.cons_append, List.nil_append, ↓reduceIte, Nat.reduceEqDiff, Nat.reduceLT, reduceCtorEq, if_true, if_false, List.map_cons, List.map_nil, List.take_succ_cons, List.take_zero, List.set]) (by simp only [cutH, mvH, mvSg, cutSg, mvL, cutL, DU, eq_self, and_self, and_true, true_and, Int.cast_ofNat_Int, Int.natCast_add, List.replicate, List.cons_append, List.nil_append, ↓reduceIte, Nat.reduceEqDiff, Nat.reduceLT, reduceCtorEq, if_true, if_false, List.map_cons, List.map_nil, List.take_succ_cons, List.take_zero, List.set])
end
end Go.Proofs.Lite

namespace Go.Proofs.Lite
open Go
theorem rix_nil (m k : Nat) : rix [] m k = (m + k, 0) := by simp [rix]
theorem renL_wds (e : List (Nat × Nat)) (m : Nat) (l : List Int) : renL e m (wds l) = wds l := renL_noix _ (noixL_wds l)
theorem renL_i64s (e : List (Nat × Nat)) (m : Nat) (l : List Int) : renL e m (i64s l) = i64s l := renL_noix _ (noixL_i64s l)
theorem renL_rws (e : List (Nat × Nat)) (m : Nat) (l : List (List Int)) : renL e m (rws l) = rws l := renL_noix _ (noixL_rws l)
theorem ren_sl (e : List (Nat × Nat)) (m k z o n : Nat) (b : Bool) : ren e m (.sl k z o n b) = .sl (rix e m k).1 z ((rix e m k).2 + o) n b := rfl
theorem ren_ptr (e : List (Nat × Nat)) (m k o : Nat) : ren e m (.ptr k o) = .ptr (rix e m k).1 ((rix e m k).2 + o) := rfl
theorem ren_tup (e : List (Nat × Nat)) (m : Nat) (cs : List AV) : ren e m (.tup cs) = .tup (renL e m cs) := rfl
theorem ren_raw (e : List (Nat × Nat)) (m : Nat) (v : Value) : ren e m (.raw v) = .raw v := rfl
theorem ren_ro (e : List (Nat × Nat)) (m z n : Nat) (cs : List AV) : ren e m (.ro z n cs) = .ro z n cs := rfl
theorem renL_nil (e : List (Nat × Nat)) (m : Nat) : renL e m [] = [] := rfl
theorem renL_cons (e : List (Nat × Nat)) (m : Nat) (c : AV) (cs : List AV) : renL e m (c :: cs) = ren e m c :: renL e m cs := rfl
theorem renSg_c (e : List (Nat × Nat)) (m : Nat) (cs : List AV) : renSg e m (.c cs) = .c (renL e m cs) := rfl
def RN := And.intro @rix_nil <| And.intro @renL_wds <| And.intro @renL_i64s <| And.intro @renL_rws <| And.intro @ren_sl <| And.intro @ren_ptr <| And.intro @ren_tup <| And.intro @ren_raw <| And.intro @ren_ro <| And.intro @renL_nil <| And.intro @renL_cons @renSg_c
/-- What the program's rest does: the row, or the mark that a number was too large. -/
def restR (o : Option (List Int)) (v' : AV) (c' : List AV) : Prop :=
  match o with
  | none => c' = oc true ∧ ∃ l, v' = roW l
  | some r => c' = oc false ∧ v' = roW r
theorem restR_ok {o : Option (List Int)} : ∀ v' c', restR o v' c' → noix v' ∧ noixL c' ∧ c'.length = (oc false).length := by
  intro v' c' h
  unfold restR at h
  split at h
  · obtain ⟨rfl, l, rfl⟩ := h; exact ⟨trivial, ⟨trivial, trivial⟩, rfl⟩
  · obtain ⟨rfl, rfl⟩ := h; exact ⟨trivial, ⟨trivial, trivial⟩, rfl⟩
section
variable {P : Program} {F : FnsA} (h : IsA P F)
include h
set_option maxRecDepth 20000 in
set_option maxHeartbeats 1000000 in
theorem I_calc_rest_or (u v : List Int) (hu1 : 1 ≤ u.length) (hu : u.length ≤ 1000) (hv : v.length ≤ 1000) (hv1 : 1 ≤ v.length) (hru : inW u) (hrv : inW v) : OwR P F.I_calc_rest (oc false) [roW u, roW v] (restR (restM v (u.length + 1) (short u))) := by
  refine owR_of h.I_calc_rest ⟨trivial, trivial, trivial⟩ ⟨trivial, trivial⟩ restR_ok ?_
  obtain ⟨n, hn⟩ : ∃ n, v.length = n + 1 := ⟨v.length - 1, by omega⟩
  have s1 : ((n + 1 : Nat) : Int) - 1 = (n : Int) := by omega
  have hlast := wds_get (l := v) (i := n) (by omega)
  have hll := hrv.get (i := n) (by omega)
  obtain ⟨Ld, hLd⟩ : ∃ L, v.getD n 0 = L := ⟨_, rfl⟩
  rw [hLd] at hlast hll
  obtain ⟨RES, hRES⟩ : ∃ R, restM v (u.length + 1) (short u) = R := ⟨_, rfl⟩
  rw [hRES]
  have hcl := X_Clone_Wide_ct h u hu1 hu
  have htr := I_trimmed_ct h u u.length (Nat.le_refl _) (by omega) hru
  have hsl := shortN_le u u.length
  have hw : wd false Ld.natAbs = wi (Ld.natAbs : Nat) := wd_plus _
  have hwi := I_wide_pf h false Ld.natAbs
  rw [Bool.false_and, hw] at hwi
  simp (disch := omega) only [seval, ↓SDX, isRes, slEl, bslParts, mmAll, mmR, SUX, List.replicate, List.append, pr, lr, er, binR, ev, putA, List.set, intOf, takeAg, cellsOf, wrAll, partsOk, ones, one, isOne, wok1, findPE, List.find?, nop, prlr, isPure, pickR, optInt, rets, rv, rvs, I_calc_rest_c, CN, NW, IntKind.bits]
  refine callD_fresh hcl ⟨trivial, trivial⟩ ?_
  rintro v0 H0 ⟨rfl, rfl⟩
  simp (disch := omega) only [seval, ↓SDX, isRes, slEl, bslParts, mmAll, mmR, SUX, List.replicate, List.append, pr, lr, er, binR, ev, putA, List.set, intOf, takeAg, cellsOf, wrAll, partsOk, ones, one, isOne, wok1, findPE, List.find?, nop, prlr, isPure, pickR, optInt, rets, rv, rvs, RN, IntKind.bits]
  refine callD_sl htr (by rfl) (noixL_wds _) ?_
  simp (disch := omega) only [seval, ↓SDX, isRes, slEl, bslParts, mmAll, mmR, SUX, List.replicate, List.append, pr, lr, er, binR, ev, putA, List.set, intOf, takeAg, cellsOf, wrAll, partsOk, ones, one, isOne, wok1, findPE, List.find?, nop, prlr, isPure, pickR, optInt, rets, rv, rvs, CN, NW, hn, s1, hlast, IntKind.bits]
  refine hwi.step ?_
  simp (disch := omega) only [seval, ↓SDX, isRes, slEl, bslParts, mmAll, mmR, SUX, List.replicate, List.append, pr, lr, er, binR, ev, putA, List.set, intOf, takeAg, cellsOf, wrAll, partsOk, ones, one, isOne, wok1, findPE, List.find?, nop, prlr, isPure, pickR, optInt, rets, rv, rvs, CN, NW, IntKind.bits]
  clear hcl htr hwi hlast
  refine loop_cut (fun s : List Int × Nat × Bool => ([.junk, .junk, .junk, .junk, .junk, .junk, .junk, .sl 1 7 0 s.2.1 true] ++ List.replicate 84 .junk)) (fun s => [.c (oc s.2.2), .c (wds s.1)])
    (fun s => s.2.1 ≤ s.1.length ∧ ((s.2.2 = false ∧ RES = some (s.1.take s.2.1)) ∨ (s.2.2 = true ∧ RES = none))) ?_ ?_
  · refine loop_st (fun s : Nat × Nat × List Int × Bool => if s.2.2.2 then 0 else s.1) (fun s => ([.ptr 0 0, .junk, roW v, .junk, .junk, .junk, .junk, .sl 1 7 0 s.2.1 true, .ptr 2 0, .ptr 3 0] ++ List.replicate 82 .junk)) (fun s => [.c (oc s.2.2.2), .c (wds s.2.2.1), .c (wi Ld), .c (wi (Ld.natAbs : Nat))])
      (fun s => s.2.1 < s.1 ∧ s.2.1 ≤ s.2.2.1.length ∧ s.2.2.1.length = u.length ∧ inW s.2.2.1 ∧ ((s.2.2.2 = false ∧ restM v s.1 (s.2.2.1.take s.2.1) = RES) ∨ (s.2.2.2 = true ∧ RES = none)))
      (u.length + 1, shortN u u.length, u, false) ⟨by dsimp only; omega, hsl, rfl, hru, .inl ⟨rfl, hRES⟩⟩ (Wk.tmps (by simp only [fits, eq_self, and_self, Int.cast_ofNat_Int, Int.natCast_add, and_true, true_and, List.replicate, List.cons_append, List.nil_append])) ?_
    rintro ⟨f, m, L, ov⟩ ⟨hf, hm, hLl, hLi, hres⟩
    dsimp only at hf hm hLl hLi hres ⊢
    obtain ⟨f, rfl⟩ : ∃ f', f = f' + 1 := ⟨f - 1, by omega⟩
    clear hRES hru hsl
    have hrl : (L.take m).length = m := by rw [List.length_take]; omega
    by_cases hc : m < v.length
    · have hex : (ov = false ∧ RES = some (L.take m)) ∨ (ov = true ∧ RES = none) := by
        rcases hres with ⟨rfl, h1⟩ | h1
        · left
          simp only [restM] at h1
          rw [if_pos (by omega)] at h1
          exact ⟨rfl, h1.symm⟩
        · exact .inr h1
      clear hres hLi hrv
      simp (disch := omega) only [seval, ↓SDX, isRes, slEl, bslParts, mmAll, mmR, SUX, List.replicate, List.append, pr, lr, er, binR, ev, putA, List.set, intOf, takeAg, cellsOf, wrAll, partsOk, ones, one, isOne, wok1, findPE, List.find?, nop, prlr, isPure, pickR, optInt, rets, rv, rvs, CN, NW, hn, IntKind.bits]
      exact ⟨(L, m, ov), ⟨hm, hex⟩, Wk.shed (n := 2) (by decide) (by simp only [fits, eq_self, and_self, Int.cast_ofNat_Int, Int.natCast_add, and_true, true_and, List.replicate, List.cons_append, List.nil_append]) (by simp only [cutL, cutAV, cutSg, CU, List.replicate, List.cons_append, List.nil_append, Nat.reduceLT, if_true, if_false, List.map_cons, List.map_nil, List.take_succ_cons, List.take_zero, cut_wds]) (by simp only [cutH, cutL, cutAV, cutSg, CU, List.replicate, List.cons_append, List.nil_append, Nat.reduceLT, if_true, if_false, List.map_cons, List.map_nil, List.take_succ_cons, List.take_zero, cut_wds])⟩
    rcases hres with ⟨rfl, hres⟩ | ⟨rfl, hres⟩
    · simp only [restM] at hres
      rw [if_neg (by omega)] at hres
      obtain ⟨q, rfl⟩ : ∃ q, m = q + 1 := ⟨m - 1, by omega⟩
      have s2 : ((q + 1 : Nat) : Int) - 1 = (q : Int) := by omega
      have s3 : ((q + 1 : Nat) : Int) - ((n + 1 : Nat) : Int) = ((q - n : Nat) : Int) := by omega
      have hrq := wds_get (l := L) (i := q) (by omega)
      have hrql := hLi.get (i := q) (by omega)
      have hns := fun s hs => next_short (r := L.take (q + 1)) (v := v) (s := s) hv1 (by omega) hs
      unfold nextM at hres hns
      rw [show v.length - 1 = n from by omega, hLd, hrl, show q + 1 - 1 = q from by omega] at hres hns
      have hgq : (L.take (q + 1)).getD q 0 = L.getD q 0 := by rw [List.getD_eq_getElem?_getD, List.getElem?_take_of_lt (by omega), ← List.getD_eq_getElem?_getD]
      rw [hgq] at hres hns
      clear hgq
      obtain ⟨last, hlast⟩ : ∃ x, L.getD q 0 = x := ⟨_, rfl⟩
      rw [hlast] at hres hns hrq hrql
      have hneg := I_opposite_pf h last hrql
      have hr0 : L.take (q + 1) = L.take (q + 1) := rfl
      obtain ⟨r, hr⟩ : ∃ r, L.take (q + 1) = r := ⟨_, rfl⟩
      rw [hr] at hres hns hrl
      by_cases hL0 : Ld < 0
      case' pos =>
        rw [if_pos hL0] at hres hns
        obtain ⟨lt, hlt⟩ : ∃ x, -last = x := ⟨_, rfl⟩
        have hltl : lt.natAbs < bW := by omega
        rw [hlt] at hres hns hneg
        clear hlt
        simp (disch := omega) only [seval, ↓SDX, isRes, slEl, bslParts, mmAll, mmR, SUX, List.replicate, List.append, pr, lr, er, binR, ev, putA, List.set, intOf, takeAg, cellsOf, wrAll, partsOk, ones, one, isOne, wok1, findPE, List.find?, nop, prlr, isPure, pickR, optInt, rets, rv, rvs, CN, NW, hn, s2, hrq, IntKind.bits]
        refine hneg.step ?_
        simp (disch := omega) only [seval, ↓SDX, isRes, slEl, bslParts, mmAll, mmR, SUX, List.replicate, List.append, pr, lr, er, binR, ev, putA, List.set, intOf, takeAg, cellsOf, wrAll, partsOk, ones, one, isOne, wok1, findPE, List.find?, nop, prlr, isPure, pickR, optInt, rets, rv, rvs, CN, NW, hn, s3, IntKind.bits]
      case' neg =>
        rw [if_neg hL0] at hres hns
        obtain ⟨lt, hlt⟩ : ∃ x, last = x := ⟨_, rfl⟩
        have hltl : lt.natAbs < bW := by omega
        rw [hlt] at hres hns hrq
        clear hneg
        simp (disch := omega) only [seval, ↓SDX, isRes, slEl, bslParts, mmAll, mmR, SUX, List.replicate, List.append, pr, lr, er, binR, ev, putA, List.set, intOf, takeAg, cellsOf, wrAll, partsOk, ones, one, isOne, wok1, findPE, List.find?, nop, prlr, isPure, pickR, optInt, rets, rv, rvs, CN, NW, hn, s2, s3, hrq, IntKind.bits]
      all_goals
        clear hlast hrql hLd hr0
        obtain ⟨sz, hsz⟩ : ∃ x, ((Ld.natAbs : Nat) : Int) = x := ⟨_, rfl⟩
        have hszl : sz.natAbs < bW := by omega
        rw [hsz] at hres hns ⊢
        obtain ⟨N, hN⟩ : ∃ N, rowM (stepM sz lt r v) (q + 1) = N := ⟨_, rfl⟩
        rw [hN] at hres hns
        refine loop_st (fun s : Nat × List Int × Bool => q + 1 - s.1) (fun s => ([.ptr 0 0, .junk, roW v, .junk, .junk, .junk, .junk, .sl 1 7 0 (q + 1) true, .ptr 2 0, .ptr 3 0, .ptr 4 0, .raw (.int .i64 (q - n : Nat)), .junk, .junk, .junk, .junk, .junk, .junk, .junk, .junk, .junk, .junk, .junk, .junk, .junk, .junk, .junk, .junk, .junk, .junk, .junk, .junk, .junk, .junk, .junk, .junk, .junk, .junk, .junk, .junk, .junk, .junk, .junk, .junk, .junk, .junk, .junk, .junk, .junk, .junk, .junk, .junk, .junk, .raw (.int .i64 (q + 1 : Nat)), .raw (.int .i64 (s.1 : Nat))] ++ List.replicate 37 .junk)) (fun s => [.c (oc s.2.2), .c (wds s.2.1), .c (wi Ld), .c (wi sz), .c (wi lt)])
          (fun s => s.1 ≤ q + 1 ∧ s.2.1.length = L.length ∧ inW s.2.1 ∧ rowJ (stepM sz lt r v) (q + 1) s.1 L s.2.1 s.2.2) (0, L, false) ⟨Nat.zero_le _, rfl, hLi, .inl ⟨rfl, rfl, rfl⟩⟩ (Wk.tmps (by simp only [fits, eq_self, and_self, Int.cast_ofNat_Int, Int.natCast_add, and_true, true_and, List.replicate, List.cons_append, List.nil_append])) ?_
        rintro ⟨k, L', o⟩ ⟨hk, hl', hi', hJ⟩
        dsimp only at hk hl' hi' hJ ⊢
        by_cases hk2 : k < q + 1
        · have hx := wds_get (l := L') (i := k) (by omega)
          have hxl := hi'.get (i := k) (by omega)
          by_cases h2 : q - n ≤ k
          · have s4 : (k : Int) - ((q - n : Nat) : Int) = ((k - (q - n) : Nat) : Int) := by omega
            have hy := wds_get (l := v) (i := k - (q - n)) (by omega)
            have hyl := hrv.get (i := k - (q - n)) (by omega)
            have hJ2 := hJ.next hk2 hm hl' hr.symm (y := v.getD (k - (q - n)) 0) (b := true) (fun _ => by rw [hn, Nat.add_sub_add_right]) (by rw [hn, Nat.add_sub_add_right]; simp [h2])
            generalize v.getD (k - (q - n)) 0 = y at *
            generalize L'.getD k 0 = x at *
            have hmul : Ow P F.I_calc_mul (oc o) [.agg (wi sz), .agg (wi x)] (.agg (wi (mulO sz x))) (oc (o || !decide ((sz * x).natAbs < bW))) := I_calc_mul_ow h o sz x hszl hxl
            obtain ⟨o1, ho1⟩ : ∃ b, (o || !decide ((sz * x).natAbs < bW)) = b := ⟨_, rfl⟩
            rw [ho1] at hmul
            have hmul2 : Ow P F.I_calc_mul (oc o1) [.agg (wi lt), .agg (wi y)] (.agg (wi (mulO lt y))) (oc (o1 || !decide ((lt * y).natAbs < bW))) := I_calc_mul_ow h o1 lt y hltl hyl
            obtain ⟨o2, ho2⟩ : ∃ b, (o1 || !decide ((lt * y).natAbs < bW)) = b := ⟨_, rfl⟩
            rw [ho2] at hmul2
            have hsub := I_calc_sub_ow h o2 (mulO sz x) (mulO lt y) (mulO_lt ..) (mulO_lt ..)
            obtain ⟨o3, ho3⟩ : ∃ b, (o2 || !decide ((mulO sz x - mulO lt y).natAbs < bW)) = b := ⟨_, rfl⟩
            rw [ho3] at hsub
            have hoe : (o || stO sz lt x y true) = o3 := by rw [← ho3, ← ho2, ← ho1]; simp [stO, Bool.or_assoc]
            rw [hoe, show stV sz lt x y true = cl (mulO sz x - mulO lt y) from rfl] at hJ2
            have hzl := cl_lt (mulO sz x - mulO lt y)
            generalize cl (mulO sz x - mulO lt y) = z at *
            generalize mulO lt y = m2 at *
            generalize mulO sz x = m1 at *
            have hL1l : (L'.set k m1).length = L.length := by rw [List.length_set]; exact hl'
            have hx1 := wds_get (l := L'.set k m1) (i := k) (by omega)
            rw [show (L'.set k m1).getD k 0 = m1 from by rw [List.getD_eq_getElem?_getD, List.getElem?_set_self (by omega)]; rfl] at hx1
            have hss : (L'.set k m1).set k z = L'.set k z := List.set_set ..
            have hl2 : (L'.set k z).length = L.length := by rw [List.length_set]; exact hl'
            have hi2 := hi'.set (k := k) hzl
            obtain ⟨L1, hL1⟩ : ∃ l, L'.set k m1 = l := ⟨_, rfl⟩
            rw [hL1] at hL1l hx1 hss
            clear hoe ho1 ho2 ho3 hJ hi' hres hns hN hr
            simp (disch := omega) only [seval, ↓SDX, isRes, slEl, bslParts, mmAll, mmR, SUX, List.replicate, List.append, pr, lr, er, binR, ev, putA, List.set, intOf, takeAg, cellsOf, wrAll, partsOk, ones, one, isOne, wok1, findPE, List.find?, nop, prlr, isPure, pickR, optInt, rets, rv, rvs, CN, NW, hn, hx, RW, hl', IntKind.bits]
            refine hmul.step0 rfl ?_
            simp (disch := omega) only [seval, ↓SDX, isRes, slEl, bslParts, mmAll, mmR, SUX, List.replicate, List.append, pr, lr, er, binR, ev, putA, List.set, intOf, takeAg, cellsOf, wrAll, partsOk, ones, one, isOne, wok1, findPE, List.find?, nop, prlr, isPure, pickR, optInt, rets, rv, rvs, CN, NW, hn, hx, RW, hl', hL1, hx1, hL1l, s4, hy, IntKind.bits]
            refine hmul2.step0 rfl ?_
            simp (disch := omega) only [seval, ↓SDX, isRes, slEl, bslParts, mmAll, mmR, SUX, List.replicate, List.append, pr, lr, er, binR, ev, putA, List.set, intOf, takeAg, cellsOf, wrAll, partsOk, ones, one, isOne, wok1, findPE, List.find?, nop, prlr, isPure, pickR, optInt, rets, rv, rvs, CN, NW, hn, hx1, RW, hL1l, s4, hy, IntKind.bits]
            refine hsub.step0 rfl ?_
            simp (disch := omega) only [seval, ↓SDX, isRes, slEl, bslParts, mmAll, mmR, SUX, List.replicate, List.append, pr, lr, er, binR, ev, putA, List.set, intOf, takeAg, cellsOf, wrAll, partsOk, ones, one, isOne, wok1, findPE, List.find?, nop, prlr, isPure, pickR, optInt, rets, rv, rvs, CN, NW, hn, hx1, RW, hL1l, hss, IntKind.bits]
            exact ⟨(k + 1, L'.set k z, o3), by dsimp only; omega, ⟨by dsimp only; omega, hl2, hi2, hJ2⟩, Wk.shed (n := 5) (by decide) (by simp only [fits, eq_self, and_self, Int.cast_ofNat_Int, Int.natCast_add, and_true, true_and, List.replicate, List.cons_append, List.nil_append]) (by simp only [cutL, cutAV, cutSg, CU, List.replicate, List.cons_append, List.nil_append, Nat.reduceLT, if_true, if_false, List.map_cons, List.map_nil, List.take_succ_cons, List.take_zero, cut_wds]) (by simp only [cutH, cutL, cutAV, cutSg, CU, List.replicate, List.cons_append, List.nil_append, Nat.reduceLT, if_true, if_false, List.map_cons, List.map_nil, List.take_succ_cons, List.take_zero, cut_wds])⟩
          · have hJ2 := hJ.next hk2 hm hl' hr.symm (y := 0) (b := false) (fun e => by cases e) (by rw [hn, Nat.add_sub_add_right]; simp; omega)
            generalize L'.getD k 0 = x at *
            have hmul : Ow P F.I_calc_mul (oc o) [.agg (wi sz), .agg (wi x)] (.agg (wi (mulO sz x))) (oc (o || !decide ((sz * x).natAbs < bW))) := I_calc_mul_ow h o sz x hszl hxl
            obtain ⟨o1, ho1⟩ : ∃ b, (o || !decide ((sz * x).natAbs < bW)) = b := ⟨_, rfl⟩
            rw [ho1] at hmul
            have hoe : (o || stO sz lt x 0 false) = o1 := by rw [← ho1]; simp [stO]
            rw [hoe, show stV sz lt x 0 false = mulO sz x from rfl] at hJ2
            have hzl := mulO_lt sz x
            generalize mulO sz x = m1 at *
            have hl2 : (L'.set k m1).length = L.length := by rw [List.length_set]; exact hl'
            have hi2 := hi'.set (k := k) hzl
            clear hoe ho1 hJ hi' hres hns hN hr
            simp (disch := omega) only [seval, ↓SDX, isRes, slEl, bslParts, mmAll, mmR, SUX, List.replicate, List.append, pr, lr, er, binR, ev, putA, List.set, intOf, takeAg, cellsOf, wrAll, partsOk, ones, one, isOne, wok1, findPE, List.find?, nop, prlr, isPure, pickR, optInt, rets, rv, rvs, CN, NW, hn, hx, RW, hl', IntKind.bits]
            refine hmul.step0 rfl ?_
            simp (disch := omega) only [seval, ↓SDX, isRes, slEl, bslParts, mmAll, mmR, SUX, List.replicate, List.append, pr, lr, er, binR, ev, putA, List.set, intOf, takeAg, cellsOf, wrAll, partsOk, ones, one, isOne, wok1, findPE, List.find?, nop, prlr, isPure, pickR, optInt, rets, rv, rvs, CN, NW, hn, hx, RW, hl', IntKind.bits]
            exact ⟨(k + 1, L'.set k m1, o1), by dsimp only; omega, ⟨by dsimp only; omega, hl2, hi2, hJ2⟩, Wk.shed (n := 5) (by decide) (by simp only [fits, eq_self, and_self, Int.cast_ofNat_Int, Int.natCast_add, and_true, true_and, List.replicate, List.cons_append, List.nil_append]) (by simp only [cutL, cutAV, cutSg, CU, List.replicate, List.cons_append, List.nil_append, Nat.reduceLT, if_true, if_false, List.map_cons, List.map_nil, List.take_succ_cons, List.take_zero, cut_wds]) (by simp only [cutH, cutL, cutAV, cutSg, CU, List.replicate, List.cons_append, List.nil_append, Nat.reduceLT, if_true, if_false, List.map_cons, List.map_nil, List.take_succ_cons, List.take_zero, cut_wds])⟩
        · have hk3 : k = q + 1 := by omega
          subst hk3
          have hsl := shortN_le L' (q + 1)
          have key : ∃ f2, shortN L' (q + 1) < f2 ∧ (if o then 0 else f2) < f + 1 ∧ ((o = false ∧ restM v f2 (L'.take (shortN L' (q + 1))) = RES) ∨ (o = true ∧ RES = none)) := by
            rcases hJ with ⟨rfl, h1, h2⟩ | ⟨rfl, h1⟩
            · rw [hN] at h1
              subst h1
              have h3 := hns _ rfl
              dsimp only at hres
              rw [short_take (by omega)] at h3 hres
              rw [List.length_take] at h3
              exact ⟨f, by omega, by simp, .inl ⟨rfl, hres⟩⟩
            · rw [hN] at h1
              subst h1
              exact ⟨shortN L' (q + 1) + 1, by omega, by simp, .inr ⟨rfl, hres.symm⟩⟩
          obtain ⟨f2, hf2, hmu, hres2⟩ := key
          have htr := I_trimmed_ct h L' (q + 1) (by omega) (by omega) hi'
          generalize shortN L' (q + 1) = m2 at *
          clear hJ hres hns hN hr
          simp (disch := omega) only [seval, ↓SDX, isRes, slEl, bslParts, mmAll, mmR, SUX, List.replicate, List.append, pr, lr, er, binR, ev, putA, List.set, intOf, takeAg, cellsOf, wrAll, partsOk, ones, one, isOne, wok1, findPE, List.find?, nop, prlr, isPure, pickR, optInt, rets, rv, rvs, CN, NW, hn, IntKind.bits]
          refine callD_sl htr (by rfl) (noixL_wds _) ?_
          simp (disch := omega) only [seval, ↓SDX, isRes, slEl, bslParts, mmAll, mmR, SUX, List.replicate, List.append, pr, lr, er, binR, ev, putA, List.set, intOf, takeAg, cellsOf, wrAll, partsOk, ones, one, isOne, wok1, findPE, List.find?, nop, prlr, isPure, pickR, optInt, rets, rv, rvs, CN, NW, IntKind.bits]
          refine ⟨(f2, m2, L', o), ?_, ⟨hf2, by dsimp only; omega, by dsimp only; omega, hi', hres2⟩, Wk.shed (n := 4) (by decide) (by simp only [fits, eq_self, and_self, Int.cast_ofNat_Int, Int.natCast_add, and_true, true_and, List.replicate, List.cons_append, List.nil_append]) (by simp only [cutL, cutAV, cutSg, CU, List.replicate, List.cons_append, List.nil_append, Nat.reduceLT, if_true, if_false, List.map_cons, List.map_nil, List.take_succ_cons, List.take_zero, cut_wds]) (by simp only [cutH, cutL, cutAV, cutSg, CU, List.replicate, List.cons_append, List.nil_append, Nat.reduceLT, if_true, if_false, List.map_cons, List.map_nil, List.take_succ_cons, List.take_zero, cut_wds])⟩
          dsimp only
          simpa using hmu
    · clear hLi hrv
      simp (disch := omega) only [seval, ↓SDX, isRes, slEl, bslParts, mmAll, mmR, SUX, List.replicate, List.append, pr, lr, er, binR, ev, putA, List.set, intOf, takeAg, cellsOf, wrAll, partsOk, ones, one, isOne, wok1, findPE, List.find?, nop, prlr, isPure, pickR, optInt, rets, rv, rvs, CN, NW, hn, IntKind.bits]
      exact ⟨(L, m, true), ⟨hm, .inr ⟨rfl, hres⟩⟩, Wk.shed (n := 2) (by decide) (by simp only [fits, eq_self, and_self, Int.cast_ofNat_Int, Int.natCast_add, and_true, true_and, List.replicate, List.cons_append, List.nil_append]) (by simp only [cutL, cutAV, cutSg, CU, List.replicate, List.cons_append, List.nil_append, Nat.reduceLT, if_true, if_false, List.map_cons, List.map_nil, List.take_succ_cons, List.take_zero, cut_wds]) (by simp only [cutH, cutL, cutAV, cutSg, CU, List.replicate, List.cons_append, List.nil_append, Nat.reduceLT, if_true, if_false, List.map_cons, List.map_nil, List.take_succ_cons, List.take_zero, cut_wds])⟩
  · rintro ⟨L, m, ov⟩ ⟨hm, hres⟩
    dsimp only at hm hres ⊢
    clear hRES hru hsl hrv
    have hlen : m * 7 ≤ (wds L).length := by rw [wds_length]; omega
    have hlt : (L.take m).length = m := by rw [List.length_take]; omega
    rcases hres with ⟨rfl, rfl⟩ | ⟨rfl, rfl⟩
    · simp (disch := omega) only [seval, ↓SDX, isRes, slEl, bslParts, mmAll, mmR, SUX, List.replicate, List.append, pr, lr, er, binR, ev, putA, List.set, intOf, takeAg, cellsOf, wrAll, partsOk, ones, one, isOne, wok1, findPE, List.find?, nop, prlr, isPure, pickR, optInt, rets, rv, rvs, OR, CN, NW, IntKind.bits]
      refine ⟨_, _, ⟨rfl, rfl⟩, WkV.frz (i := 1) rfl (noixL_wds _) ?_⟩
      refine WkV.eq1 ?_ trivial rfl ⟨trivial, trivial⟩
      simp only [frz, if_true, Nat.zero_add, hlen, List.drop_zero, wds_take]
      show AV.ro 7 m _ = .ro 7 (L.take m).length _
      rw [hlt]
    · simp (disch := omega) only [seval, ↓SDX, isRes, slEl, bslParts, mmAll, mmR, SUX, List.replicate, List.append, pr, lr, er, binR, ev, putA, List.set, intOf, takeAg, cellsOf, wrAll, partsOk, ones, one, isOne, wok1, findPE, List.find?, nop, prlr, isPure, pickR, optInt, rets, rv, rvs, OR, CN, NW, IntKind.bits]
      refine ⟨_, _, ⟨rfl, L.take m, rfl⟩, WkV.frz (i := 1) rfl (noixL_wds _) ?_⟩
      refine WkV.eq1 ?_ trivial rfl ⟨trivial, trivial⟩
      simp only [frz, if_true, Nat.zero_add, hlen, List.drop_zero, wds_take]
      show AV.ro 7 m _ = .ro 7 (L.take m).length _
      rw [hlt]
end
end Go.Proofs.Lite

namespace Go.Proofs.Lite
open Go
section
variable {P : Program} {F : FnsA} (h : IsA P F)
include h
set_option maxRecDepth 20000 in
theorem I_lighter_pf (l : List Int) (opp : Bool) (hl : l.length ≤ 1000) (hr : inW l) (hG : gcdL l 0 ≠ 0) : Pf P F.I_lighter [roW l, .raw (.bool opp)] (roW (lightM opp l)) := by
  refine pf_of h.I_lighter ⟨trivial, trivial, trivial⟩ trivial ?_
  obtain ⟨n, hn⟩ : ∃ n, l.length = n := ⟨_, rfl⟩
  have htl := lightM_length opp l
  have htg := fun k (hk : k < l.length) => light_get (opp := opp) hk hG
  have hGl := gcdL_lt hr (g := 0) (by decide)
  rw [hn] at hl htg
  simp (disch := omega) only [seval, ↓SDX, isRes, slEl, bslParts, mmAll, mmR, SUX, List.replicate, List.append, pr, lr, er, binR, ev, putA, List.set, intOf, takeAg, cellsOf, wrAll, partsOk, ones, one, isOne, wok1, findPE, List.find?, nop, prlr, isPure, pickR, optInt, rets, rv, rvs, I_lighter_c, CN, NW, hn, raws_mg0, IntKind.bits]
  refine loop_cut (fun _ : Unit => ([roW l, .raw (.bool opp), .junk, .junk, .junk, .ptr 0 0] ++ List.replicate 47 .junk)) (fun _ => [.c (mg (gcdL l 0))]) (fun _ => True) ?_ ?_
  · refine loop_st (fun k : Nat => n - k) (fun k => ([roW l, .raw (.bool opp), .junk, .junk, .junk, .ptr 0 0, .junk, .junk, .junk, .junk, .junk, .junk, .junk, .junk, roW l, .raw (.int .i64 (n : Nat)), .raw (.int .i64 (k : Nat))] ++ List.replicate 36 .junk)) (fun k => [.c (mg (gcdL (l.take k) 0))]) (fun k => k ≤ n) 0 (Nat.zero_le _) (Wk.tmps (by simp only [fits, eq_self, and_self, Int.cast_ofNat_Int, Int.natCast_add, and_true, true_and, List.replicate, List.cons_append, List.nil_append])) ?_
    intro k hk
    by_cases hk2 : k < n
    · have hx := wds_get (l := l) (i := k) (by omega)
      have hxl := hr.get (i := k) (by omega)
      have hgl := gcdL_lt (hr.take k) (g := 0) (by decide)
      have hgt := gcdL_take (l := l) (k := k) (g := 0) (by omega)
      generalize l.getD k 0 = x at *
      have hc := I_commonSize_pf h (gcdL (l.take k) 0) x.natAbs hgl hxl
      rw [← hgt] at hc
      generalize gcdL (l.take k) 0 = g at *
      clear hr htg hgl
      simp (disch := omega) only [seval, ↓SDX, isRes, slEl, bslParts, mmAll, mmR, SUX, List.replicate, List.append, pr, lr, er, binR, ev, putA, List.set, intOf, takeAg, cellsOf, wrAll, partsOk, ones, one, isOne, wok1, findPE, List.find?, nop, prlr, isPure, pickR, optInt, rets, rv, rvs, CN, NW, hn, hx, IntKind.bits]
      refine hc.step ?_
      simp (disch := omega) only [seval, ↓SDX, isRes, slEl, bslParts, mmAll, mmR, SUX, List.replicate, List.append, pr, lr, er, binR, ev, putA, List.set, intOf, takeAg, cellsOf, wrAll, partsOk, ones, one, isOne, wok1, findPE, List.find?, nop, prlr, isPure, pickR, optInt, rets, rv, rvs, CN, NW, IntKind.bits]
      exact ⟨k + 1, by omega, by omega, Wk.shed (n := 1) (by decide) (by simp only [fits, eq_self, and_self, Int.cast_ofNat_Int, Int.natCast_add, and_true, true_and, List.replicate, List.cons_append, List.nil_append]) (by simp only [cutL, cutAV, cutSg, CU, List.replicate, List.cons_append, List.nil_append, Nat.reduceLT, if_true, if_false, List.map_cons, List.map_nil, List.take_succ_cons, List.take_zero]) (by simp only [cutH, cutL, cutAV, cutSg, CU, List.replicate, List.cons_append, List.nil_append, Nat.reduceLT, if_true, if_false, List.map_cons, List.map_nil, List.take_succ_cons, List.take_zero])⟩
    · have hk3 : k = n := by omega
      subst hk3
      rw [List.take_of_length_le (by omega)]
      clear hr htg
      simp (disch := omega) only [seval, ↓SDX, isRes, slEl, bslParts, mmAll, mmR, SUX, List.replicate, List.append, pr, lr, er, binR, ev, putA, List.set, intOf, takeAg, cellsOf, wrAll, partsOk, ones, one, isOne, wok1, findPE, List.find?, nop, prlr, isPure, pickR, optInt, rets, rv, rvs, CN, NW, IntKind.bits]
      exact ⟨(), Wk.tmps (by simp only [fits, eq_self, and_self, Int.cast_ofNat_Int, Int.natCast_add, and_true, true_and, List.replicate, List.cons_append, List.nil_append])⟩
  rintro - -
  generalize gcdL l 0 = G at *
  generalize lightM opp l = t at *
  simp (disch := omega) only [seval, ↓SDX, isRes, slEl, bslParts, mmAll, mmR, SUX, List.replicate, List.append, pr, lr, er, binR, ev, putA, List.set, intOf, takeAg, cellsOf, wrAll, partsOk, ones, one, isOne, wok1, findPE, List.find?, nop, prlr, isPure, pickR, optInt, rets, rv, rvs, CN, NW, hn, RW, IntKind.bits]
  refine loop_st (fun s : Nat × List Int => n - s.1) (fun s => ([.junk, .raw (.bool opp), .junk, .junk, .junk, .ptr 0 0, .junk, .junk, .sl 1 7 0 n true, .junk, .junk, .junk, .junk, .junk, .junk, .junk, .junk, .junk, .junk, .junk, .junk, .junk, .junk, .junk, .junk, .junk, .junk, .junk, roW l, .raw (.int .i64 (n : Nat)), .raw (.int .i64 (s.1 : Nat))] ++ List.replicate 22 .junk)) (fun s => [.c (mg G), .c (wds s.2)])
    (fun s => s.1 ≤ n ∧ s.2.length = n ∧ s.2.take s.1 = t.take s.1) (0, List.replicate n 0) ⟨Nat.zero_le _, by simp, rfl⟩ (Wk.tmps (by simp only [fits, eq_self, and_self, Int.cast_ofNat_Int, Int.natCast_add, and_true, true_and, List.replicate, List.cons_append, List.nil_append])) ?_
  rintro ⟨k, s⟩ ⟨hk, hs, ht⟩
  dsimp only at hk hs ht ⊢
  by_cases hk2 : k < n
  · have hx := wds_get (l := l) (i := k) (by omega)
    have hxl := hr.get (i := k) (by omega)
    have hst := set_take (k := k) (by omega) (by omega) ht (htg k hk2).symm
    generalize l.getD k 0 = x at *
    have hb := I_size_by_pf h x.natAbs G hxl (by omega) hGl
    have hql : x.natAbs / G < bW := Nat.lt_of_le_of_lt (Nat.div_le_self _ _) hxl
    have hwi := I_wide_pf h (!(decide (x < 0) == opp)) (x.natAbs / G)
    rw [made_wi _ _ hql] at hwi
    rw [show (decide (x < 0) != opp) = !(decide (x < 0) == opp) from rfl] at hst
    generalize x.natAbs % G = rm at *
    generalize x.natAbs / G = q at *
    obtain ⟨z, hz⟩ : ∃ z, (if (!(decide (x < 0) == opp)) = true then -((q : Nat) : Int) else ((q : Nat) : Int)) = z := ⟨_, rfl⟩
    rw [hz] at hwi hst
    have hsl : (s.set k z).length = n := by rw [List.length_set]; exact hs
    clear htg hr hz
    simp (disch := omega) only [seval, ↓SDX, isRes, slEl, bslParts, mmAll, mmR, SUX, List.replicate, List.append, pr, lr, er, binR, ev, putA, List.set, intOf, takeAg, cellsOf, wrAll, partsOk, ones, one, isOne, wok1, findPE, List.find?, nop, prlr, isPure, pickR, optInt, rets, rv, rvs, CN, NW, hn, hx, IntKind.bits]
    refine hb.step ?_
    simp (disch := omega) only [seval, ↓SDX, isRes, slEl, bslParts, mmAll, mmR, SUX, List.replicate, List.append, pr, lr, er, binR, ev, putA, List.set, intOf, takeAg, cellsOf, wrAll, partsOk, ones, one, isOne, wok1, findPE, List.find?, nop, prlr, isPure, pickR, optInt, rets, rv, rvs, CN, NW, IntKind.bits]
    refine hwi.step ?_
    simp (disch := omega) only [seval, ↓SDX, isRes, slEl, bslParts, mmAll, mmR, SUX, List.replicate, List.append, pr, lr, er, binR, ev, putA, List.set, intOf, takeAg, cellsOf, wrAll, partsOk, ones, one, isOne, wok1, findPE, List.find?, nop, prlr, isPure, pickR, optInt, rets, rv, rvs, CN, NW, RW, hs, IntKind.bits]
    exact ⟨(k + 1, s.set k z), by dsimp only; omega, ⟨by dsimp only; omega, hsl, hst⟩, Wk.shed (n := 2) (by decide) (by simp only [fits, eq_self, and_self, Int.cast_ofNat_Int, Int.natCast_add, and_true, true_and, List.replicate, List.cons_append, List.nil_append]) (by simp only [cutL, cutAV, cutSg, CU, List.replicate, List.cons_append, List.nil_append, Nat.reduceLT, if_true, if_false, List.map_cons, List.map_nil, List.take_succ_cons, List.take_zero, cut_wds]) (by simp only [cutH, cutL, cutAV, cutSg, CU, List.replicate, List.cons_append, List.nil_append, Nat.reduceLT, if_true, if_false, List.map_cons, List.map_nil, List.take_succ_cons, List.take_zero, cut_wds])⟩
  · have hk3 : k = n := by omega
    subst hk3
    rw [List.take_of_length_le (by omega), List.take_of_length_le (by omega)] at ht
    subst ht
    clear htg hr
    simp (disch := omega) only [seval, ↓SDX, isRes, slEl, bslParts, mmAll, mmR, SUX, List.replicate, List.append, pr, lr, er, binR, ev, putA, List.set, intOf, takeAg, cellsOf, wrAll, partsOk, ones, one, isOne, wok1, findPE, List.find?, nop, prlr, isPure, pickR, optInt, rets, rv, rvs, CN, NW, IntKind.bits]
    refine WkV.frz (i := 1) rfl (noixL_wds _) (WkV.eq ?_ trivial)
    simp [frz, wds_length, List.take_of_length_le, hs]
end
end Go.Proofs.Lite

namespace Go.Proofs.Lite
open Go
def chainR (o : Option (List (List Int))) (v' : AV) (c' : List AV) : Prop :=
  match o with
  | none => c' = oc true ∧ ∃ l, v' = roC l ∧ chainOk l
  | some r => c' = oc false ∧ v' = roC r
theorem chainR_ok {o : Option (List (List Int))} : ∀ v' c', chainR o v' c' → noix v' ∧ noixL c' ∧ c'.length = (oc false).length := by
  intro v' c' h
  unfold chainR at h
  split at h
  · obtain ⟨rfl, l, rfl, -⟩ := h; exact ⟨trivial, ⟨trivial, trivial⟩, rfl⟩
  · obtain ⟨rfl, rfl⟩ := h; exact ⟨trivial, ⟨trivial, trivial⟩, rfl⟩
section
variable {P : Program} {F : FnsA} (h : IsA P F)
include h
set_option maxRecDepth 20000 in
theorem I_calc_chain_or (u v : List Int) (opp : Bool) (hu1 : 1 ≤ u.length) (hu : u.length ≤ 1000) (hv : v.length ≤ 1000) (hv1 : 1 ≤ v.length) (hru : inW u) (hrv : inW v) : OwR P F.I_calc_chain (oc false) [roW u, roW v, .raw (.bool opp)] (chainR (chainM opp (v.length + 1) [u, v] u v)) := by
  refine owR_of h.I_calc_chain ⟨trivial, trivial, trivial, trivial⟩ ⟨trivial, trivial⟩ chainR_ok ?_
  have hok0 : chainOk [u, v] := ⟨by simp, by simp, fun x hx => by
    simp only [List.mem_cons, List.not_mem_nil, or_false] at hx
    rcases hx with rfl | rfl
    · exact ⟨hu1, hu, hru⟩
    · exact ⟨hv1, hv, hrv⟩⟩
  obtain ⟨RES, hRES⟩ : ∃ R, chainM opp (v.length + 1) [u, v] u v = R := ⟨_, rfl⟩
  rw [hRES]
  have hw2 : wr (wr (raws [Value.slice none 0 0, Value.slice none 0 0]) 0 [roW u]) 1 [roW v] = rws [u, v] := rfl
  simp (disch := omega) only [seval, ↓SDX, isRes, slEl, bslParts, mmAll, mmR, SUX, List.replicate, List.append, pr, lr, er, binR, ev, putA, List.set, intOf, takeAg, cellsOf, wrAll, partsOk, ones, one, isOne, wok1, findPE, List.find?, nop, prlr, isPure, pickR, optInt, rets, rv, rvs, I_calc_chain_c, CN, NW, hw2, IntKind.bits]
  refine loop_cut (fun s : List (List Int) × Bool => ([.junk, .junk, .junk, .junk, .junk, .junk, .junk, .junk, .junk, .sl 1 1 0 s.1.length true] ++ List.replicate 31 .junk)) (fun s => [.c (oc s.2), .c (rws s.1)])
    (fun s => chainOk s.1 ∧ ((s.2 = false ∧ RES = some s.1) ∨ (s.2 = true ∧ RES = none))) ?_ ?_
  · refine loop_st (fun s : Nat × List (List Int) × List Int × List Int × Bool => if s.2.2.2.2 then 0 else s.1) (fun s => ([.ptr 0 0, roW s.2.2.1, roW s.2.2.2.1, .raw (.bool opp), .junk, .junk, .junk, .junk, .junk, .sl 1 1 0 s.2.1.length true] ++ List.replicate 31 .junk)) (fun s => [.c (oc s.2.2.2.2), .c (rws s.2.1)])
      (fun s => chainOk s.2.1 ∧ s.2.2.2.1.length < s.1 ∧ 2 ≤ s.2.1.length ∧ s.2.1.length + s.2.2.2.1.length ≤ 1002 ∧ 1 ≤ s.2.2.1.length ∧ s.2.2.1.length ≤ 1000 ∧ 1 ≤ s.2.2.2.1.length ∧ inW s.2.2.1 ∧ inW s.2.2.2.1 ∧ ((s.2.2.2.2 = false ∧ chainM opp s.1 s.2.1 s.2.2.1 s.2.2.2.1 = RES) ∨ (s.2.2.2.2 = true ∧ RES = none)))
      (v.length + 1, [u, v], u, v, false) ⟨hok0, by dsimp only; omega, by simp, by simp; omega, hu1, hu, hv1, hru, hrv, .inl ⟨rfl, hRES⟩⟩ ?_ ?_
    · dsimp only
      simp only [List.length_cons, List.length_nil, Nat.zero_add, Nat.reduceAdd]
      exact Wk.tmps (by simp only [fits, eq_self, and_self, Int.cast_ofNat_Int, Int.natCast_add, and_true, true_and, List.replicate, List.cons_append, List.nil_append])
    rintro ⟨f, acc, a, b, ov⟩ ⟨hok, hf, hl2, hlb, ha1, hal, hb1, hra, hrb, hres⟩
    dsimp only at hok hf hl2 hlb ha1 hal hb1 hra hrb hres ⊢
    clear hRES hru hrv hu hu1 hv hv1 hw2 hok0
    obtain ⟨f, rfl⟩ : ∃ f', f = f' + 1 := ⟨f - 1, by omega⟩
    rcases hres with ⟨rfl, hres⟩ | ⟨rfl, hres⟩
    · have hrest := I_calc_rest_or h a b ha1 hal (by omega) hb1 hra hrb
      simp only [chainM] at hres
      have hprops := fun r hr => rest_props (v := b) hb1 (f := a.length + 1) (r := short a) (s := r) (by have := short_le a; omega) hra.short (short_nz a) hr
      obtain ⟨R, hR⟩ : ∃ R, restM b (a.length + 1) (short a) = R := ⟨_, rfl⟩
      rw [hR] at hrest hres hprops
      clear hra hR
      simp (disch := omega) only [seval, ↓SDX, isRes, slEl, bslParts, mmAll, mmR, SUX, List.replicate, List.append, pr, lr, er, binR, ev, putA, List.set, intOf, takeAg, cellsOf, wrAll, partsOk, ones, one, isOne, wok1, findPE, List.find?, nop, prlr, isPure, pickR, optInt, rets, rv, rvs, CN, NW, IntKind.bits]
      refine hrest.step0 rfl ?_
      intro v0 c0 hR
      cases R with
      | none =>
        dsimp only at hres
        obtain ⟨rfl, l, rfl⟩ := hR
        simp (disch := omega) only [seval, ↓SDX, isRes, slEl, bslParts, mmAll, mmR, SUX, List.replicate, List.append, pr, lr, er, binR, ev, putA, List.set, intOf, takeAg, cellsOf, wrAll, partsOk, ones, one, isOne, wok1, findPE, List.find?, nop, prlr, isPure, pickR, optInt, rets, rv, rvs, CN, NW, IntKind.bits]
        exact ⟨(acc, true), ⟨hok, .inr ⟨rfl, hres.symm⟩⟩, Wk.tmps (by simp only [fits, eq_self, and_self, Int.cast_ofNat_Int, Int.natCast_add, and_true, true_and, List.replicate, List.cons_append, List.nil_append])⟩
      | some r =>
        obtain ⟨hrl, hri, hrz⟩ := hprops r rfl
        obtain ⟨rfl, rfl⟩ := hR
        dsimp only at hres
        clear hprops
        by_cases hr0 : r.length = 0
        · rw [if_pos hr0] at hres
          simp (disch := omega) only [seval, ↓SDX, isRes, slEl, bslParts, mmAll, mmR, SUX, List.replicate, List.append, pr, lr, er, binR, ev, putA, List.set, intOf, takeAg, cellsOf, wrAll, partsOk, ones, one, isOne, wok1, findPE, List.find?, nop, prlr, isPure, pickR, optInt, rets, rv, rvs, CN, NW, hr0, IntKind.bits]
          exact ⟨(acc, false), ⟨hok, .inl ⟨rfl, hres.symm⟩⟩, Wk.tmps (by simp only [fits, eq_self, and_self, Int.cast_ofNat_Int, Int.natCast_add, and_true, true_and, List.replicate, List.cons_append, List.nil_append])⟩
        · rw [if_neg hr0] at hres
          have hne : r ≠ [] := by intro e; rw [e] at hr0; exact hr0 rfl
          have hlight := I_lighter_pf h r opp (by omega) hri (gcdL_ne hrz hne)
          have hll := lightM_length opp r
          have hli : inW (lightM opp r) := by
            unfold lightM
            cases opp
            · exact hri.thin (gcdL_ne hrz hne)
            · exact hri.neg.thin (by rw [gcdL_neg]; exact gcdL_ne hrz hne)
          rw [show thinM (if opp = true then negM r else r) = lightM opp r from rfl] at hres
          generalize lightM opp r = t at *
          have hwd : rws acc ++ [roW t] = rws (acc ++ [t]) := by rw [rws_append]; rfl
          have hw1 : wr (raws [Value.slice none 0 0]) 0 [roW t] = [roW t] := rfl
          have hla : (acc ++ [t]).length = acc.length + 1 := by rw [List.length_append]; rfl
          have hok2 : chainOk (acc ++ [t]) := by
            obtain ⟨k1, k2, k3⟩ := hok
            refine ⟨by omega, by omega, fun x hx => ?_⟩
            rcases List.mem_append.1 hx with hx | hx
            · exact k3 x hx
            · rw [List.mem_singleton] at hx; subst hx; exact ⟨by omega, by omega, hli⟩
          clear hri hrz hne hok
          simp (disch := omega) only [seval, ↓SDX, isRes, slEl, bslParts, mmAll, mmR, SUX, List.replicate, List.append, pr, lr, er, binR, ev, putA, List.set, intOf, takeAg, cellsOf, wrAll, partsOk, ones, one, isOne, wok1, findPE, List.find?, nop, prlr, isPure, pickR, optInt, rets, rv, rvs, CN, NW, hr0, IntKind.bits]
          refine hlight.step ?_
          simp (disch := omega) only [seval, ↓SDX, isRes, slEl, bslParts, mmAll, mmR, SUX, List.replicate, List.append, pr, lr, er, binR, ev, putA, List.set, intOf, takeAg, cellsOf, wrAll, partsOk, ones, one, isOne, wok1, findPE, List.find?, nop, prlr, isPure, pickR, optInt, rets, rv, rvs, CN, NW, hw1, rws_length, hwd, IntKind.bits]
          refine ⟨(f, acc ++ [t], b, t, false), by simp, ⟨hok2, by dsimp only; omega, by dsimp only; omega, by dsimp only; omega, hb1, by dsimp only; omega, by dsimp only; omega, hrb, hli, .inl ⟨rfl, hres⟩⟩, ?_⟩
          dsimp only
          rw [hla]
          exact Wk.back (i := 1) (j := 3) (n := 2) (by decide) (by decide) (by decide) rfl rfl (by simp only [mvL, mvAV, cutL, cutAV, fits, DU, eq_self, and_self, and_true, true_and, Int.cast_ofNat_Int, Int.natCast_add, List.replicate, List.cons_append, List.nil_append, ↓reduceIte, Nat.reduceEqDiff, Nat.reduceLT, reduceCtorEq, if_true, if_false, List.map_cons, List.map_nil, List.take_succ_cons, List.take_zero, List.set, mv_rws, cut_rws, cutAV, mvAV]) (by simp only [cutH, mvH, mvSg, cutSg, mvL, cutL, DU, eq_self, and_self, and_true, true_and, Int.cast_ofNat_Int, Int.natCast_add, List.replicate, List.cons_append, List.nil_append, ↓reduceIte, Nat.reduceEqDiff, Nat.reduceLT, reduceCtorEq, if_true, if_false, List.map_cons, List.map_nil, List.take_succ_cons, List.take_zero, List.set, mv_rws, cut_rws, cutAV, mvAV])
    · clear hra hrb
      simp (disch := omega) only [seval, ↓SDX, isRes, slEl, bslParts, mmAll, mmR, SUX, List.replicate, List.append, pr, lr, er, binR, ev, putA, List.set, intOf, takeAg, cellsOf, wrAll, partsOk, ones, one, isOne, wok1, findPE, List.find?, nop, prlr, isPure, pickR, optInt, rets, rv, rvs, CN, NW, IntKind.bits]
      exact ⟨(acc, true), ⟨hok, .inr ⟨rfl, hres⟩⟩, Wk.shed (n := 2) (by decide) (by simp only [fits, eq_self, and_self, Int.cast_ofNat_Int, Int.natCast_add, and_true, true_and, List.replicate, List.cons_append, List.nil_append]) (by simp only [cutL, cutAV, cutSg, CU, List.replicate, List.cons_append, List.nil_append, Nat.reduceLT, if_true, if_false, List.map_cons, List.map_nil, List.take_succ_cons, List.take_zero, cut_rws]) (by simp only [cutH, cutL, cutAV, cutSg, CU, List.replicate, List.cons_append, List.nil_append, Nat.reduceLT, if_true, if_false, List.map_cons, List.map_nil, List.take_succ_cons, List.take_zero, cut_rws])⟩
  · rintro ⟨acc, ov⟩ ⟨hok, hres⟩
    dsimp only at hok hres ⊢
    clear hRES hru hrv hw2
    have hf : frz 1 (rws acc) (.sl 1 1 0 acc.length true) = roC acc := by simp [frz, rws, List.take_of_length_le]
    rcases hres with ⟨rfl, rfl⟩ | ⟨rfl, rfl⟩
    · simp (disch := omega) only [seval, ↓SDX, isRes, slEl, bslParts, mmAll, mmR, SUX, List.replicate, List.append, pr, lr, er, binR, ev, putA, List.set, intOf, takeAg, cellsOf, wrAll, partsOk, ones, one, isOne, wok1, findPE, List.find?, nop, prlr, isPure, pickR, optInt, rets, rv, rvs, OR, CN, NW, IntKind.bits]
      exact ⟨_, _, ⟨rfl, rfl⟩, WkV.frz (i := 1) rfl (noixL_rws _) (WkV.eq1 hf trivial rfl ⟨trivial, trivial⟩)⟩
    · simp (disch := omega) only [seval, ↓SDX, isRes, slEl, bslParts, mmAll, mmR, SUX, List.replicate, List.append, pr, lr, er, binR, ev, putA, List.set, intOf, takeAg, cellsOf, wrAll, partsOk, ones, one, isOne, wok1, findPE, List.find?, nop, prlr, isPure, pickR, optInt, rets, rv, rvs, OR, CN, NW, IntKind.bits]
      exact ⟨_, _, ⟨rfl, acc, rfl, hok⟩, WkV.frz (i := 1) rfl (noixL_rws _) (WkV.eq1 hf trivial rfl ⟨trivial, trivial⟩)⟩
set_option maxRecDepth 20000 in
theorem I_calc_chainOf_or (p : List Int) (hp : polyOk p = true) : OwR P F.I_calc_chainOf (oc false) [roI p] (chainR (sturmM p)) := by
  refine owR_of h.I_calc_chainOf ⟨trivial, trivial⟩ ⟨trivial, trivial⟩ chainR_ok ?_
  obtain ⟨h1, h2, h3, h4⟩ := polyOk_facts hp
  have h5 := slopeM_in hp
  have hB := bW_big
  have hl := slopeM_length p
  have hw := I_widen_pf h p (by omega) (fun x hx => by have := h4 x hx; omega)
  have hs := I_slope_pf h p (by omega) (by omega) h4
  have hw2 := I_widen_pf h (slopeM p) (by omega) (fun x hx => by have := h5 x hx; omega)
  have hc := I_calc_chain_or h p (slopeM p) true (by omega) (by omega) (by omega) (by omega) (fun x hx => by have := h4 x hx; omega) (fun x hx => by have := h5 x hx; omega)
  unfold sturmM
  generalize chainM true ((slopeM p).length + 1) [p, slopeM p] p (slopeM p) = R at *
  generalize slopeM p = s at *
  clear h1 h2 h3 h4 h5 hl hp hB
  simp (disch := omega) only [seval, ↓SDX, isRes, slEl, bslParts, mmAll, mmR, SUX, List.replicate, List.append, pr, lr, er, binR, ev, putA, List.set, intOf, takeAg, cellsOf, wrAll, partsOk, ones, one, isOne, wok1, findPE, List.find?, nop, prlr, isPure, pickR, optInt, rets, rv, rvs, I_calc_chainOf_c, IntKind.bits]
  refine hw.step ?_
  simp (disch := omega) only [seval, ↓SDX, isRes, slEl, bslParts, mmAll, mmR, SUX, List.replicate, List.append, pr, lr, er, binR, ev, putA, List.set, intOf, takeAg, cellsOf, wrAll, partsOk, ones, one, isOne, wok1, findPE, List.find?, nop, prlr, isPure, pickR, optInt, rets, rv, rvs, IntKind.bits]
  refine hs.step ?_
  simp (disch := omega) only [seval, ↓SDX, isRes, slEl, bslParts, mmAll, mmR, SUX, List.replicate, List.append, pr, lr, er, binR, ev, putA, List.set, intOf, takeAg, cellsOf, wrAll, partsOk, ones, one, isOne, wok1, findPE, List.find?, nop, prlr, isPure, pickR, optInt, rets, rv, rvs, IntKind.bits]
  refine hw2.step ?_
  simp (disch := omega) only [seval, ↓SDX, isRes, slEl, bslParts, mmAll, mmR, SUX, List.replicate, List.append, pr, lr, er, binR, ev, putA, List.set, intOf, takeAg, cellsOf, wrAll, partsOk, ones, one, isOne, wok1, findPE, List.find?, nop, prlr, isPure, pickR, optInt, rets, rv, rvs, IntKind.bits]
  refine hc.step0 rfl ?_
  intro v0 c0 hR
  obtain ⟨k1, k2, k3⟩ := chainR_ok _ _ hR
  simp (disch := omega) only [seval, ↓SDX, isRes, slEl, bslParts, mmAll, mmR, SUX, List.replicate, List.append, pr, lr, er, binR, ev, putA, List.set, intOf, takeAg, cellsOf, wrAll, partsOk, ones, one, isOne, wok1, findPE, List.find?, nop, prlr, isPure, pickR, optInt, rets, rv, rvs, OR, IntKind.bits]
  exact ⟨v0, c0, hR, WkV.eq1 rfl k1 rfl k2⟩
end
end Go.Proofs.Lite

namespace Go.Proofs.Lite
open Go
/-- The program goes on where a number is too large, and marks it. -/
def Agr {α : Type} (ov o' : Bool) (o : Option α) (x : α) : Prop := (o' = false ∧ ov = false ∧ o = some x) ∨ (o' = true ∧ (ov = true ∨ o = none))
def vlR (ov : Bool) (o : Option Int) (v' : AV) (c' : List AV) : Prop := ∃ x o', v' = .agg (wi x) ∧ x.natAbs < bW ∧ c' = oc o' ∧ Agr ov o' o x
theorem vlR_ok {ov : Bool} {o : Option Int} : ∀ v' c', vlR ov o v' c' → noix v' ∧ noixL c' ∧ c'.length = (oc ov).length := by
  rintro v' c' ⟨x, o', rfl, -, rfl, -⟩
  exact ⟨noix_wi _, ⟨trivial, trivial⟩, rfl⟩
def upO (c : Int) (w : Nat) : Int := if w ≤ 191 ∧ c.natAbs * 2 ^ w < bW then c * 2 ^ w else 0
theorem upO_lt (c : Int) (w : Nat) : (upO c w).natAbs < bW := by
  unfold upO; split
  · rename_i k; rw [Int.natAbs_mul, Int.natAbs_pow]; exact k.2
  · decide
theorem hv_next {a : Int} {pl e : Nat} {s c : Int} {r : List Int} {RES : Option Int} (h : hv a pl e s (c :: r) = RES) :
    ((!decide ((s * a).natAbs < bW) || (!decide (pl * e ≤ 191 ∧ c.natAbs * 2 ^ (pl * e) < bW) || !decide ((mulO s a + upO c (pl * e)).natAbs < bW))) = false ∧ hv a pl (e + 1) (cl (mulO s a + upO c (pl * e))) r = RES) ∨
    ((!decide ((s * a).natAbs < bW) || (!decide (pl * e ≤ 191 ∧ c.natAbs * 2 ^ (pl * e) < bW) || !decide ((mulO s a + upO c (pl * e)).natAbs < bW))) = true ∧ RES = none) := by
  simp only [hv] at h
  by_cases h1 : (s * a).natAbs < bW
  · rw [if_pos h1] at h
    rw [show mulO s a = s * a from if_pos h1]
    by_cases h2 : pl * e ≤ 191 ∧ c.natAbs * 2 ^ (pl * e) < bW
    · rw [if_pos h2] at h
      rw [show upO c (pl * e) = c * 2 ^ (pl * e) from if_pos h2]
      by_cases h3 : (s * a + c * 2 ^ (pl * e)).natAbs < bW
      · rw [if_pos h3] at h
        left
        rw [cl_eq h3]
        exact ⟨by simp [h1, h2, h3], h⟩
      · rw [if_neg h3] at h
        right
        exact ⟨by simp [h3], h.symm⟩
    · rw [if_neg h2] at h
      right
      exact ⟨by rw [decide_eq_false h2]; simp, h.symm⟩
  · rw [if_neg h1] at h
    right
    exact ⟨by simp [h1], h.symm⟩
def newR (o : Except Int (List (List Int))) (v' : AV) (H' : Heap) : Prop :=
  match o with
  | .error e => v' = .tup [.raw (.pointer none), .raw (.int .i64 e)] ∧ H' = []
  | .ok ls => v' = .tup [.ptr 0 0, .raw (.int .i64 0)] ∧ H' = [.c [.raw (.bool false), roC ls]]
section
variable {P : Program} {F : FnsA} (h : IsA P F)
include h
set_option maxRecDepth 20000 in
theorem I_newSturm_ct (p : List Int) (hp : polyOk p = true) : Ct P F.I_newSturm [roI p] [] (newR (simpleM p)) := by
  refine fresh_of h.I_newSturm ?_
  have hc := I_calc_chainOf_or h p hp
  have hok := fun out ho => sturmM_ok hp (out := out) ho
  unfold simpleM
  obtain ⟨R, hR⟩ : ∃ R, sturmM p = R := ⟨_, rfl⟩
  rw [hR] at hc hok ⊢
  clear hR hp
  have hw1 : wr (raws [Value.bool false, Value.slice none 0 0]) 0 [] = [.raw (.bool false), .raw (.slice none 0 0)] := rfl
  have hw0 : raws [Value.bool false, Value.slice none 0 0] = [.raw (.bool false), .raw (.slice none 0 0)] := rfl
  have hw2 : ∀ b b' x, wr [.raw (.bool b), x] 0 (oc b') = [.raw (.bool b'), x] := fun _ _ _ => rfl
  have hw3 : ∀ b x y, wr [.raw (.bool b), x] 1 [y] = [.raw (.bool b), y] := fun _ _ _ => rfl
  simp (disch := omega) only [seval, ↓SDX, isRes, slEl, bslParts, mmAll, mmR, SUX, List.replicate, List.append, pr, lr, er, binR, ev, putA, List.set, intOf, takeAg, cellsOf, wrAll, partsOk, ones, one, isOne, wok1, findPE, List.find?, nop, prlr, isPure, pickR, optInt, rets, rv, rvs, I_newSturm_c, hw0, FR, IntKind.bits]
  refine hc.step (seg := [.raw (.bool false), .raw (.slice none 0 0)]) rfl (by decide) rfl ?_
  intro v0 c0 hR
  cases R with
  | none =>
    obtain ⟨rfl, l, rfl, -⟩ := hR
    clear hok
    simp (disch := omega) only [seval, ↓SDX, isRes, slEl, bslParts, mmAll, mmR, SUX, List.replicate, List.append, pr, lr, er, binR, ev, putA, List.set, intOf, takeAg, cellsOf, wrAll, partsOk, ones, one, isOne, wok1, findPE, List.find?, nop, prlr, isPure, pickR, optInt, rets, rv, rvs, hw2, hw3, FR, IntKind.bits]
    refine ⟨_, _, ⟨rfl, rfl⟩, ?_⟩
    exact Wk.cut (n := 0) (Nat.le_refl 0)
  | some ls =>
    obtain ⟨rfl, rfl⟩ := hR
    obtain ⟨k1, k2, k3⟩ := hok ls rfl
    obtain ⟨q, hq⟩ : ∃ q, ls.length = q + 1 := ⟨ls.length - 1, by omega⟩
    have s1 : ((q + 1 : Nat) : Int) - 1 = (q : Int) := by omega
    have g1 := rws_get (l := ls) (i := q) (by omega)
    have hm : ls.getD q [] ∈ ls := by rw [List.getD_eq_getElem?_getD, List.getElem?_eq_getElem (by omega)]; exact List.getElem_mem _
    have hml := (k3 _ hm).2.1
    have he : AV.ro 1 ls.length (List.map roW ls) = .ro 1 ls.length (rws ls) := rfl
    dsimp only
    rw [show ls.length - 1 = q from by omega]
    obtain ⟨l, hl⟩ : ∃ l, ls.getD q [] = l := ⟨_, rfl⟩
    rw [hl] at g1 hml ⊢
    clear hok k3 hm hl
    by_cases h1 : 1 < l.length
    · rw [if_pos h1]
      simp (disch := omega) only [seval, ↓SDX, isRes, slEl, bslParts, mmAll, mmR, SUX, List.replicate, List.append, pr, lr, er, binR, ev, putA, List.set, intOf, takeAg, cellsOf, wrAll, partsOk, ones, one, isOne, wok1, findPE, List.find?, nop, prlr, isPure, pickR, optInt, rets, rv, rvs, CN, hq, s1, g1, rws_length, hw2, hw3, FR, he, IntKind.bits]
      refine ⟨_, _, ⟨rfl, rfl⟩, ?_⟩
      exact Wk.cut (n := 0) (Nat.le_refl 0)
    · rw [if_neg h1]
      simp (disch := omega) only [seval, ↓SDX, isRes, slEl, bslParts, mmAll, mmR, SUX, List.replicate, List.append, pr, lr, er, binR, ev, putA, List.set, intOf, takeAg, cellsOf, wrAll, partsOk, ones, one, isOne, wok1, findPE, List.find?, nop, prlr, isPure, pickR, optInt, rets, rv, rvs, CN, hq, s1, g1, rws_length, hw2, hw3, FR, he, IntKind.bits]
      refine ⟨_, _, ⟨rfl, rfl⟩, ?_⟩
      rw [show roC ls = .ro 1 (q + 1) (rws ls) from by rw [← hq]; rfl]
      exact Wk.refl
set_option maxRecDepth 20000 in
theorem I_calc_valueAt_or (ov : Bool) (p : List Int) (a : Int) (pl : Nat) (hp0 : 1 ≤ p.length) (hp1 : p.length ≤ 1000) (hp : inW p) (ha : a.natAbs < bW) (hpl : pl ≤ 100) : OwR P F.I_calc_valueAt (oc ov) [roW p, .agg (wi a), .raw (.int .i64 (pl : Nat))] (vlR ov (valueM p a pl)) := by
  refine owR_of h.I_calc_valueAt ⟨trivial, noix_wi _, trivial, trivial⟩ ⟨trivial, trivial⟩ vlR_ok ?_
  obtain ⟨n, hn⟩ : ∃ n, p.length = n + 1 := ⟨p.length - 1, by omega⟩
  have s1 : ((n + 1 : Nat) : Int) - 1 = (n : Int) := by omega
  have hlast := wds_get (l := p) (i := n) (by omega)
  have hll := hp.get (i := n) (by omega)
  unfold valueM
  rw [show p.length - 1 = n from by omega]
  simp (disch := omega) only [seval, ↓SDX, isRes, slEl, bslParts, mmAll, mmR, SUX, List.replicate, List.append, pr, lr, er, binR, ev, putA, List.set, intOf, takeAg, cellsOf, wrAll, partsOk, ones, one, isOne, wok1, findPE, List.find?, nop, prlr, isPure, pickR, optInt, rets, rv, rvs, I_calc_valueAt_c, CN, NW, hn, s1, hlast, IntKind.bits]
  obtain ⟨L, hL⟩ : ∃ L, p.getD n 0 = L := ⟨_, rfl⟩
  obtain ⟨RES, hRES⟩ : ∃ R, hv a pl 1 L (p.take n).reverse = R := ⟨_, rfl⟩
  rw [hL] at hll ⊢
  rw [hRES]
  refine loop_st (fun s : Nat × Int × Bool => s.1) (fun s => ([.ptr 0 0, roW p, .junk, .raw (.int .i64 (pl : Nat)), .junk, .junk, .ptr 1 0, .junk, .ptr 2 0, .raw (.int .i64 (n : Nat)), .ptr 3 0, .raw (.int .i64 ((s.1 : Int) - 1))] ++ List.replicate 31 .junk)) (fun s => [.c (oc s.2.2), .c (wi a), .c (wd false 0), .c (wi s.2.1)])
    (fun s => s.1 ≤ n ∧ s.2.1.natAbs < bW ∧ ((s.2.2 = false ∧ ov = false ∧ hv a pl (n + 1 - s.1) s.2.1 (p.take s.1).reverse = RES) ∨ (s.2.2 = true ∧ (ov = true ∨ RES = none)))) (n, L, ov) ⟨Nat.le_refl _, hll, ?_⟩ ?_ ?_
  · dsimp only
    rw [show n + 1 - n = 1 from by omega]
    cases ov
    · exact .inl ⟨rfl, rfl, hRES⟩
    · exact .inr ⟨rfl, .inl rfl⟩
  · exact Wk.tmps (by simp only [fits, eq_self, and_self, Int.cast_ofNat_Int, Int.natCast_add, and_true, true_and, List.replicate, List.cons_append, List.nil_append])
  rintro ⟨k, s, o⟩ ⟨hk, hs, hres⟩
  dsimp only at hk hs hres ⊢
  clear hlast hL hRES hll
  by_cases hk0 : k = 0
  · subst hk0
    simp only [List.take_zero, List.reverse_nil, hv] at hres
    clear hp
    have ha : Agr ov o RES s := by
      rcases hres with ⟨h1, h2, h3⟩ | h1
      · exact .inl ⟨h1, h2, h3.symm⟩
      · exact .inr h1
    clear hres
    simp (disch := omega) only [seval, ↓SDX, isRes, slEl, bslParts, mmAll, mmR, SUX, List.replicate, List.append, pr, lr, er, binR, ev, putA, List.set, intOf, takeAg, cellsOf, wrAll, partsOk, ones, one, isOne, wok1, findPE, List.find?, nop, prlr, isPure, pickR, optInt, rets, rv, rvs, OR, IntKind.bits]
    exact ⟨_, _, ⟨s, o, rfl, hs, rfl, ha⟩, WkV.eq1 rfl (noix_wi _) rfl ⟨trivial, trivial⟩⟩
  obtain ⟨i, rfl⟩ : ∃ i, k = i + 1 := ⟨k - 1, by omega⟩
  rw [rev_take (by omega)] at hres
  have hki : ((i + 1 : Nat) : Int) - 1 = (i : Int) := by omega
  have hget := wds_get (l := p) (i := i) (by omega)
  have hcl := hp.get (i := i) (by omega)
  generalize p.getD i 0 = c at *
  obtain ⟨e, he⟩ : ∃ e, n + 1 - (i + 1) = e := ⟨_, rfl⟩
  rw [he] at hres
  have se : (n : Int) - (i : Int) = (e : Int) := by omega
  have hpe : pl * e ≤ 100 * 1000 := Nat.mul_le_mul hpl (by omega)
  have hnx := fun r RES h => hv_next (a := a) (pl := pl) (e := e) (s := s) (c := c) (r := r) (RES := RES) h
  obtain ⟨w, hw⟩ : ∃ w, pl * e = w := ⟨_, rfl⟩
  rw [hw] at hpe
  simp only [hw] at hnx
  have hmul : Ow P F.I_calc_mul (oc o) [.agg (wi s), .agg (wi a)] (.agg (wi (mulO s a))) (oc (o || !decide ((s * a).natAbs < bW))) := I_calc_mul_ow h o s a hs ha
  obtain ⟨o1, ho1⟩ : ∃ b, (o || !decide ((s * a).natAbs < bW)) = b := ⟨_, rfl⟩
  rw [ho1] at hmul
  have hup : Ow P F.I_calc_up (oc o1) [.agg (wi c), .raw (.int .i64 (w : Nat))] (.agg (wi (upO c w))) (oc (o1 || !decide (w ≤ 191 ∧ c.natAbs * 2 ^ w < bW))) := I_calc_up_ow h o1 c w hcl (by omega)
  obtain ⟨o2, ho2⟩ : ∃ b, (o1 || !decide (w ≤ 191 ∧ c.natAbs * 2 ^ w < bW)) = b := ⟨_, rfl⟩
  rw [ho2] at hup
  have hadd := I_calc_add_ow h o2 (mulO s a) (upO c w) (mulO_lt ..) (upO_lt ..)
  obtain ⟨o3, ho3⟩ : ∃ b, (o2 || !decide ((mulO s a + upO c w).natAbs < bW)) = b := ⟨_, rfl⟩
  rw [ho3] at hadd
  have hzl := cl_lt (mulO s a + upO c w)
  have hoe : (o || (!decide ((s * a).natAbs < bW) || (!decide (w ≤ 191 ∧ c.natAbs * 2 ^ w < bW) || !decide ((mulO s a + upO c w).natAbs < bW)))) = o3 := by rw [← ho3, ← ho2, ← ho1]; simp only [Bool.or_assoc]
  generalize (!decide ((s * a).natAbs < bW)) = b1 at *
  generalize (!decide (w ≤ 191 ∧ c.natAbs * 2 ^ w < bW)) = b2 at *
  generalize (!decide ((mulO s a + upO c w).natAbs < bW)) = b3 at *
  have hJ : (o3 = false ∧ ov = false ∧ hv a pl (n + 1 - i) (cl (mulO s a + upO c w)) (p.take i).reverse = RES) ∨ (o3 = true ∧ (ov = true ∨ RES = none)) := by
    rw [← hoe, show n + 1 - i = e + 1 from by omega]
    rcases hres with ⟨rfl, h2, h3⟩ | ⟨rfl, h1⟩
    · rw [Bool.false_or]
      rcases hnx _ _ h3 with ⟨h4, h5⟩ | ⟨h4, h5⟩
      · exact .inl ⟨h4, h2, h5⟩
      · exact .inr ⟨h4, .inr h5⟩
    · exact .inr ⟨by simp, h1⟩
  generalize cl (mulO s a + upO c w) = z at *
  generalize mulO s a = m1 at *
  generalize upO c w = m2 at *
  rw [hki]
  clear hnx hres hoe ho1 ho2 ho3 hp
  simp (disch := omega) only [seval, ↓SDX, isRes, slEl, bslParts, mmAll, mmR, SUX, List.replicate, List.append, pr, lr, er, binR, ev, putA, List.set, intOf, takeAg, cellsOf, wrAll, partsOk, ones, one, isOne, wok1, findPE, List.find?, nop, prlr, isPure, pickR, optInt, rets, rv, rvs, CN, NW, s1, se, hget, hw, IntKind.bits]
  refine hmul.step0 rfl ?_
  simp (disch := omega) only [seval, ↓SDX, isRes, slEl, bslParts, mmAll, mmR, SUX, List.replicate, List.append, pr, lr, er, binR, ev, putA, List.set, intOf, takeAg, cellsOf, wrAll, partsOk, ones, one, isOne, wok1, findPE, List.find?, nop, prlr, isPure, pickR, optInt, rets, rv, rvs, CN, NW, s1, se, hget, hw, IntKind.bits]
  refine hup.step0 rfl ?_
  simp (disch := omega) only [seval, ↓SDX, isRes, slEl, bslParts, mmAll, mmR, SUX, List.replicate, List.append, pr, lr, er, binR, ev, putA, List.set, intOf, takeAg, cellsOf, wrAll, partsOk, ones, one, isOne, wok1, findPE, List.find?, nop, prlr, isPure, pickR, optInt, rets, rv, rvs, CN, NW, s1, se, hget, hw, IntKind.bits]
  refine hadd.step0 rfl ?_
  simp (disch := omega) only [seval, ↓SDX, isRes, slEl, bslParts, mmAll, mmR, SUX, List.replicate, List.append, pr, lr, er, binR, ev, putA, List.set, intOf, takeAg, cellsOf, wrAll, partsOk, ones, one, isOne, wok1, findPE, List.find?, nop, prlr, isPure, pickR, optInt, rets, rv, rvs, CN, NW, s1, se, hget, hw, IntKind.bits]
  exact ⟨(i, z, o3), by dsimp only; omega, ⟨by dsimp only; omega, hzl, hJ⟩, Wk.shed (n := 4) (by decide) (by simp only [fits, eq_self, and_self, Int.cast_ofNat_Int, Int.natCast_add, and_true, true_and, List.replicate, List.cons_append, List.nil_append]) (by simp only [cutL, cutAV, cutSg, CU, List.replicate, List.cons_append, List.nil_append, Nat.reduceLT, if_true, if_false, List.map_cons, List.map_nil, List.take_succ_cons, List.take_zero]) (by simp only [cutH, cutL, cutAV, cutSg, CU, List.replicate, List.cons_append, List.nil_append, Nat.reduceLT, if_true, if_false, List.map_cons, List.map_nil, List.take_succ_cons, List.take_zero])⟩
end
end Go.Proofs.Lite

namespace Go.Proofs.Lite
open Go
/-- The cells of a sturm. -/
abbrev stc (b : Bool) (ls : List (List Int)) : List AV := [.raw (.bool b), roC ls]
def tuR (ov : Bool) (ls : List (List Int)) (o : Option Nat) (v' : AV) (c' : List AV) : Prop := ∃ n o', v' = .raw (.int .i64 (n : Nat)) ∧ n ≤ ls.length ∧ c' = stc o' ls ∧ Agr ov o' o n
theorem tuR_ok {ov : Bool} {ls : List (List Int)} {o : Option Nat} : ∀ v' c', tuR ov ls o v' c' → noix v' ∧ noixL c' ∧ c'.length = (stc ov ls).length := by
  rintro v' c' ⟨x, o', rfl, -, rfl, -⟩
  exact ⟨trivial, ⟨trivial, trivial, trivial⟩, rfl⟩
def coR (ov : Bool) (ls : List (List Int)) (o : Option Int) (v' : AV) (c' : List AV) : Prop := ∃ n o', v' = .raw (.int .i64 n) ∧ -2000 ≤ n ∧ n ≤ 2000 ∧ c' = stc o' ls ∧ Agr ov o' o n
theorem coR_ok {ov : Bool} {ls : List (List Int)} {o : Option Int} : ∀ v' c', coR ov ls o v' c' → noix v' ∧ noixL c' ∧ c'.length = (stc ov ls).length := by
  rintro v' c' ⟨x, o', rfl, -, -, rfl, -⟩
  exact ⟨trivial, ⟨trivial, trivial, trivial⟩, rfl⟩
theorem turns_next {a : Int} {pl c : Nat} {b x : Int} {p : List Int} {r : List (List Int)} {RES : Option Nat} {ov o o' : Bool} (h : (o = false ∧ ov = false ∧ turnsN a pl (p :: r) c b = RES) ∨ (o = true ∧ (ov = true ∨ RES = none))) (ha : Agr o o' (valueM p a pl) x) :
    (o' = false ∧ ov = false ∧ (if x.sign = 0 then turnsN a pl r c b else turnsN a pl r (if x.sign = -b then c + 1 else c) x.sign) = RES) ∨ (o' = true ∧ (ov = true ∨ RES = none)) := by
  simp only [turnsN] at h
  rcases ha with ⟨rfl, rfl, h1⟩ | ⟨rfl, h1⟩
  · rcases h with ⟨-, h2, h3⟩ | ⟨h2, -⟩
    · rw [h1] at h3; exact .inl ⟨rfl, h2, h3⟩
    · cases h2
  · right
    refine ⟨rfl, ?_⟩
    rcases h with ⟨rfl, h2, h3⟩ | ⟨-, h2⟩
    · rcases h1 with h1 | h1
      · cases h1
      · rw [h1] at h3; exact .inr h3.symm
    · exact h2
section
variable {P : Program} {F : FnsA} (h : IsA P F)
include h
set_option maxRecDepth 20000 in
theorem I_sturm_turns_or (ov : Bool) (ls : List (List Int)) (a : Int) (pl : Nat) (hok : chainOk ls) (ha : a.natAbs < bW) (hpl : pl ≤ 100) : OwR P F.I_sturm_turns (stc ov ls) [.agg (wi a), .raw (.int .i64 (pl : Nat))] (tuR ov ls (turnsN a pl ls 0 0)) := by
  refine owR_of h.I_sturm_turns ⟨noix_wi _, trivial, trivial⟩ ⟨trivial, trivial, trivial⟩ tuR_ok ?_
  obtain ⟨RES, hRES⟩ : ∃ R, turnsN a pl ls 0 0 = R := ⟨_, rfl⟩
  rw [hRES]
  obtain ⟨-, k2, k3⟩ := hok
  have hro : AV.ro 1 ls.length (List.map roW ls) = .ro 1 ls.length (rws ls) := rfl
  have hw2 : ∀ b b' x, wr [.raw (.bool b), x] 0 (oc b') = [.raw (.bool b'), x] := fun _ _ _ => rfl
  simp (disch := omega) only [seval, ↓SDX, isRes, slEl, bslParts, mmAll, mmR, SUX, List.replicate, List.append, pr, lr, er, binR, ev, putA, List.set, intOf, takeAg, cellsOf, wrAll, partsOk, ones, one, isOne, wok1, findPE, List.find?, nop, prlr, isPure, pickR, optInt, rets, rv, rvs, I_sturm_turns_c, CN, NW, hro, IntKind.bits]
  refine loop_st (fun s : Nat × Nat × Int × Bool => ls.length - s.1) (fun s => ([.ptr 0 0, .junk, .raw (.int .i64 (pl : Nat)), .junk, .ptr 1 0, .junk, .junk, .raw (.int .i64 (s.2.1 : Nat)), .raw (.int .i64 s.2.2.1), .junk, .junk, .junk, .junk, .junk, .junk, .ro 1 ls.length (rws ls), .raw (.int .i64 (ls.length : Nat)), .raw (.int .i64 (s.1 : Nat))] ++ List.replicate 22 .junk)) (fun s => [.c [.raw (.bool s.2.2.2), .ro 1 ls.length (rws ls)], .c (wi a)])
    (fun s => s.1 ≤ ls.length ∧ s.2.1 ≤ s.1 ∧ -1 ≤ s.2.2.1 ∧ s.2.2.1 ≤ 1 ∧ ((s.2.2.2 = false ∧ ov = false ∧ turnsN a pl (ls.drop s.1) s.2.1 s.2.2.1 = RES) ∨ (s.2.2.2 = true ∧ (ov = true ∨ RES = none)))) (0, 0, 0, ov) ⟨Nat.zero_le _, Nat.le_refl _, by dsimp only; omega, by dsimp only; omega, ?_⟩ (Wk.tmps (by simp only [fits, eq_self, and_self, Int.cast_ofNat_Int, Int.natCast_add, and_true, true_and, List.replicate, List.cons_append, List.nil_append])) ?_
  · dsimp only
    cases ov
    · exact .inl ⟨rfl, rfl, hRES⟩
    · exact .inr ⟨rfl, .inl rfl⟩
  rintro ⟨k, c, b, o⟩ ⟨hk, hc, hb1, hb2, hres⟩
  dsimp only at hk hc hb1 hb2 hres ⊢
  clear hRES
  by_cases hk2 : k < ls.length
  · have g1 := rws_get hk2
    have hm : ls.getD k [] ∈ ls := by rw [List.getD_eq_getElem?_getD, List.getElem?_eq_getElem hk2]; exact List.getElem_mem _
    obtain ⟨m1, m2, m3⟩ := k3 _ hm
    have hd : ls.drop k = ls.getD k [] :: ls.drop (k + 1) := by rw [List.getD_eq_getElem?_getD, List.getElem?_eq_getElem hk2]; simp
    rw [hd] at hres
    have hval := I_calc_valueAt_or h o (ls.getD k []) a pl m1 m2 m3 ha hpl
    have hnx := fun o' x hag => turns_next (o' := o') (x := x) hres hag
    generalize ls.getD k [] = p at *
    clear hres hd hm m3 k3
    simp (disch := omega) only [seval, ↓SDX, isRes, slEl, bslParts, mmAll, mmR, SUX, List.replicate, List.append, pr, lr, er, binR, ev, putA, List.set, intOf, takeAg, cellsOf, wrAll, partsOk, ones, one, isOne, wok1, findPE, List.find?, nop, prlr, isPure, pickR, optInt, rets, rv, rvs, CN, NW, g1, rws_length, IntKind.bits]
    refine hval.step (seg := [.raw (.bool o), .ro 1 ls.length (rws ls)]) rfl (by show 0 + 1 ≤ 2; decide) rfl ?_
    rintro v0 c0 ⟨x, o', rfl, hx, rfl, hag⟩
    have hres := hnx o' x hag
    clear hnx hag
    have hsg := I_sign_pf h x hx
    have hs3 : x.sign = -1 ∨ x.sign = 0 ∨ x.sign = 1 := by
      rcases Int.lt_trichotomy x 0 with e | e | e
      · exact .inl (Int.sign_eq_neg_one_of_neg e)
      · subst e; exact .inr (.inl rfl)
      · exact .inr (.inr (Int.sign_eq_one_of_pos e))
    generalize x.sign = sg at *
    simp (disch := omega) only [seval, ↓SDX, isRes, slEl, bslParts, mmAll, mmR, SUX, List.replicate, List.append, pr, lr, er, binR, ev, putA, List.set, intOf, takeAg, cellsOf, wrAll, partsOk, ones, one, isOne, wok1, findPE, List.find?, nop, prlr, isPure, pickR, optInt, rets, rv, rvs, CN, NW, hw2, IntKind.bits]
    refine hsg.step ?_
    by_cases h0 : sg = 0
    · rw [if_pos h0] at hres
      subst h0
      simp (disch := omega) only [seval, ↓SDX, isRes, slEl, bslParts, mmAll, mmR, SUX, List.replicate, List.append, pr, lr, er, binR, ev, putA, List.set, intOf, takeAg, cellsOf, wrAll, partsOk, ones, one, isOne, wok1, findPE, List.find?, nop, prlr, isPure, pickR, optInt, rets, rv, rvs, CN, NW, IntKind.bits]
      exact ⟨(k + 1, c, b, o'), by dsimp only; omega, ⟨by dsimp only; omega, by dsimp only; omega, hb1, hb2, hres⟩, Wk.shed (n := 2) (by decide) (by simp only [fits, eq_self, and_self, Int.cast_ofNat_Int, Int.natCast_add, and_true, true_and, List.replicate, List.cons_append, List.nil_append]) (by simp only [cutL, cutAV, cutSg, CU, List.replicate, List.cons_append, List.nil_append, Nat.reduceLT, if_true, if_false, List.map_cons, List.map_nil, List.take_succ_cons, List.take_zero, cutAV]) (by simp only [cutH, cutL, cutAV, cutSg, CU, List.replicate, List.cons_append, List.nil_append, Nat.reduceLT, if_true, if_false, List.map_cons, List.map_nil, List.take_succ_cons, List.take_zero, cutAV])⟩
    rw [if_neg h0] at hres
    by_cases h1 : sg = -b
    · rw [if_pos h1] at hres
      simp (disch := omega) only [seval, ↓SDX, isRes, slEl, bslParts, mmAll, mmR, SUX, List.replicate, List.append, pr, lr, er, binR, ev, putA, List.set, intOf, takeAg, cellsOf, wrAll, partsOk, ones, one, isOne, wok1, findPE, List.find?, nop, prlr, isPure, pickR, optInt, rets, rv, rvs, CN, NW, IntKind.bits]
      exact ⟨(k + 1, c + 1, sg, o'), by dsimp only; omega, ⟨by dsimp only; omega, by dsimp only; omega, by dsimp only; omega, by dsimp only; omega, hres⟩, Wk.shed (n := 2) (by decide) (by simp only [fits, eq_self, and_self, Int.cast_ofNat_Int, Int.natCast_add, and_true, true_and, List.replicate, List.cons_append, List.nil_append]) (by simp only [cutL, cutAV, cutSg, CU, List.replicate, List.cons_append, List.nil_append, Nat.reduceLT, if_true, if_false, List.map_cons, List.map_nil, List.take_succ_cons, List.take_zero, cutAV]) (by simp only [cutH, cutL, cutAV, cutSg, CU, List.replicate, List.cons_append, List.nil_append, Nat.reduceLT, if_true, if_false, List.map_cons, List.map_nil, List.take_succ_cons, List.take_zero, cutAV])⟩
    · rw [if_neg h1] at hres
      simp (disch := omega) only [seval, ↓SDX, isRes, slEl, bslParts, mmAll, mmR, SUX, List.replicate, List.append, pr, lr, er, binR, ev, putA, List.set, intOf, takeAg, cellsOf, wrAll, partsOk, ones, one, isOne, wok1, findPE, List.find?, nop, prlr, isPure, pickR, optInt, rets, rv, rvs, CN, NW, IntKind.bits]
      exact ⟨(k + 1, c, sg, o'), by dsimp only; omega, ⟨by dsimp only; omega, by dsimp only; omega, by dsimp only; omega, by dsimp only; omega, hres⟩, Wk.shed (n := 2) (by decide) (by simp only [fits, eq_self, and_self, Int.cast_ofNat_Int, Int.natCast_add, and_true, true_and, List.replicate, List.cons_append, List.nil_append]) (by simp only [cutL, cutAV, cutSg, CU, List.replicate, List.cons_append, List.nil_append, Nat.reduceLT, if_true, if_false, List.map_cons, List.map_nil, List.take_succ_cons, List.take_zero, cutAV]) (by simp only [cutH, cutL, cutAV, cutSg, CU, List.replicate, List.cons_append, List.nil_append, Nat.reduceLT, if_true, if_false, List.map_cons, List.map_nil, List.take_succ_cons, List.take_zero, cutAV])⟩
  · have hk3 : k = ls.length := by omega
    subst hk3
    rw [List.drop_length] at hres
    simp only [turnsN] at hres
    have hag : Agr ov o RES c := by
      rcases hres with ⟨h1, h2, h3⟩ | h1
      · exact .inl ⟨h1, h2, h3.symm⟩
      · exact .inr h1
    clear k3 hres
    simp (disch := omega) only [seval, ↓SDX, isRes, slEl, bslParts, mmAll, mmR, SUX, List.replicate, List.append, pr, lr, er, binR, ev, putA, List.set, intOf, takeAg, cellsOf, wrAll, partsOk, ones, one, isOne, wok1, findPE, List.find?, nop, prlr, isPure, pickR, optInt, rets, rv, rvs, CN, NW, rws_length, OR, IntKind.bits]
    exact ⟨_, _, ⟨c, o, rfl, hc, rfl, hag⟩, WkV.eq1 rfl trivial rfl ⟨trivial, trivial, trivial⟩⟩
set_option maxRecDepth 20000 in
theorem I_sturm_count_or (ov : Bool) (ls : List (List Int)) (a b : Int) (pl : Nat) (hok : chainOk ls) (ha : a.natAbs < bW) (hb : b.natAbs < bW) (hpl : pl ≤ 100) : OwR P F.I_sturm_count (stc ov ls) [.agg (wi a), .agg (wi b), .raw (.int .i64 (pl : Nat))] (coR ov ls (countM ls a b pl)) := by
  refine owR_of h.I_sturm_count ⟨noix_wi _, noix_wi _, trivial, trivial⟩ ⟨trivial, trivial, trivial⟩ coR_ok ?_
  have t1 := I_sturm_turns_or h ov ls a pl hok ha hpl
  have hl := hok.2.1
  simp (disch := omega) only [seval, ↓SDX, isRes, slEl, bslParts, mmAll, mmR, SUX, List.replicate, List.append, pr, lr, er, binR, ev, putA, List.set, intOf, takeAg, cellsOf, wrAll, partsOk, ones, one, isOne, wok1, findPE, List.find?, nop, prlr, isPure, pickR, optInt, rets, rv, rvs, I_sturm_count_c, CN, NW, IntKind.bits]
  refine t1.step0 rfl ?_
  rintro v0 c0 ⟨x, o1, rfl, hx, rfl, hag1⟩
  have t2 := I_sturm_turns_or h o1 ls b pl hok hb hpl
  simp (disch := omega) only [seval, ↓SDX, isRes, slEl, bslParts, mmAll, mmR, SUX, List.replicate, List.append, pr, lr, er, binR, ev, putA, List.set, intOf, takeAg, cellsOf, wrAll, partsOk, ones, one, isOne, wok1, findPE, List.find?, nop, prlr, isPure, pickR, optInt, rets, rv, rvs, CN, NW, IntKind.bits]
  refine t2.step0 rfl ?_
  rintro v0 c0 ⟨y, o2, rfl, hy, rfl, hag2⟩
  have hag : Agr ov o2 (countM ls a b pl) ((x : Int) - (y : Int)) := by
    unfold countM
    rcases hag2 with ⟨rfl, rfl, h2⟩ | ⟨rfl, h2⟩
    · rcases hag1 with ⟨-, rfl, h1⟩ | ⟨h1, -⟩
      · rw [h1, h2]; exact .inl ⟨rfl, rfl, rfl⟩
      · cases h1
    · right
      refine ⟨rfl, ?_⟩
      rcases h2 with rfl | h2
      · rcases hag1 with ⟨h1, -⟩ | ⟨-, h1⟩
        · cases h1
        · rcases h1 with h1 | h1
          · exact .inl h1
          · rw [h1]; exact .inr rfl
      · right
        cases turnsN a pl ls 0 0
        · rfl
        · rw [h2]
  clear hag1 hag2
  simp (disch := omega) only [seval, ↓SDX, isRes, slEl, bslParts, mmAll, mmR, SUX, List.replicate, List.append, pr, lr, er, binR, ev, putA, List.set, intOf, takeAg, cellsOf, wrAll, partsOk, ones, one, isOne, wok1, findPE, List.find?, nop, prlr, isPure, pickR, optInt, rets, rv, rvs, CN, NW, OR, IntKind.bits]
  exact ⟨_, _, ⟨(x : Int) - (y : Int), o2, rfl, by omega, by omega, rfl, hag⟩, WkV.eq1 rfl trivial rfl ⟨trivial, trivial, trivial⟩⟩
end
end Go.Proofs.Lite

namespace Go.Proofs.Lite
open Go
theorem wr_wdneg (b n : Bool) (A : Nat) : wr (wd b A) 0 [.raw (.bool n)] = wd n A := by simp [wr, wd]
theorem wr_wdmg (n : Bool) (A B : Nat) : wr (wd n A) 1 (mg B) = wd n B := by
  unfold wr
  rw [mg_length, List.drop_of_length_le (by rw [wd_length]; decide), List.append_nil]
  rfl
theorem raws_pc : raws [.bool false, .int .u32 0, .int .u32 0, .int .u32 0, .int .u32 0, .int .u32 0, .int .u32 0, .bool false, .int .u32 0, .int .u32 0, .int .u32 0, .int .u32 0, .int .u32 0, .int .u32 0, .int .i64 0] = pc false 0 false 0 0 := by
  unfold pc; rw [← raws_wd0]; rfl
section
variable (n1 n2 n3 n4 : Bool) (A1 A2 A3 A4 : Nat) (pl pl2 : Int)
theorem wr_pc0 : wr (pc n1 A1 n2 A2 pl) 0 (wd n3 A3) = pc n3 A3 n2 A2 pl := by
  unfold wr; rw [wd_length, Nat.zero_add, pc_drop7, List.take_zero]; rfl
theorem wr_pc7 : wr (pc n1 A1 n2 A2 pl) 7 (wd n3 A3) = pc n1 A1 n3 A3 pl := by
  unfold wr; rw [wd_length, pc_drop14, pc_take7]; rfl
theorem wr_pc14 : wr (pc n1 A1 n2 A2 pl) 14 [.raw (.int .i64 pl2)] = pc n1 A1 n2 A2 pl2 := by
  have h14 : (pc n1 A1 n2 A2 pl).take 14 = wd n1 A1 ++ wd n2 A2 := by
    unfold pc
    rw [← List.append_assoc, List.take_append_of_le_length (by simp [wd_length]), List.take_of_length_le (by simp [wd_length])]
  unfold wr
  rw [h14, List.drop_of_length_le (by rw [pc_length]; simp), List.append_nil, List.append_assoc]; rfl
theorem wr_pcpc : wr (pc n1 A1 n2 A2 pl) 0 (pc n3 A3 n4 A4 pl2) = pc n3 A3 n4 A4 pl2 := wr_full (by rw [pc_length, pc_length])
theorem pc_take15 : (pc n1 A1 n2 A2 pl).take 15 = pc n1 A1 n2 A2 pl := List.take_of_length_le (by rw [pc_length]; decide)
end
def PW := And.intro @wr_wdneg <| And.intro @wr_wdmg <| And.intro @raws_pc <| And.intro @wr_pc0 <| And.intro @wr_pc7 <| And.intro @wr_pc14 <| And.intro @wr_pcpc @pc_take15
section
variable {P : Program} {F : FnsA} (h : IsA P F)
include h
set_option maxRecDepth 20000 in
theorem W_toInt64S_pf (l : List Int) (hl : l.length ≤ 1048576) : Pf P F.W_toInt64S [roI l] (roI l) := by
  refine pf_of h.W_toInt64S ⟨trivial, trivial⟩ trivial ?_
  obtain ⟨n, hn⟩ : ∃ n, l.length = n := ⟨_, rfl⟩
  rw [hn] at hl
  simp (disch := omega) only [seval, ↓SDX, isRes, slEl, bslParts, mmAll, mmR, SUX, List.replicate, List.append, pr, lr, er, binR, ev, putA, List.set, intOf, takeAg, cellsOf, wrAll, partsOk, ones, one, isOne, wok1, findPE, List.find?, nop, prlr, isPure, pickR, optInt, rets, rv, rvs, W_toInt64S_c, CN, NW, hn, RW, IntKind.bits]
  refine loop_st (fun s : Nat × List Int => n - s.1) (fun s => ([roI l, .junk, .junk, .sl 0 1 0 n true, .raw (.int .i64 (s.1 : Nat))] ++ List.replicate 17 .junk)) (fun s => [.c (i64s s.2)])
    (fun s => s.1 ≤ n ∧ s.2.length = n ∧ s.2.take s.1 = l.take s.1) (0, List.replicate n 0) ⟨Nat.zero_le _, by simp, rfl⟩ (Wk.tmps (by simp only [fits, eq_self, and_self, Int.cast_ofNat_Int, Int.natCast_add, and_true, true_and, List.replicate, List.cons_append, List.nil_append])) ?_
  rintro ⟨k, s⟩ ⟨hk, hs, ht⟩
  dsimp only at hk hs ht ⊢
  by_cases hk2 : k < n
  · have hx := i64s_get (l := l) (i := k) (by omega)
    have hst := set_take (k := k) (hs.trans hn.symm) (by omega) ht rfl
    have hsl : (s.set k (l.getD k 0)).length = n := by rw [List.length_set]; exact hs
    generalize l.getD k 0 = x at *
    simp (disch := omega) only [seval, ↓SDX, isRes, slEl, bslParts, mmAll, mmR, SUX, List.replicate, List.append, pr, lr, er, binR, ev, putA, List.set, intOf, takeAg, cellsOf, wrAll, partsOk, ones, one, isOne, wok1, findPE, List.find?, nop, prlr, isPure, pickR, optInt, rets, rv, rvs, CN, NW, hx, hs, RW, hn, IntKind.bits]
    exact ⟨(k + 1, s.set k x), by dsimp only; omega, ⟨by dsimp only; omega, hsl, hst⟩, Wk.shed (n := 1) (by decide) (by simp only [fits, eq_self, and_self, Int.cast_ofNat_Int, Int.natCast_add, and_true, true_and, List.replicate, List.cons_append, List.nil_append]) (by simp only [cutL, cutAV, cutSg, CU, List.replicate, List.cons_append, List.nil_append, Nat.reduceLT, if_true, if_false, List.map_cons, List.map_nil, List.take_succ_cons, List.take_zero, cut_i64s]) (by simp only [cutH, cutL, cutAV, cutSg, CU, List.replicate, List.cons_append, List.nil_append, Nat.reduceLT, if_true, if_false, List.map_cons, List.map_nil, List.take_succ_cons, List.take_zero, cut_i64s])⟩
  · have hk3 : k = n := by omega
    subst hk3
    rw [List.take_of_length_le (by omega), List.take_of_length_le (by omega)] at ht
    subst ht
    simp (disch := omega) only [seval, ↓SDX, isRes, slEl, bslParts, mmAll, mmR, SUX, List.replicate, List.append, pr, lr, er, binR, ev, putA, List.set, intOf, takeAg, cellsOf, wrAll, partsOk, ones, one, isOne, wok1, findPE, List.find?, nop, prlr, isPure, pickR, optInt, rets, rv, rvs, CN, NW, hn, IntKind.bits]
    refine WkV.frz (i := 0) rfl (noixL_i64s _) (WkV.eq ?_ trivial)
    simp [frz, i64s_length, List.take_of_length_le, hs]
set_option maxRecDepth 20000 in
theorem W_eqInt64S_pf (l : List Int) (hl : l.length ≤ 1048576) : Pf P F.W_eqInt64S [roI l, roI l] (.raw (.bool true)) := by
  refine pf_of h.W_eqInt64S ⟨trivial, trivial, trivial⟩ trivial ?_
  simp (disch := omega) only [seval, ↓SDX, isRes, slEl, bslParts, mmAll, mmR, SUX, List.replicate, List.append, pr, lr, er, binR, ev, putA, List.set, intOf, takeAg, cellsOf, wrAll, partsOk, ones, one, isOne, wok1, findPE, List.find?, nop, prlr, isPure, pickR, optInt, rets, rv, rvs, W_eqInt64S_c, CN, NW, IntKind.bits]
  refine loop_st (fun s : Nat => l.length - s) (fun k => ([roI l, roI l, .junk, .junk, .junk, .raw (.int .i64 (k : Nat))] ++ List.replicate 20 .junk)) (fun k => []) (fun k => k ≤ l.length) 0 (Nat.zero_le _) (Wk.tmps (by simp only [fits, eq_self, and_self, Int.cast_ofNat_Int, Int.natCast_add, and_true, true_and, List.replicate, List.cons_append, List.nil_append])) ?_
  intro k hk
  by_cases hk2 : k < l.length
  · have hx := i64s_get hk2
    generalize l.getD k 0 = x at *
    simp (disch := omega) only [seval, ↓SDX, isRes, slEl, bslParts, mmAll, mmR, SUX, List.replicate, List.append, pr, lr, er, binR, ev, putA, List.set, intOf, takeAg, cellsOf, wrAll, partsOk, ones, one, isOne, wok1, findPE, List.find?, nop, prlr, isPure, pickR, optInt, rets, rv, rvs, CN, NW, hx, IntKind.bits]
    exact ⟨k + 1, by omega, by omega, Wk.tmps (by simp only [fits, eq_self, and_self, Int.cast_ofNat_Int, Int.natCast_add, and_true, true_and, List.replicate, List.cons_append, List.nil_append])⟩
  · have : k = l.length := by omega
    subst this
    simp (disch := omega) only [seval, ↓SDX, isRes, slEl, bslParts, mmAll, mmR, SUX, List.replicate, List.append, pr, lr, er, binR, ev, putA, List.set, intOf, takeAg, cellsOf, wrAll, partsOk, ones, one, isOne, wok1, findPE, List.find?, nop, prlr, isPure, pickR, optInt, rets, rv, rvs, CN, NW, IntKind.bits]
    exact WkV.eq (by first | rfl | simp) (by first | trivial | (simp only [noix, noixL, NX, and_true, true_and]; done))
end
end Go.Proofs.Lite

namespace Go.Proofs.Lite
open Go
section
variable (n1 n2 : Bool) (A1 A2 : Nat) (a b c d pl pl2 : Int)
theorem wr_pipi : wr (pi a b pl) 0 (pi c d pl2) = pi c d pl2 := wr_pcpc ..
theorem wr_pcpi : wr (pc n1 A1 n2 A2 pl) 0 (pi c d pl2) = pi c d pl2 := wr_pcpc ..
theorem wr_pipc : wr (pi c d pl2) 0 (pc n1 A1 n2 A2 pl) = pc n1 A1 n2 A2 pl := wr_pcpc ..
theorem pi_take15 : (pi a b pl).take 15 = pi a b pl := pc_take15 ..
theorem wr_piw0 : wr (pi a b pl) 0 (wi c) = pi c b pl := wr_pc0 ..
theorem wr_piw7 : wr (pi a b pl) 7 (wi c) = pi a c pl := wr_pc7 ..
theorem wr_pi14 : wr (pi a b pl) 14 [.raw (.int .i64 pl2)] = pi a b pl2 := wr_pc14 ..
theorem raws_pi : raws [.bool false, .int .u32 0, .int .u32 0, .int .u32 0, .int .u32 0, .int .u32 0, .int .u32 0, .bool false, .int .u32 0, .int .u32 0, .int .u32 0, .int .u32 0, .int .u32 0, .int .u32 0, .int .i64 0] = pi 0 0 0 := raws_pc
end
def QW := And.intro @raws_pi <| And.intro @wr_piw0 <| And.intro @wr_piw7 <| And.intro @wr_pi14 <| And.intro @wr_pipi <| And.intro @pi_take15 <| And.intro @wr_pcpi <| And.intro @wr_pipc @pc_take15
end Go.Proofs.Lite

namespace Go.Proofs.Lite
open Go
section
variable {P : Program} {F : FnsA} (h : IsA P F)
include h
set_option maxRecDepth 20000 in
theorem W_eqUint32A6_pf (A : Nat) : Pf P F.W_eqUint32A6 [.agg (mg A), .agg (mg A)] (.raw (.bool true)) := by
  refine pf_of h.W_eqUint32A6 (by simp only [noixL, noix, NX, and_true, true_and]) trivial ?_
  simp (disch := omega) only [seval, ↓SDX, isRes, slEl, bslParts, mmAll, mmR, SUX, List.replicate, List.append, pr, lr, er, binR, ev, putA, List.set, intOf, takeAg, cellsOf, wrAll, partsOk, ones, one, isOne, wok1, findPE, List.find?, nop, prlr, isPure, pickR, optInt, rets, rv, rvs, W_eqUint32A6_c, IntKind.bits]
  refine loop_st (fun k : Nat => 6 - k) (fun k => ([.junk, .junk, .ptr 0 0, .ptr 1 0, .junk, .raw (.int .i64 (k : Nat))] ++ List.replicate 11 .junk)) (fun k => [.c (mg A), .c (mg A)]) (fun k => k ≤ 6) 0 (by decide) (Wk.tmps (by simp only [fits, eq_self, and_self, Int.cast_ofNat_Int, Int.natCast_add, and_true, true_and, List.replicate, List.cons_append, List.nil_append])) ?_
  intro k hk
  by_cases hk2 : k < 6
  · simp (disch := omega) only [seval, ↓SDX, isRes, slEl, bslParts, mmAll, mmR, SUX, List.replicate, List.append, pr, lr, er, binR, ev, putA, List.set, intOf, takeAg, cellsOf, wrAll, partsOk, ones, one, isOne, wok1, findPE, List.find?, nop, prlr, isPure, pickR, optInt, rets, rv, rvs, CN, bne_self_eq_false, IntKind.bits]
    exact ⟨k + 1, by omega, by omega, Wk.tmps (by simp only [fits, eq_self, and_self, Int.cast_ofNat_Int, Int.natCast_add, and_true, true_and, List.replicate, List.cons_append, List.nil_append])⟩
  · have : k = 6 := by omega
    subst this
    simp (disch := omega) only [seval, ↓SDX, isRes, slEl, bslParts, mmAll, mmR, SUX, List.replicate, List.append, pr, lr, er, binR, ev, putA, List.set, intOf, takeAg, cellsOf, wrAll, partsOk, ones, one, isOne, wok1, findPE, List.find?, nop, prlr, isPure, pickR, optInt, rets, rv, rvs, CN, IntKind.bits]
    exact WkV.eq (by first | rfl | simp) (by first | trivial | (simp only [noix, noixL, NX, and_true, true_and]; done))
set_option maxRecDepth 20000 in
theorem W_eqWide_pf (n : Bool) (A : Nat) : Pf P F.W_eqWide [.agg (wd n A), .agg (wd n A)] (.raw (.bool true)) := by
  refine pf_of h.W_eqWide (by simp only [noixL, noix, NX, and_true, true_and]) trivial ?_
  have h1 := W_eqUint32A6_pf h A
  simp (disch := omega) only [seval, ↓SDX, isRes, slEl, bslParts, mmAll, mmR, SUX, List.replicate, List.append, pr, lr, er, binR, ev, putA, List.set, intOf, takeAg, cellsOf, wrAll, partsOk, ones, one, isOne, wok1, findPE, List.find?, nop, prlr, isPure, pickR, optInt, rets, rv, rvs, W_eqWide_c, IntKind.bits]
  refine h1.step ?_
  simp (disch := omega) only [seval, ↓SDX, isRes, slEl, bslParts, mmAll, mmR, SUX, List.replicate, List.append, pr, lr, er, binR, ev, putA, List.set, intOf, takeAg, cellsOf, wrAll, partsOk, ones, one, isOne, wok1, findPE, List.find?, nop, prlr, isPure, pickR, optInt, rets, rv, rvs, IntKind.bits]
  exact WkV.eq (by first | rfl | simp) (by first | trivial | (simp only [noix, noixL, NX, and_true, true_and]; done))
end
section
variable {P : Program} {F : FnsB} (h : IsB P F)
include h
set_option maxRecDepth 20000 in
theorem W_eqPart_pf (a b pl : Int) : Pf P F.W_eqPart [.agg (pi a b pl), .agg (pi a b pl)] (.raw (.bool true)) := by
  refine pf_of h.W_eqPart ⟨noixL_pi .., noixL_pi .., trivial⟩ trivial ?_
  have h1 : Pf P F.W_eqWide [.agg (wi a), .agg (wi a)] (.raw (.bool true)) := W_eqWide_pf h.toIsA _ _
  have h2 : Pf P F.W_eqWide [.agg (wi b), .agg (wi b)] (.raw (.bool true)) := W_eqWide_pf h.toIsA _ _
  simp (disch := omega) only [seval, ↓SDX, isRes, slEl, bslParts, mmAll, mmR, SUX, List.replicate, List.append, pr, lr, er, binR, ev, putA, List.set, intOf, takeAg, cellsOf, wrAll, partsOk, ones, one, isOne, wok1, findPE, List.find?, nop, prlr, isPure, pickR, optInt, rets, rv, rvs, W_eqPart_c, PI, IntKind.bits]
  refine h1.step ?_
  simp (disch := omega) only [seval, ↓SDX, isRes, slEl, bslParts, mmAll, mmR, SUX, List.replicate, List.append, pr, lr, er, binR, ev, putA, List.set, intOf, takeAg, cellsOf, wrAll, partsOk, ones, one, isOne, wok1, findPE, List.find?, nop, prlr, isPure, pickR, optInt, rets, rv, rvs, PI, IntKind.bits]
  refine h2.step ?_
  simp (disch := omega) only [seval, ↓SDX, isRes, slEl, bslParts, mmAll, mmR, SUX, List.replicate, List.append, pr, lr, er, binR, ev, putA, List.set, intOf, takeAg, cellsOf, wrAll, partsOk, ones, one, isOne, wok1, findPE, List.find?, nop, prlr, isPure, pickR, optInt, rets, rv, rvs, PI, bne_self_eq_false, IntKind.bits]
  exact WkV.eq (by first | rfl | simp) (by first | trivial | (simp only [noix, noixL, NX, and_true, true_and]; done))
end
end Go.Proofs.Lite

namespace Go.Proofs.Lite
open Go
section
variable {P : Program} {F : FnsA} (h : IsA P F)
include h
theorem S_l00Max_pf (a b : Int) : Pf P F.S_l00Max [.raw (.int .i64 a), .raw (.int .i64 b)] (.raw (.int .i64 (max a b))) := by
  refine pf_of h.S_l00Max (by simp only [noixL, noix, NX, and_true, true_and]) trivial ?_
  by_cases hc : b < a
  · rw [show max a b = a from by omega]
    simp (disch := omega) only [seval, ↓SDX, isRes, slEl, bslParts, mmAll, mmR, SUX, List.replicate, List.append, pr, lr, er, binR, ev, putA, List.set, intOf, takeAg, cellsOf, wrAll, partsOk, ones, one, isOne, wok1, findPE, List.find?, nop, prlr, isPure, pickR, optInt, rets, rv, rvs, S_l00Max_c, IntKind.bits]
    exact WkV.eq (by first | rfl | simp) (by first | trivial | (simp only [noix, noixL, NX, and_true, true_and]; done))
  · rw [show max a b = b from by omega]
    simp (disch := omega) only [seval, ↓SDX, isRes, slEl, bslParts, mmAll, mmR, SUX, List.replicate, List.append, pr, lr, er, binR, ev, putA, List.set, intOf, takeAg, cellsOf, wrAll, partsOk, ones, one, isOne, wok1, findPE, List.find?, nop, prlr, isPure, pickR, optInt, rets, rv, rvs, S_l00Max_c, IntKind.bits]
    exact WkV.eq (by first | rfl | simp) (by first | trivial | (simp only [noix, noixL, NX, and_true, true_and]; done))
end
end Go.Proofs.Lite

namespace Go.Proofs.Lite
open Go
def mostM (p : List Int) : Nat → Nat
  | 0 => 0
  | k + 1 => max (mostM p k) (p.getD k 0).natAbs
def bndM (last most : Nat) : Nat → Nat → Nat
  | 0, m => m
  | f + 1, m => if last * (2 ^ m - 1) < most then bndM last most f (m + 1) else m
def boundM (p : List Int) : Nat := bndM (p.getD (p.length - 1) 0).natAbs (mostM p (p.length - 1)) 21 0
theorem bndM_le (last most : Nat) : ∀ f m, bndM last most f m ≤ m + f
  | 0, m => Nat.le_refl m
  | f + 1, m => by
    simp only [bndM]; split
    · have := bndM_le last most f (m + 1); omega
    · omega
theorem boundM_le (p : List Int) : boundM p ≤ 21 := by
  have := bndM_le (p.getD (p.length - 1) 0).natAbs (mostM p (p.length - 1)) 21 0
  unfold boundM; omega
theorem getD_in {p : List Int} (hp : ∀ x ∈ p, -1000000 ≤ x ∧ x ≤ 1000000) (k : Nat) : -1000000 ≤ p.getD k 0 ∧ p.getD k 0 ≤ 1000000 := by
  by_cases hk : k < p.length
  · rw [List.getD_eq_getElem?_getD, List.getElem?_eq_getElem hk]; exact hp _ (List.getElem_mem _)
  · rw [List.getD_eq_getElem?_getD, List.getElem?_eq_none (by omega)]; decide
theorem mostM_le {p : List Int} (hp : ∀ x ∈ p, -1000000 ≤ x ∧ x ≤ 1000000) : ∀ k, mostM p k ≤ 1000000
  | 0 => Nat.zero_le _
  | k + 1 => by
    have := mostM_le hp k
    have := getD_in hp k
    simp only [mostM]; omega
/-- The facts of one turn of the loop. -/
theorem bnd_turn {last most m R : Nat} (h1 : 1 ≤ last) (h2 : last ≤ 1000000) (h3 : most ≤ 1000000) (hm : m ≤ 21) (hR : bndM last most (21 - m) m = R) :
    ∃ w q : Nat, 2 ^ (min m 64) = w ∧ 1 ≤ w ∧ w ≤ 2097152 ∧ last * (w - 1) = q ∧ q ≤ 2097151000000 ∧ ((q < most ∧ m ≤ 20 ∧ bndM last most (21 - (m + 1)) (m + 1) = R) ∨ (most ≤ q ∧ R = m)) := by
  have hmin : min m 64 = m := by omega
  have hw : 2 ^ m ≤ 2 ^ 21 := Nat.pow_le_pow_right (by omega) hm
  have hw1 : 1 ≤ 2 ^ m := Nat.one_le_two_pow
  have hq : last * (2 ^ m - 1) ≤ 1000000 * 2097151 := Nat.mul_le_mul h2 (by rw [show (2:Nat) ^ 21 = 2097152 from by decide] at hw; omega)
  refine ⟨2 ^ m, last * (2 ^ m - 1), by rw [hmin], hw1, hw, rfl, by omega, ?_⟩
  by_cases hc : last * (2 ^ m - 1) < most
  · left
    have hm20 : m ≤ 20 := by
      rcases Nat.lt_or_ge m 21 with h | h
      · omega
      · have : m = 21 := by omega
        subst this
        have : 1 * (2 ^ 21 - 1) ≤ last * (2 ^ 21 - 1) := Nat.mul_le_mul_right _ h1
        omega
    refine ⟨hc, hm20, ?_⟩
    obtain ⟨f, hf⟩ : ∃ f, 21 - m = f + 1 := ⟨20 - m, by omega⟩
    rw [hf] at hR
    simp only [bndM] at hR
    rw [if_pos hc] at hR
    rw [show 21 - (m + 1) = f from by omega]; exact hR
  · right
    refine ⟨by omega, ?_⟩
    rw [← hR]
    cases hf : 21 - m with
    | zero => rfl
    | succ f => simp only [bndM]; rw [if_neg hc]
section
variable {P : Program} {F : FnsB} (h : IsB P F)
include h
set_option maxRecDepth 20000 in
theorem S_l05Abs_pf (n : Int) (h1 : -1000000 ≤ n) (h2 : n ≤ 1000000) : Pf P F.S_l05Abs [.raw (.int .i64 n)] (.raw (.int .i64 (n.natAbs : Nat))) := by
  refine pf_of h.S_l05Abs (by simp only [noixL, noix, NX, and_true, true_and]) trivial ?_
  by_cases h0 : n < 0
  · have e : ((n.natAbs : Nat) : Int) = -n := by omega
    rw [e]
    simp (disch := omega) only [seval, ↓SDX, isRes, slEl, bslParts, mmAll, mmR, SUX, List.replicate, List.append, pr, lr, er, binR, ev, putA, List.set, intOf, takeAg, cellsOf, wrAll, partsOk, ones, one, isOne, wok1, findPE, List.find?, nop, prlr, isPure, pickR, optInt, rets, rv, rvs, S_l05Abs_c, IntKind.bits]
    exact WkV.eq (by first | rfl | simp) (by first | trivial | (simp only [noix, noixL, NX, and_true, true_and]; done))
  · have e : ((n.natAbs : Nat) : Int) = n := by omega
    rw [e]
    simp (disch := omega) only [seval, ↓SDX, isRes, slEl, bslParts, mmAll, mmR, SUX, List.replicate, List.append, pr, lr, er, binR, ev, putA, List.set, intOf, takeAg, cellsOf, wrAll, partsOk, ones, one, isOne, wok1, findPE, List.find?, nop, prlr, isPure, pickR, optInt, rets, rv, rvs, S_l05Abs_c, IntKind.bits]
    exact WkV.eq (by first | rfl | simp) (by first | trivial | (simp only [noix, noixL, NX, and_true, true_and]; done))
set_option maxRecDepth 20000 in
theorem S_l05Bound_pf (p : List Int) (hp : polyOk p = true) : Pf P F.S_l05Bound [roI p] (.raw (.int .i64 (boundM p : Nat))) := by
  obtain ⟨hl2, hl9, hnz, hin⟩ := polyOk_facts hp
  have hgi := getD_in hin
  have hmo := mostM_le hin
  refine pf_of h.S_l05Bound (by simp only [noixL, noix, NX, and_true, true_and]) trivial ?_
  obtain ⟨n, hn⟩ : ∃ n, p.length = n + 1 := ⟨p.length - 1, by omega⟩
  have hR : bndM (p.getD n 0).natAbs (mostM p n) (21 - 0) 0 = boundM p := by unfold boundM; rw [hn]; rfl
  generalize boundM p = R at *
  have c1 : ((n + 1 : Nat) : Int) - 1 = (n : Int) := by omega
  have hg := fun k (hk : k < p.length) => i64s_get (l := p) (i := k) hk
  rw [hn] at hg
  clear hin hp hl2
  simp (disch := omega) only [seval, ↓SDX, isRes, slEl, bslParts, mmAll, mmR, SUX, List.replicate, List.append, pr, lr, er, binR, ev, putA, List.set, intOf, takeAg, cellsOf, wrAll, partsOk, ones, one, isOne, wok1, findPE, List.find?, nop, prlr, isPure, pickR, optInt, rets, rv, rvs, S_l05Bound_c, CN, NW, PW, IntKind.bits]
  refine loop_st (fun k : Nat => n - k) (fun k => ([roI p, .junk, .junk, .raw (.int .i64 (mostM p k : Nat)), .raw (.int .i64 (k : Nat))] ++ List.replicate 32 .junk)) (fun _ => []) (fun k => k ≤ n) 0 (by omega) ?_ ?_
  · rw [show mostM p 0 = 0 from rfl]
    exact Wk.tmps (by simp only [fits, eq_self, and_self, Int.cast_ofNat_Int, Int.natCast_add, and_true, true_and, List.replicate, List.cons_append, List.nil_append])
  intro k hk
  by_cases hk2 : k < n
  · have hgk := hgi k
    have ha := S_l05Abs_pf h (p.getD k 0) hgk.1 hgk.2
    have hmx := S_l00Max_pf h.toIsA (mostM p k : Nat) ((p.getD k 0).natAbs : Nat)
    have g1 := hg k (by omega)
    have hs : max ((mostM p k : Nat) : Int) ((p.getD k 0).natAbs : Nat) = (mostM p (k + 1) : Nat) := by simp only [mostM]; omega
    rw [hs] at hmx
    clear hR hgi hmo hgk hs
    simp (disch := omega) only [seval, ↓SDX, isRes, slEl, bslParts, mmAll, mmR, SUX, List.replicate, List.append, pr, lr, er, binR, ev, putA, List.set, intOf, takeAg, cellsOf, wrAll, partsOk, ones, one, isOne, wok1, findPE, List.find?, nop, prlr, isPure, pickR, optInt, rets, rv, rvs, CN, NW, PW, hn, g1, IntKind.bits]
    refine ha.step ?_
    simp (disch := omega) only [seval, ↓SDX, isRes, slEl, bslParts, mmAll, mmR, SUX, List.replicate, List.append, pr, lr, er, binR, ev, putA, List.set, intOf, takeAg, cellsOf, wrAll, partsOk, ones, one, isOne, wok1, findPE, List.find?, nop, prlr, isPure, pickR, optInt, rets, rv, rvs, CN, IntKind.bits]
    refine hmx.step ?_
    simp (disch := omega) only [seval, ↓SDX, isRes, slEl, bslParts, mmAll, mmR, SUX, List.replicate, List.append, pr, lr, er, binR, ev, putA, List.set, intOf, takeAg, cellsOf, wrAll, partsOk, ones, one, isOne, wok1, findPE, List.find?, nop, prlr, isPure, pickR, optInt, rets, rv, rvs, CN, IntKind.bits]
    exact ⟨k + 1, by omega, by omega, Wk.tmps (by simp only [fits, eq_self, and_self, Int.cast_ofNat_Int, Int.natCast_add, and_true, true_and, List.replicate, List.cons_append, List.nil_append])⟩
  · have : k = n := by omega
    subst this
    have hm := hmo k
    have hl := hgi k
    have ha := S_l05Abs_pf h (p.getD k 0) hl.1 hl.2
    have g1 := hg k (by omega)
    rw [hn, show k + 1 - 1 = k from rfl] at hnz
    obtain ⟨L, hL⟩ : ∃ L, (p.getD k 0).natAbs = L := ⟨_, rfl⟩
    rw [hL] at ha hR
    have hL1 : 1 ≤ L := by omega
    have hL2 : L ≤ 1000000 := by omega
    generalize mostM p k = M at *
    clear hgi hmo hl hnz hL hg
    simp (disch := omega) only [seval, ↓SDX, isRes, slEl, bslParts, mmAll, mmR, SUX, List.replicate, List.append, pr, lr, er, binR, ev, putA, List.set, intOf, takeAg, cellsOf, wrAll, partsOk, ones, one, isOne, wok1, findPE, List.find?, nop, prlr, isPure, pickR, optInt, rets, rv, rvs, CN, NW, PW, hn, IntKind.bits]
    refine loop_st (fun m : Nat => 21 - m) (fun m => ([roI p, .junk, .junk, .raw (.int .i64 (M : Nat)), .junk, .raw (.int .i64 (m : Nat))] ++ List.replicate 31 .junk)) (fun _ => []) (fun m => m ≤ 21 ∧ bndM L M (21 - m) m = R) 0 ⟨by omega, hR⟩ (Wk.tmps (by simp only [fits, eq_self, and_self, Int.cast_ofNat_Int, Int.natCast_add, and_true, true_and, List.replicate, List.cons_append, List.nil_append])) ?_
    clear hR
    rintro m ⟨hm21, hR⟩
    obtain ⟨w, q, e1, hw1, hw2, e2, hq, hc⟩ := bnd_turn hL1 hL2 hm hm21 hR
    have e3 : 1 * 2 ^ m = w := by rw [← e1, Nat.one_mul, show min m 64 = m from by omega]
    have e4 : ((w : Nat) : Int) - 1 = (w - 1 : Nat) := by omega
    have e5 : L * (w - 1) = q := e2
    clear hR e1 e2
    clear hk
    simp (disch := omega) only [seval, ↓SDX, isRes, slEl, bslParts, mmAll, mmR, SUX, List.replicate, List.append, pr, lr, er, binR, ev, putA, List.set, intOf, takeAg, cellsOf, wrAll, partsOk, ones, one, isOne, wok1, findPE, List.find?, nop, prlr, isPure, pickR, optInt, rets, rv, rvs, CN, NW, PW, hn, c1, g1, IntKind.bits]
    refine ha.step ?_
    rcases hc with ⟨hc1, hc2, hc3⟩ | ⟨hc1, hc2⟩
    · simp (disch := omega) only [seval, ↓SDX, isRes, slEl, bslParts, mmAll, mmR, SUX, List.replicate, List.append, pr, lr, er, binR, ev, putA, List.set, intOf, takeAg, cellsOf, wrAll, partsOk, ones, one, isOne, wok1, findPE, List.find?, nop, prlr, isPure, pickR, optInt, rets, rv, rvs, CN, e3, e4, e5, hc1, IntKind.bits]
      refine ⟨m + 1, by omega, ⟨by omega, hc3⟩, Wk.tmps (by simp only [fits, eq_self, and_self, Int.cast_ofNat_Int, Int.natCast_add, and_true, true_and, List.replicate, List.cons_append, List.nil_append])⟩
    · subst hc2
      have hc1' : ¬ q < M := by omega
      simp (disch := omega) only [seval, ↓SDX, isRes, slEl, bslParts, mmAll, mmR, SUX, List.replicate, List.append, pr, lr, er, binR, ev, putA, List.set, intOf, takeAg, cellsOf, wrAll, partsOk, ones, one, isOne, wok1, findPE, List.find?, nop, prlr, isPure, pickR, optInt, rets, rv, rvs, CN, e3, e4, e5, hc1', IntKind.bits]
      exact WkV.eq (by first | rfl | simp) (by first | trivial | (simp only [noix, noixL, NX, and_true, true_and]; done))
set_option maxRecDepth 20000 in
theorem I_bound_pf (p : List Int) (hp : polyOk p = true) : Pf P F.I_bound [roI p] (.raw (.int .i64 (boundM p : Nat))) := by
  obtain ⟨hl2, hl9, hnz, hin⟩ := polyOk_facts hp
  have hgi := getD_in hin
  have hmo := mostM_le hin
  refine pf_of h.I_bound (by simp only [noixL, noix, NX, and_true, true_and]) trivial ?_
  obtain ⟨n, hn⟩ : ∃ n, p.length = n + 1 := ⟨p.length - 1, by omega⟩
  have hR : bndM (p.getD n 0).natAbs (mostM p n) (21 - 0) 0 = boundM p := by unfold boundM; rw [hn]; rfl
  generalize boundM p = R at *
  have c1 : ((n + 1 : Nat) : Int) - 1 = (n : Int) := by omega
  have hg := fun k (hk : k < p.length) => i64s_get (l := p) (i := k) hk
  rw [hn] at hg
  have g1 := hg n (by omega)
  have hl := hgi n
  rw [hn, show n + 1 - 1 = n from rfl] at hnz
  obtain ⟨x, hx⟩ : ∃ x, p.getD n 0 = x := ⟨_, rfl⟩
  obtain ⟨L, hL⟩ : ∃ L, (p.getD n 0).natAbs = L := ⟨_, rfl⟩
  rw [hL] at hR
  have hL1 : 1 ≤ L := by omega
  have hL2 : L ≤ 1000000 := by omega
  rw [hx] at g1 hl hnz hL
  have e1 : (if x < 0 - x then 0 - x else x) = (L : Nat) := by split <;> omega
  clear hin hp hl2
  simp (disch := omega) only [seval, ↓SDX, isRes, slEl, bslParts, mmAll, mmR, SUX, List.replicate, List.append, pr, lr, er, binR, ev, putA, List.set, intOf, takeAg, cellsOf, wrAll, partsOk, ones, one, isOne, wok1, findPE, List.find?, nop, prlr, isPure, pickR, optInt, rets, rv, rvs, I_bound_c, CN, NW, PW, hn, c1, g1, e1, IntKind.bits]
  refine loop_st (fun k : Nat => n - k) (fun k => ([.junk, .junk, .junk, .raw (.int .i64 (L : Nat)), .raw (.int .i64 (mostM p k : Nat)), .junk, .junk, .junk, .junk, .junk, .junk, .junk, .junk, .junk, .junk, .junk, .junk, .junk, .junk, .junk, .junk, .junk, .junk, .junk, .junk, .junk, .ro 1 n ((i64s p).take n), .raw (.int .i64 (n : Nat)), .raw (.int .i64 (k : Nat))] ++ List.replicate 19 .junk)) (fun _ => []) (fun k => k ≤ n) 0 (by omega) ?_ ?_
  · rw [show mostM p 0 = 0 from rfl]
    exact Wk.tmps (by simp only [fits, eq_self, and_self, Int.cast_ofNat_Int, Int.natCast_add, and_true, true_and, List.replicate, List.cons_append, List.nil_append])
  intro k hk
  by_cases hk2 : k < n
  · have hgk := hgi k
    have g2 : (((i64s p).take n).drop k).getD 0 .junk = .raw (.int .i64 (p.getD k 0)) := by
      rw [← hg k (by omega), List.drop_take, List.getD_eq_getElem?_getD, List.getElem?_take_of_lt (by omega), ← List.getD_eq_getElem?_getD]
    have hM := hmo k
    have em : (if (if ((mostM p k : Nat) : Int) < p.getD k 0 then p.getD k 0 else ((mostM p k : Nat) : Int)) < 0 - p.getD k 0 then 0 - p.getD k 0 else (if ((mostM p k : Nat) : Int) < p.getD k 0 then p.getD k 0 else ((mostM p k : Nat) : Int))) = (mostM p (k + 1) : Nat) := by
      simp only [mostM]; split <;> split <;> omega
    obtain ⟨M2, hM2⟩ : ∃ M2, mostM p (k + 1) = M2 := ⟨_, rfl⟩
    rw [hM2] at em
    generalize mostM p k = M at *
    generalize p.getD k 0 = y at *
    clear hR hgi hmo hL hx hl hg e1
    simp (disch := omega) only [seval, ↓SDX, isRes, slEl, bslParts, mmAll, mmR, SUX, List.replicate, List.append, pr, lr, er, binR, ev, putA, List.set, intOf, takeAg, cellsOf, wrAll, partsOk, ones, one, isOne, wok1, findPE, List.find?, nop, prlr, isPure, pickR, optInt, rets, rv, rvs, CN, NW, PW, hn, g2, em, IntKind.bits]
    refine ⟨k + 1, by omega, by omega, ?_⟩
    rw [hM2]
    exact Wk.tmps (by simp only [fits, eq_self, and_self, Int.cast_ofNat_Int, Int.natCast_add, and_true, true_and, List.replicate, List.cons_append, List.nil_append])
  · have : k = n := by omega
    subst this
    have hm := hmo k
    generalize mostM p k = M at *
    clear hgi hmo hl hnz hL hg
    simp (disch := omega) only [seval, ↓SDX, isRes, slEl, bslParts, mmAll, mmR, SUX, List.replicate, List.append, pr, lr, er, binR, ev, putA, List.set, intOf, takeAg, cellsOf, wrAll, partsOk, ones, one, isOne, wok1, findPE, List.find?, nop, prlr, isPure, pickR, optInt, rets, rv, rvs, CN, NW, PW, hn, IntKind.bits]
    refine loop_st (fun m : Nat => 21 - m) (fun m => ([.junk, .junk, .junk, .raw (.int .i64 (L : Nat)), .raw (.int .i64 (M : Nat)), .junk, .junk, .raw (.int .i64 (m : Nat))] ++ List.replicate 40 .junk)) (fun _ => []) (fun m => m ≤ 21 ∧ bndM L M (21 - m) m = R) 0 ⟨by omega, hR⟩ (Wk.tmps (by simp only [fits, eq_self, and_self, Int.cast_ofNat_Int, Int.natCast_add, and_true, true_and, List.replicate, List.cons_append, List.nil_append])) ?_
    clear hR
    rintro m ⟨hm21, hR⟩
    obtain ⟨w, q, e1, hw1, hw2, e2, hq, hc⟩ := bnd_turn hL1 hL2 hm hm21 hR
    have e3 : 1 * 2 ^ m = w := by rw [← e1, Nat.one_mul, show min m 64 = m from by omega]
    have e4 : ((w : Nat) : Int) - 1 = (w - 1 : Nat) := by omega
    have e5 : L * (w - 1) = q := e2
    clear hR e1 e2
    clear hk
    rcases hc with ⟨hc1, hc2, hc3⟩ | ⟨hc1, hc2⟩
    · simp (disch := omega) only [seval, ↓SDX, isRes, slEl, bslParts, mmAll, mmR, SUX, List.replicate, List.append, pr, lr, er, binR, ev, putA, List.set, intOf, takeAg, cellsOf, wrAll, partsOk, ones, one, isOne, wok1, findPE, List.find?, nop, prlr, isPure, pickR, optInt, rets, rv, rvs, CN, e3, e4, e5, hc1, IntKind.bits]
      refine ⟨m + 1, by omega, ⟨by omega, hc3⟩, Wk.tmps (by simp only [fits, eq_self, and_self, Int.cast_ofNat_Int, Int.natCast_add, and_true, true_and, List.replicate, List.cons_append, List.nil_append])⟩
    · subst hc2
      have hc1' : ¬ q < M := by omega
      simp (disch := omega) only [seval, ↓SDX, isRes, slEl, bslParts, mmAll, mmR, SUX, List.replicate, List.append, pr, lr, er, binR, ev, putA, List.set, intOf, takeAg, cellsOf, wrAll, partsOk, ones, one, isOne, wok1, findPE, List.find?, nop, prlr, isPure, pickR, optInt, rets, rv, rvs, CN, e3, e4, e5, hc1', IntKind.bits]
      exact WkV.eq (by first | rfl | simp) (by first | trivial | (simp only [noix, noixL, NX, and_true, true_and]; done))
end
end Go.Proofs.Lite

namespace Go.Proofs.Lite
open Go
abbrev Pt := Int × Int × Nat
def pt (t : Pt) : List AV := pi t.1 t.2.1 (t.2.2 : Nat)
def pts (l : List Pt) : List AV := l.flatMap pt
theorem pt_length (t : Pt) : (pt t).length = 15 := pi_length ..
theorem pts_cons (a : Pt) (l : List Pt) : pts (a :: l) = pt a ++ pts l := by simp [pts]
theorem pts_snoc (a : List Pt) (x y : Int) (n : Nat) : pts a ++ pi x y (n : Nat) = pts (a ++ [(x, y, n)]) := by simp [pts, pt]
theorem pts_length (l : List Pt) : (pts l).length = l.length * 15 := by
  induction l with
  | nil => rfl
  | cons a l ih => rw [pts_cons, List.length_append, pt_length, ih, List.length_cons]; omega
theorem pts_drop (l : List Pt) (i : Nat) : (pts l).drop (i * 15) = pts (l.drop i) := by
  induction l generalizing i with
  | nil => simp [pts]
  | cons a l ih =>
    cases i with
    | zero => simp
    | succ i =>
      rw [pts_cons, List.drop_succ_cons, ← ih, show (i + 1) * 15 = (pt a).length + i * 15 from by rw [pt_length]; omega, List.drop_length_add_append]
theorem pts_get {l : List Pt} {i : Nat} (h : i < l.length) : ((pts l).drop (i * 15)).take 15 = pt (l.getD i (0, 0, 0)) := by
  rw [pts_drop]
  have : l.drop i = l.getD i (0, 0, 0) :: l.drop (i + 1) := by
    rw [List.getD_eq_getElem?_getD, List.getElem?_eq_getElem h]; simp
  rw [this, pts_cons, List.take_left' (pt_length _)]
theorem clean_pts (l : List Pt) : cleanL (pts l) := by
  induction l with
  | nil => trivial
  | cons a l ih => rw [pts_cons, cleanL_append]; exact ⟨clean_pi _ _ _, ih⟩
theorem noixL_pts (l : List Pt) : noixL (pts l) := noixL_clean _ (clean_pts l)
theorem ones_pts (l : List Pt) : ones (pts l) := by
  induction l with
  | nil => trivial
  | cons a l ih => rw [pts_cons, ones_append]; exact ⟨ones_pi _ _ _, ih⟩
theorem mv_pts (j i : Nat) (l : List Pt) : mvL j i (pts l) = pts l := mvL_noix _ (noixL_pts l)
theorem cut_pts (n : Nat) (l : List Pt) : cutL n (pts l) = pts l := cutL_noix _ (noixL_pts l)
def cutM (ls : List (List Int)) : Nat → Int → Int → Nat → List Pt → Except Int (List Pt)
  | 0, _, _, _, _ => .error 7
  | f + 1, a, b, pl, out => match countM ls a b pl with
    | none => .error 3
    | some n => if n = 0 then .ok out else if n = 1 then .ok (out ++ [(a, b, pl)]) else
      match cutM ls f (a * 2) (a + b) (pl + 1) out with
      | .error e => .error e
      | .ok q => cutM ls f (a + b) (b * 2) (pl + 1) q
def partsM (p : List Int) : Except Int (List Pt) := if polyOk p then (match simpleM p with
  | .error e => .error e
  | .ok ls => cutM ls 49 (-(2 ^ boundM p)) (2 ^ boundM p) 0 []) else .error 1
theorem hv_dbl {a : Int} {pl : Nat} : ∀ {r : List Int} {e : Nat} {s v w : Int}, hv a pl (e + 1) s r = some v → hv (a * 2) (pl + 1) (e + 1) (s * 2 ^ e) r = some w → w = v * 2 ^ (e + r.length)
  | [], e, s, v, w, h1, h2 => by
    simp only [hv] at h1 h2
    injection h1 with h1; injection h2 with h2
    rw [← h1, ← h2]; rfl
  | c :: r, e, s, v, w, h1, h2 => by
    simp only [hv] at h1 h2
    split at h1
    · split at h1
      · split at h1
        · split at h2
          · split at h2
            · split at h2
              · have key : s * 2 ^ e * (a * 2) + c * 2 ^ ((pl + 1) * (e + 1)) = (s * a + c * 2 ^ (pl * (e + 1))) * 2 ^ (e + 1) := by
                  rw [show (pl + 1) * (e + 1) = pl * (e + 1) + (e + 1) from by rw [Nat.add_mul, Nat.one_mul], Int.pow_add, Int.add_mul, Int.pow_succ]
                  congr 1
                  · rw [Int.mul_assoc, Int.mul_assoc]
                    congr 1
                    rw [Int.mul_left_comm]
                  · rw [Int.mul_assoc]
                rw [key] at h2
                have := hv_dbl h1 h2
                rw [this, List.length_cons, show e + 1 + r.length = e + (r.length + 1) from by omega]
              · cases h2
            · cases h2
          · cases h2
        · cases h1
      · cases h1
    · cases h1
theorem valueM_dbl {p : List Int} {a : Int} {pl : Nat} {v w : Int} (h1 : valueM p a pl = some v) (h2 : valueM p (a * 2) (pl + 1) = some w) : v.sign = w.sign := by
  unfold valueM at h1 h2
  have : hv (a * 2) (pl + 1) (0 + 1) (p.getD (p.length - 1) 0 * 2 ^ 0) (p.take (p.length - 1)).reverse = some w := by
    rw [Int.pow_zero, Int.mul_one]; exact h2
  rw [hv_dbl h1 this, Int.sign_mul, Int.sign_eq_one_of_pos (Int.pow_pos (by decide)), Int.mul_one]
theorem turnsN_dbl {a : Int} {pl : Nat} : ∀ {ls : List (List Int)} {c x y : Nat} {b : Int}, turnsN a pl ls c b = some x → turnsN (a * 2) (pl + 1) ls c b = some y → x = y
  | [], c, x, y, b, h1, h2 => by simp only [turnsN] at h1 h2; rw [h1] at h2; injection h2
  | p :: ls, c, x, y, b, h1, h2 => by
    simp only [turnsN] at h1 h2
    cases hv1 : valueM p a pl with
    | none => rw [hv1] at h1; cases h1
    | some v => cases hv2 : valueM p (a * 2) (pl + 1) with
      | none => rw [hv2] at h2; cases h2
      | some w =>
        rw [hv1] at h1; rw [hv2] at h2
        dsimp only at h1 h2
        rw [← valueM_dbl hv1 hv2] at h2
        split at h1
        · rename_i h0; rw [if_pos h0] at h2; exact turnsN_dbl h1 h2
        · rename_i h0; rw [if_neg h0] at h2; exact turnsN_dbl h1 h2
theorem turnsN_le2 {a : Int} {pl : Nat} : ∀ {ls : List (List Int)} {c x : Nat} {b : Int}, turnsN a pl ls c b = some x → x ≤ c + ls.length
  | [], c, x, b, h1 => by simp only [turnsN] at h1; injection h1; subst_vars; exact Nat.le_refl _
  | p :: ls, c, x, b, h1 => by
    simp only [turnsN] at h1
    split at h1
    · cases h1
    · split at h1
      · have := turnsN_le2 h1; rw [List.length_cons]; omega
      · have := turnsN_le2 h1
        rw [List.length_cons]
        split at this <;> omega
/-- Parts that are found are as many as the turns tell. -/
theorem cutM_count {ls : List (List Int)} : ∀ {f : Nat} {a b : Int} {pl : Nat} {out q : List Pt}, cutM ls f a b pl out = .ok q →
    ∃ x y : Nat, turnsN a pl ls 0 0 = some x ∧ turnsN b pl ls 0 0 = some y ∧ (q.length : Int) = out.length + ((x : Int) - (y : Int))
  | 0, a, b, pl, out, q, h => by cases h
  | f + 1, a, b, pl, out, q, h => by
    simp only [cutM] at h
    unfold countM at h
    cases hx : turnsN a pl ls 0 0 with
    | none => rw [hx] at h; cases h
    | some x =>
      cases hy : turnsN b pl ls 0 0 with
      | none => rw [hx, hy] at h; cases h
      | some y =>
        rw [hx, hy] at h
        dsimp only at h
        refine ⟨x, y, rfl, rfl, ?_⟩
        split at h
        · injection h with h; subst h; omega
        · split at h
          · injection h with h; subst h; rw [List.length_append, List.length_singleton]; omega
          · split at h
            · cases h
            · rename_i q1 h1
              obtain ⟨x1, y1, e1, e2, e3⟩ := cutM_count h1
              obtain ⟨x2, y2, g1, g2, g3⟩ := cutM_count h
              rw [e2] at g1
              injection g1 with g1
              have := turnsN_dbl hx e1
              have := turnsN_dbl hy g2
              omega
theorem cutM_len {ls : List (List Int)} {f : Nat} {a b : Int} {pl : Nat} {out q : List Pt} (h : cutM ls f a b pl out = .ok q) : q.length ≤ out.length + ls.length := by
  obtain ⟨x, y, h1, -, h3⟩ := cutM_count h
  have := turnsN_le2 h1
  omega
theorem cutM_err {ls : List (List Int)} : ∀ {f : Nat} {a b : Int} {pl : Nat} {out : List Pt} {e : Int}, cutM ls f a b pl out = .error e → e = 3 ∨ e = 7
  | 0, a, b, pl, out, e, h => by injection h with h; exact .inr h.symm
  | f + 1, a, b, pl, out, e, h => by
    simp only [cutM] at h
    split at h
    · injection h with h; exact .inl h.symm
    · split at h
      · cases h
      · split at h
        · cases h
        · split at h
          · rename_i e1 h1
            injection h with h; subst h; exact cutM_err h1
          · exact cutM_err h
def cutR (o : Except Int (List Pt)) (v : AV) (H' : Heap) : Prop := match o with
  | .ok q => v = .tup [.sl 1 15 0 q.length true, .raw (.int .i64 0)] ∧ H' = [.dead, .c (pts q)]
  | .error e => v = .tup [.junk, .raw (.int .i64 e)] ∧ H' = [.dead]
def splR (ls : List (List Int)) (o : Except Int (List Pt)) (v : AV) (H' : Heap) : Prop := match o with
  | .ok q => v = .tup [.sl 2 15 0 q.length true, .raw (.int .i64 0)] ∧ H' = [.c (stc false ls), .dead, .c (pts q)]
  | .error e => v = .tup [.raw (.slice none 0 0), .raw (.int .i64 e)] ∧ H' = [.dead, .dead]
section
variable {P : Program} {f : FuncId} {T : List AV} {H : Heap} {d : Option Nat} {K : List AV → Heap → Prop} {w : KW K}
theorem callD_cut {a0 a1 : AV} {n j : Nat} {cs : List AV} {o : Except Int (List Pt)} (h : Ct P f [a0, a1, .sl 0 15 0 n true] [.c cs] (cutR o)) (h0 : noix a0) (h1 : noix a1) (hc : noixL cs) (hj : H[j]? = some (.c cs))
    (hok : ∀ q, o = .ok q → K (putA T d (.tup [.sl H.length 15 0 q.length true, .raw (.int .i64 0)])) (H.set j .dead ++ [.c (pts q)]))
    (her : ∀ e, o = .error e → K (putA T d (.tup [.junk, .raw (.int .i64 e)])) (H.set j .dead)) : CallD P f [a0, a1, .sl j 15 0 n true] d T H K w := by
  refine ⟨[(j, 0)], [], [a0, a1, .sl 0 15 0 n true], [.c cs], _, h, ?_, ?_, by simp, ?_, ?_, fun v' Hc' hR => ⟨fun h => absurd rfl h, ?_⟩⟩
  · simp only [argsOk, and_true]
    exact ⟨.inl (ren_noix _ h0).symm, .inl (ren_noix _ h1).symm, .inl (by simp [ren, rix])⟩
  · simp only [embOk, and_true]
    exact ⟨by simp, cs, hj, by simp, by rw [renL_noix cs hc]; simp⟩
  · simp only [slOkL, slOk, and_true]
    exact ⟨slOk_noix _ h0, slOk_noix _ h1, fun _ => by simp [tailB, hj, segLen]⟩
  · simp only [slOkH, and_true]; exact slOkL_noix cs hc
  · cases o with
    | ok q =>
      obtain ⟨rfl, rfl⟩ := hR
      have := hok q rfl
      simpa [back, backs, back1, ren, renL, rix, renSg, renL_noix _ (noixL_pts q)] using this
    | error e =>
      obtain ⟨rfl, rfl⟩ := hR
      have := her e rfl
      simpa [back, backs, back1, ren, renL, rix, renSg] using this
theorem callD_spl {a0 : AV} {n i j : Nat} {cs : List AV} {ls : List (List Int)} {o : Except Int (List Pt)} (h : Ct P f [.ptr 0 0, .sl 1 15 0 n true, a0] [.c (stc false ls), .c cs] (splR ls o)) (h0 : noix a0) (hc : noixL cs) (hij : i ≠ j)
    (hi : H[i]? = some (.c (stc false ls))) (hj : H[j]? = some (.c cs))
    (hok : ∀ q, o = .ok q → K (putA T d (.tup [.sl H.length 15 0 q.length true, .raw (.int .i64 0)])) (H.set j .dead ++ [.c (pts q)]))
    (her : ∀ e, o = .error e → K (putA T d (.tup [.raw (.slice none 0 0), .raw (.int .i64 e)])) ((H.set i .dead).set j .dead)) : CallD P f [.ptr i 0, .sl j 15 0 n true, a0] d T H K w := by
  have hs : noixL (stc false ls) := ⟨trivial, trivial, trivial⟩
  refine ⟨[(i, 0), (j, 0)], [], [.ptr 0 0, .sl 1 15 0 n true, a0], [.c (stc false ls), .c cs], _, h, ?_, ?_, by simp [hij], ?_, ?_, fun v' Hc' hR => ⟨fun h => absurd rfl h, ?_⟩⟩
  · simp only [argsOk, and_true]
    exact ⟨.inl (by simp [ren, rix]), .inl (by simp [ren, rix]), .inl (ren_noix _ h0).symm⟩
  · simp only [embOk, and_true]
    exact ⟨⟨by simp, _, hi, by simp, by rw [renL_noix _ hs]; rfl⟩, by simp, cs, hj, by simp, by rw [renL_noix cs hc]; simp⟩
  · simp only [slOkL, slOk, and_true, true_and]
    exact ⟨fun _ => by simp [tailB, hj, segLen], slOk_noix _ h0⟩
  · simp only [slOkH, and_true]; exact ⟨slOkL_noix _ hs, slOkL_noix cs hc⟩
  · cases o with
    | ok q =>
      obtain ⟨rfl, rfl⟩ := hR
      have := hok q rfl
      have hb : back1 [(i, 0), (j, 0)] H.length H i 0 (.c (stc false ls)) (.c (stc false ls)) = H := by
        simp only [back1, getD_c' hi, true_or, if_true, renL_noix _ hs, List.take_zero, List.nil_append, Nat.zero_add, List.drop_length, List.append_nil]
        exact set_get_self hi
      simp only [back, backs, hb]
      simpa [back1, ren, renL, rix, renSg, renL_noix _ (noixL_pts q)] using this
    | error e =>
      obtain ⟨rfl, rfl⟩ := hR
      have := her e rfl
      simpa [back, backs, back1, ren, renL, rix, renSg] using this
end
def Gend (n0 : Nat) (rs : List RV) (R : AV → Heap → Prop) : Post
  | .exit _, _, _ => False
  | _, T, H => (rets T H rs).1 ∧ ∃ v H', R v H' ∧ WkV n0 H (rets T H rs).2 v H'
theorem gend_ret {n0 : Nat} {T : List AV} {H : Heap} {rs : List RV} {R : AV → Heap → Prop} : Gend n0 rs R .ret T H = ((rets T H rs).1 ∧ ∃ v H', R v H' ∧ WkV n0 H (rets T H rs).2 v H') := rfl
theorem gend_normal {n0 : Nat} {T : List AV} {H : Heap} {rs : List RV} {R : AV → Heap → Prop} : Gend n0 rs R .normal T H = ((rets T H rs).1 ∧ ∃ v H', R v H' ∧ WkV n0 H (rets T H rs).2 v H') := rfl
def GR := And.intro @gend_ret @gend_normal
theorem gen_of {P : Program} {f : FuncId} {lf : LF} {args : List AV} {H0 : Heap} {R : AV → Heap → Prop} (hf : stripF P f = some lf)
    (h : awp P H0.length lf.code (Gend H0.length lf.res R) (args ++ List.replicate (lf.ntmps - args.length) .junk) H0) : Ct P f args H0 R := by
  refine ct_of_sound hf ((sound_of_awp h).mono ?_)
  intro e T H he
  cases e with
  | normal => obtain ⟨h1, v, c', h2, h3⟩ := he; exact ⟨h1, v, _, h3, h2⟩
  | ret => obtain ⟨h1, v, c', h2, h3⟩ := he; exact ⟨h1, v, _, h3, h2⟩
  | exit i => exact he.elim
theorem WkV.bring {n0 j z m : Nat} {c : AV} {H H2 : Heap} {cs : List AV} (hc : noix c) (hn : n0 < H.length) (hj : H[j]? = some (.c cs)) (hne : j ≠ n0) (hH : cutH (n0 + 1) (mvH j n0 cs (H.set n0 .dead)) = H2) :
    WkV n0 H (.tup [.sl j z 0 m true, c]) (.tup [.sl n0 z 0 m true, c]) H2 := by
  subst hH
  refine (Wk.kill n0).trans ?_
  have h1 : (H.set n0 .dead)[n0]? = some .dead := List.getElem?_set_self hn
  have h2 : (H.set n0 .dead)[j]? = some (.c cs) := by rw [List.getElem?_set_ne (Ne.symm hne)]; exact hj
  refine Wk.back (Nat.le_refl _) (Nat.le_succ _) (Ne.symm hne) h1 h2 (n := n0 + 1) ?_ rfl
  simp [mvL, mvAV, cutL, cutAV, mv_noix c hc, cut_noix c hc, fits]
theorem WkV.bring' {n0 j z m m' : Nat} {c : AV} {H H2 : Heap} {cs : List AV} (hm : m' = m) (hc : noix c) (hn : n0 < H.length) (hj : H[j]? = some (.c cs)) (hne : j ≠ n0) (hH : cutH (n0 + 1) (mvH j n0 cs (H.set n0 .dead)) = H2) :
    WkV n0 H (.tup [.sl j z 0 m true, c]) (.tup [.sl n0 z 0 m' true, c]) H2 := by
  subst hm; exact WkV.bring hc hn hj hne hH
theorem WkV.kc {n0 : Nat} {a v : AV} {H H2 : Heap} (i : Nat) (h1 : cutAV n0 a = v) (h2 : cutH n0 (H.set i .dead) = H2) : WkV n0 H a v H2 := by
  subst h1 h2
  exact (Wk.kill i).trans (Wk.cut (Nat.le_refl _))
theorem WkV.cut2 {n0 : Nat} {a b v : AV} {H H1 H2 : Heap} (h : WkV n0 H a b H1) (h1 : cutAV n0 b = v) (h2 : cutH n0 H1 = H2) : WkV n0 H a v H2 := by
  subst h1 h2
  exact Wk.trans h (Wk.cut (Nat.le_refl _))
end Go.Proofs.Lite
