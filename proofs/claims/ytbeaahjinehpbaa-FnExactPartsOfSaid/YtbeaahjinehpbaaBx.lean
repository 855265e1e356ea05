/- A layer over the walk, contracts of functions, and plain laws: parts of the proof in YtbeaahjinehpbaaProof. -/
import Derived.KernelRfl
import Derived.Laws.Tables
import Derived.IntWalk
import Derived.Test.YtbeaahjinehpbaaAx
set_option linter.all false
namespace Go.Proofs.Lite
open Go
/-- An operation of a region that draws its order: its number, what must come before it, and the loads that stand before it in the plan but may come after it. -/
structure PE where
  i : Nat
  o : LO
  bef : List Nat
  ws : List Nat
  deriving Inhabited
def findPE (all : List PE) (i : Nat) : Option PE := all.find? fun p => p.i == i
/-- A load that might come later gives the same. -/
def wok1 (all : List PE) (T : List AV) (H : Heap) (i : Nat) : Prop :=
  match findPE all i with
  | some p => (nop p.o T H).1 ∧ ∀ d, p.o.dst = some d → d < T.length → (nop p.o T H).2 = T.getD d .junk
  | none => True
def wok (all : List PE) (T : List AV) (H : Heap) : List Nat → Prop
  | [] => True
  | i :: r => wok1 all T H i ∧ wok all T H r
theorem wok_get {all : List PE} {T : List AV} {H : Heap} : ∀ {ws : List Nat}, wok all T H ws → ∀ i ∈ ws, wok1 all T H i
  | i :: r, h, j, hj => by
    simp only [wok] at h
    rcases List.mem_cons.1 hj with rfl | hj
    · exact h.1
    · exact wok_get h.2 j hj
  | [], _, _, hj => by simp at hj
theorem wok_of {all : List PE} {T : List AV} {H : Heap} : ∀ {ws : List Nat}, (∀ i ∈ ws, wok1 all T H i) → wok all T H ws
  | [], _ => trivial
  | i :: r, h => ⟨h i (by simp), wok_of fun j hj => h j (by simp [hj])⟩
def planOk (P : Program) (base : Nat) (all : List PE) (K : List AV → Heap → Prop) : List PE → List AV → Heap → Prop
  | [], T, H => K T H
  | p :: r, T, H => aop P base p.o T H (fun T' H' => wok all T' H' p.ws ∧ planOk P base all K r T' H')
def noD (d : Option Nat) (L : List Nat) : Bool := match d with
  | none => true
  | some d => !L.contains d
theorem noD_spec {d : Option Nat} {L : List Nat} (h : noD d L = true) : ∀ t ∈ L, d ≠ some t := by
  intro t ht e; subst e
  simp [noD] at h
  exact h ht
def neD : Option Nat → Option Nat → Bool
  | some a, some b => a != b
  | _, _ => true
theorem neD_spec {a b : Option Nat} (h : neD a b = true) : ∀ t, a = some t → b ≠ some t := by
  intro t e e'; subst e e'; simp [neD] at h
/-- A writing beside a watched load. -/
def wOk (all : List PE) (d : Option Nat) (i : Nat) : Bool :=
  match findPE all i with
  | some p => noD d (looks p.o) && neD d p.o.dst
  | none => true
def isAll (o : LO) : Bool := match o.g, o.op with
  | none, .allocAt .. => true
  | none, .bslAt _ _ _ _ [] => true
  | _, _ => false
theorem isAll_one {T : List AV} {o : LO} (h : isAll o = true) : (cellsR T o).1 := by
  obtain ⟨d, g, op⟩ := o
  cases g with
  | some q => cases op <;> simp [isAll] at h
  | none =>
    cases op with
    | allocAt r z => trivial
    | bslAt r z len zero ps =>
      cases ps with
      | nil => trivial
      | cons p ps => simp [isAll] at h
    | _ => simp [isAll] at h
/-- Two operations of which the first stands first in the plan and neither need come first. -/
def pairOk (all : List PE) (x y : PE) : Bool :=
  noD x.o.dst (looks y.o) && noD y.o.dst (looks x.o) && neD x.o.dst y.o.dst && noD x.o.dst (looks x.o) &&
  ((cN x.o && x.ws.isEmpty && (cN y.o || cR y.o || isPure x.o.op || (y.ws.contains x.i && (match findPE all x.i with | some p => p.i == x.i | none => false)))) ||
    (isCS x.o.op && isAll y.o && y.ws.isEmpty && x.ws.all (wOk all y.o.dst)) || (cR x.o && x.ws.isEmpty && cR y.o && y.ws.isEmpty && (slotR x.o != slotR y.o))) &&
  y.ws.all (fun i => i == x.i || wOk all x.o.dst i || (match findPE all i with | some p => p.bef.contains x.i | none => false))
section
variable {P : Program} {base : Nat} {K : List AV → Heap → Prop} {all : List PE}
theorem wok1_put {T : List AV} {H : Heap} {d : Option Nat} {u : AV} {i : Nat} (h : wOk all d i = true) : wok1 all (putA T d u) H i ↔ wok1 all T H i := by
  unfold wok1 wOk at *
  cases hf : findPE all i with
  | none => simp
  | some p =>
    rw [hf] at h
    simp only [Bool.and_eq_true] at h
    have hs : Same (looks p.o) T (putA T d u) := putA_same (noD_spec h.1)
    simp only []
    rw [nop_same hs]
    have hl : (putA T d u).length = T.length := by cases d <;> simp [putA]
    have hd : ∀ e, p.o.dst = some e → (putA T d u).getD e .junk = T.getD e .junk := fun e he => putA_get_ne (fun h2 => neD_spec h.2 e h2 he)
    constructor
    · rintro ⟨h1, h2⟩; exact ⟨h1, fun e he hlt => by rw [← hd e he]; exact h2 e he (by rw [hl]; exact hlt)⟩
    · rintro ⟨h1, h2⟩; exact ⟨h1, fun e he hlt => by rw [hd e he]; exact h2 e he (by rw [← hl]; exact hlt)⟩
theorem wok1_fill {T : List AV} {H : Heap} {r : Nat} {sg : Sg} (hr : H[r]? = some .res) {i : Nat} (hN : ∀ p, findPE all i = some p → cN p.o = true) (h : wok1 all T H i) : wok1 all T (H.set r sg) i := by
  unfold wok1 at *
  cases hf : findPE all i with
  | none => trivial
  | some p =>
    rw [hf] at h
    simp only [] at h ⊢
    rw [nop_fill (by rw [List.getD_eq_getElem?_getD, hr]; trivial) (hN p hf) h.1]
    exact h
/-- The watched ones are such as change nothing. -/
def watchN (all : List PE) : Bool := all.all fun p => p.ws.all fun i => match findPE all i with
  | some q => cN q.o
  | none => true
/-- An operation of the plan comes to the front. -/
theorem front {y : PE} {post : List PE} (hw : ∀ i ∈ y.ws, ∀ p, findPE all i = some p → cN p.o = true) : ∀ (pre anc : List PE) (T : List AV) (H : Heap), (∀ a ∈ anc, findPE all a.i = some a ∧ ∀ x ∈ pre, x.i ∉ a.bef ∧ a.i ≠ x.i) → (∀ x ∈ pre, pairOk all x y = true) → pre.Pairwise (fun x z => z.i ∉ x.bef) →
    (∀ x ∈ pre, findPE all x.i = some x) → (pre.map (·.i)).Nodup → (∀ x ∈ pre, ∀ i ∈ x.ws, ∀ p, findPE all i = some p → cN p.o = true) → (cR y.o = true → H[base + slotR y.o]? = some .res) →
    planOk P base all K (pre ++ y :: post) T H →
    aop P base y.o T H (fun T' H' => (∀ i ∈ y.ws, i ∈ anc.map (·.i) → wok1 all T' H' i) ∧ planOk P base all K (pre ++ post) T' H')
  | [], anc, T, H, _, _, _, _, _, _, _, h => by
    simp only [List.nil_append, planOk] at h ⊢
    exact aop_mono (fun T' H' h' => ⟨fun i hi _ => wok_get h'.1 i hi, h'.2⟩) h
  | x :: pre, anc, T, H, hanc, hp, hpb, hf, hn, hxw, hres, h => by
    simp only [List.cons_append, planOk] at h ⊢
    have hpx := hp x (by simp)
    have hfx := hf x (by simp)
    have hn' := List.nodup_cons.1 (by simpa only [List.map_cons] using hn)
    have IH := fun T H => front (post := post) hw pre (x :: anc) T H (fun a ha => by
      rcases List.mem_cons.1 ha with rfl | ha
      · exact ⟨hfx, fun z hz => ⟨(List.pairwise_cons.1 hpb).1 z hz, fun e => hn'.1 (List.mem_map.2 ⟨z, hz, e.symm⟩)⟩⟩
      · exact ⟨(hanc a ha).1, fun z hz => (hanc a ha).2 z (by simp [hz])⟩) (fun z hz => hp z (by simp [hz])) (List.pairwise_cons.1 hpb).2 (fun z hz => hf z (by simp [hz])) (by simp only [List.map_cons, List.nodup_cons] at hn; exact hn.2) (fun z hz => hxw z (by simp [hz]))
    simp only [pairOk, Bool.and_eq_true, Bool.or_eq_true] at hpx
    obtain ⟨⟨⟨⟨⟨a1, a2⟩, a3⟩, a4⟩, a5⟩, a6⟩ := hpx
    have b1 := noD_spec a1
    have b2 := noD_spec a2
    have b3 := neD_spec a3
    have b4 := noD_spec a4
    have a6' : ∀ i ∈ y.ws, i ∈ anc.map (·.i) → wOk all x.o.dst i = true := by
      intro i hi hia
      obtain ⟨a, ha, rfl⟩ := List.mem_map.1 hia
      obtain ⟨h1, h2⟩ := hanc a ha
      obtain ⟨h3, h4⟩ := h2 x (by simp)
      have := List.all_eq_true.1 a6 a.i hi
      simpa [h1, h3, h4] using this
    have b3' : ∀ t, y.o.dst = some t → x.o.dst ≠ some t := fun t h1 h2 => b3 t h2 h1
    rcases a5 with (⟨⟨c1, c2⟩, c3⟩ | ⟨⟨⟨c1, c2⟩, c3⟩, c4⟩) | ⟨⟨⟨⟨c1, c2⟩, c3⟩, c4⟩, c5⟩
    · -- x changes nothing
      have hws : x.ws = [] := by simpa using c2
      rw [aopN c1] at h
      obtain ⟨h1, _, h2⟩ := h
      have h3 := IH _ _ hres h2
      rw [aop_put b1 b3] at h3
      generalize hu : (nop x.o T H).2 = u at h3 h2
      -- what is left to show after y
      have fin : ∀ T' H', (nop x.o T' H').1 ∧ (∀ d, x.o.dst = some d → d < T'.length → (nop x.o T' H').2 = u) →
          ((∀ i ∈ y.ws, i ∈ (x :: anc).map (·.i) → wok1 all (putA T' x.o.dst u) H' i) ∧ planOk P base all K (pre ++ post) (putA T' x.o.dst u) H') →
          (∀ i ∈ y.ws, i ∈ anc.map (·.i) → wok1 all T' H' i) ∧ aop P base x.o T' H' (fun T' H' => wok all T' H' x.ws ∧ planOk P base all K (pre ++ post) T' H') := by
        rintro T' H' ⟨g1, g2⟩ ⟨g3, g4⟩
        refine ⟨fun i hi hni => ?_, ?_⟩
        · exact (wok1_put (a6' i hi hni)).1 (g3 i hi (by simp only [List.map_cons, List.mem_cons]; exact .inr hni))
        · rw [aopN c1]
          refine ⟨g1, by rw [hws]; trivial, ?_⟩
          have : putA T' x.o.dst (nop x.o T' H').2 = putA T' x.o.dst u := by
            cases hd : x.o.dst with
            | none => rfl
            | some d =>
              by_cases hlt : d < T'.length
              · rw [g2 d hd hlt]
              · simp only [putA]
                rw [List.set_eq_of_length_le (by omega), List.set_eq_of_length_le (by omega)]
          rw [this]; exact g4
      rcases c3 with ((c3 | c3) | c3) | ⟨c3, _⟩
      · -- y changes nothing
        rw [aopN c3] at h3 ⊢
        refine ⟨h3.1, fin _ _ ?_ h3.2⟩
        rw [nop_same (putA_same b2), hu]
        exact ⟨h1, fun _ _ _ => rfl⟩
      · -- y makes memory
        rw [aopR c3] at h3 ⊢
        refine ⟨h3.1, h3.2.1, fin _ _ ?_ h3.2.2⟩
        rw [nop_same (putA_same b2), nop_fill (by rw [List.getD_eq_getElem?_getD, h3.2.1]; trivial) c1 h1, hu]
        exact ⟨h1, fun _ _ _ => rfl⟩
      · -- x is pure
        refine aop_mono (fun T' H' ⟨⟨v, hv⟩, h4⟩ => fin T' H' ?_ h4) (aop_shape h3)
        rw [hv, nop_same (putA_same b2)]
        have : nop x.o T H' = nop x.o T H := by unfold nop prlr; simp only [c3, if_true]
        rw [this, hu]
        exact ⟨h1, fun _ _ _ => rfl⟩
      · -- x is watched
        have hxy : x.i ∈ y.ws := by simpa using c3
        have hxn : x.i ∉ pre.map (·.i) := by simp only [List.map_cons, List.nodup_cons] at hn; exact hn.1
        refine aop_mono (fun T' H' ⟨⟨v, hv⟩, h4⟩ => fin T' H' ?_ h4) (aop_shape h3)
        have h5 := h4.1 x.i hxy (by simp)
        unfold wok1 at h5
        rw [hfx] at h5
        simp only [] at h5
        rw [nop_same (putA_same b4)] at h5
        refine ⟨h5.1, fun d hd hlt => ?_⟩
        have h6 := h5.2 d hd (by rw [hd]; simpa [putA] using hlt)
        rw [h6, hd]
        simp [putA, List.getD_eq_getElem?_getD, hlt]
    · -- x is a call or a store; y makes memory
      have hR : cR y.o = true := by
        revert c2; unfold isAll cR; obtain ⟨d, g, op⟩ := y.o; cases g <;> cases op <;> simp
      have hone : (cellsR T y.o).1 := by
        exact isAll_one c2
      have hyw : y.ws = [] := by simpa using c3
      have hr := hres hR
      rw [aopR hR]
      refine ⟨hone, hr, by rw [hyw]; simp, ?_⟩
      rw [aop_put b2 b3']
      refine aop_mono ?_ (aop_shape (aop_fill (sg := .c (cellsR T y.o).2) hr c1 h))
      rintro T' H' ⟨⟨v, hv⟩, H0, hr0, rfl, hwok, hplan⟩
      have h3 := IH T' H0 (fun _ => hr0) hplan
      rw [aopR hR] at h3
      obtain ⟨_, _, _, h4⟩ := h3
      have hcs : cellsR T' y.o = cellsR T y.o := by rw [hv]; exact cellsR_same (putA_same b1)
      rw [hcs] at h4
      refine ⟨wok_of fun i hi => ?_, h4⟩
      rw [wok1_put (List.all_eq_true.1 c4 i hi)]
      exact wok1_fill hr0 (hxw x (by simp) i hi) (wok_get hwok i hi)
    · -- both make memory
      have hyw : y.ws = [] := by simpa using c4
      have hxws : x.ws = [] := by simpa using c2
      have hne : base + slotR x.o ≠ base + slotR y.o := by
        have : slotR x.o ≠ slotR y.o := by simpa using c5
        omega
      have hr := hres c3
      rw [aopR c1] at h
      obtain ⟨g1, g2, _, g3⟩ := h
      have h3 := IH _ _ (fun _ => by rw [List.getElem?_set_ne hne]; exact hr) g3
      rw [aop_put b1 b3, aopR c3] at h3
      obtain ⟨h4, _, _, h5⟩ := h3
      rw [aopR c3]
      refine ⟨h4, hr, by rw [hyw]; simp, ?_⟩
      rw [aopR c1, cellsR_same (putA_same b2)]
      refine ⟨g1, by rw [List.getElem?_set_ne (Ne.symm hne)]; exact g2, by rw [hxws]; trivial, ?_⟩
      rw [List.set_comm _ _ (Ne.symm hne)]
      exact h5
end
end Go.Proofs.Lite

namespace Go.Proofs.Lite
open Go
section
variable {P : Program} {base : Nat}
theorem CallStep.res {f : FuncId} {args : List AV} {H : Heap} {K : AV → Heap → Prop} {r : Nat} (hr : H[r]? = some .res) (h : CallStep P f args H K) :
    CallStep P f args H (fun v H' => H'[r]? = some .res ∧ K v H') := by
  obtain ⟨e, bs, argsc, Hc, R, h1, h2, h3, h4, h5, h6, h7⟩ := h
  have hlt : r < H.length := (List.getElem?_eq_some_iff.1 hr).1
  have hne : r ∉ e.map (·.1) := by
    intro hm
    obtain ⟨⟨i, o⟩, hq, hi⟩ := List.mem_map.1 hm
    obtain ⟨k, hk⟩ := List.getElem?_of_mem hq
    obtain ⟨_, cs, seg, _, h8, _⟩ := (embOk_get h3).2 k i o hk
    simp only [] at hi
    subst hi
    exact res_ne hr h8 rfl
  refine ⟨e, bs, argsc, Hc, R, h1, h2, h3, h4, h5, h6, fun v Hc' hR => ⟨(h7 v Hc' hR).1, ?_, (h7 v Hc' hR).2⟩⟩
  rw [back_lt hlt, backs_get_ne hne]; exact hr
theorem res_snoc {H : Heap} {r : Nat} (hr : H[r]? = some .res) (l : Heap) : (H ++ l)[r]? = some .res := by
  rw [List.getElem?_append_left (List.getElem?_eq_some_iff.1 hr).1]; exact hr
theorem astep_res {T : List AV} {H : Heap} {K : AV → Heap → Prop} {lop : LOp} {r : Nat} (hr : H[r]? = some .res) (h1 : ∀ k z, lop = .allocAt k z → base + k ≠ r) (h2 : ∀ k x, lop = .boxAt k x → base + k ≠ r) (h3 : ∀ k z len zero ps, lop = .bslAt k z len zero ps → base + k ≠ r)
    (h : astep P base T H K lop) : astep P base T H (fun v H' => H'[r]? = some .res ∧ K v H') lop := by
  cases lop
  case call f xs => exact CallStep.res hr h
  case callv x xs =>
    simp only [astep] at h ⊢
    split at h
    · exact ⟨h.1, h.2.res hr⟩
    · exact h.elim
  case alloc z => exact ⟨h.1, res_snoc hr _, h.2⟩
  case box z => exact ⟨h.1, res_snoc hr _, h.2⟩
  case bsl => exact ⟨h.1, res_snoc hr _, h.2⟩
  case msl => exact ⟨h.1, res_snoc hr _, h.2⟩
  case allocAt k z => exact ⟨h.1, by simp only [er]; rw [List.getElem?_set_ne (h1 k z rfl)]; exact hr, h.2⟩
  case bslAt k z len zero ps => exact ⟨h.1, by simp only [er]; rw [List.getElem?_set_ne (h3 k z len zero ps rfl)]; exact hr, h.2⟩
  case boxAt k z => exact ⟨h.1, by simp only [er]; rw [List.getElem?_set_ne (h2 k z rfl)]; exact hr, h.2⟩
  case store n x v =>
    refine ⟨h.1, ?_, h.2⟩
    have h' := h.1
    simp only [er] at h' ⊢
    split at h'
    · rename_i i o he
      split at h'
      · rename_i cs hcs
        simp only []
        rw [List.getElem?_set_ne (Ne.symm (res_ne hr (getD_c hcs)))]; exact hr
      · exact h'.elim
    · exact h'.elim
  case cpy z d s =>
    refine ⟨h.1, ?_, h.2⟩
    have h' := h.1
    simp only [er] at h' ⊢
    split at h'
    · rename_i i o he
      split at h'
      · rename_i cs hcs
        simp only []
        rw [List.getElem?_set_ne (Ne.symm (res_ne hr (getD_c hcs)))]; exact hr
      · exact h'.elim
    · exact h'.elim
  case app z b s x =>
    refine ⟨h.1, ?_, h.2⟩
    have h' := h.1
    simp only [er] at h' ⊢
    split at h'
    · exact res_snoc hr _
    · split at h'
      · rename_i cs hcs
        simp only []
        refine res_snoc ?_ _
        rw [List.getElem?_set_ne (Ne.symm (res_ne hr (getD_c hcs)))]; exact hr
      · exact h'.elim
    · exact h'.elim
  all_goals exact ⟨h.1, hr, h.2⟩
theorem aop_res {T : List AV} {H : Heap} {K : List AV → Heap → Prop} {x : LO} {r : Nat} (hr : H[r]? = some .res) (h1 : ∀ k z, x.op = .allocAt k z → base + k ≠ r) (h2 : ∀ k y, x.op = .boxAt k y → base + k ≠ r) (h3 : ∀ k z len zero ps, x.op = .bslAt k z len zero ps → base + k ≠ r)
    (h : aop P base x T H K) : aop P base x T H (fun T' H' => H'[r]? = some .res ∧ K T' H') := by
  unfold aop at h ⊢
  split
  · rename_i hg; rw [hg] at h; exact astep_res hr h1 h2 h3 h
  · rename_i t want hg
    rw [hg] at h; simp only [] at h
    split
    · rename_i b hb
      rw [hb] at h
      exact ⟨fun e => astep_res hr h1 h2 h3 (h.1 e), fun e => ⟨hr, h.2 e⟩⟩
    · rename_i b hb
      rw [hb] at h
      exact ⟨hr, h⟩
    · rename_i hne hne2
      split at h
      · rename_i b hb; exact (hne b hb).elim
      · rename_i b hb; exact (hne2 b hb).elim
      · exact h
def isAt : LOp → Bool
  | .allocAt .. | .boxAt .. | .bslAt .. => true
  | _ => false
def dirs (ops : Array Oper) (i : Nat) : List Nat := match ops[i]? with
  | some o => (o.after.toList.filter fun e => Region.binds .any e).map (·.on)
  | none => []
def pairsOk (ops : Array Oper) (all : List PE) : List PE → Bool
  | [] => true
  | x :: r => r.all (fun y => (y.bef.contains x.i || pairOk all x y) && !(x.bef.contains y.i) && !((dirs ops x.i).contains y.i) && !(x.i == y.i) && !(cR x.o && cR y.o && slotR x.o == slotR y.o)) && !((dirs ops x.i).contains x.i) && pairsOk ops all r
/-- What is looked at beforehand. -/
def planChk (ops : Array Oper) (plan : List PE) : Bool :=
  pairsOk ops plan plan && watchN plan && (List.range ops.size).all (fun i => plan.any fun p => p.i == i) &&
  plan.all (fun p => p.bef.all (fun b => (dirs ops p.i).contains b || plan.any (fun q => (dirs ops p.i).contains q.i && q.bef.contains b))) &&
  plan.all (fun p => !(isAt p.o.op) || cR p.o) && plan.all (fun p => (dirs ops p.i).all fun e => decide (e < ops.size))
theorem pairsOk_spec {ops : Array Oper} {all : List PE} : ∀ {l : List PE}, pairsOk ops all l = true → l.Pairwise (fun x y => (x.i ∈ y.bef ∨ pairOk all x y = true) ∧ y.i ∉ dirs ops x.i ∧ x.i ≠ y.i ∧ y.i ∉ x.bef ∧ (cR x.o = true → cR y.o = true → slotR x.o ≠ slotR y.o)) ∧ ∀ x ∈ l, x.i ∉ dirs ops x.i
  | [], _ => ⟨.nil, fun _ h => by simp at h⟩
  | x :: r, h => by
    simp only [pairsOk, Bool.and_eq_true, List.all_eq_true] at h
    obtain ⟨⟨h1, h2⟩, h3⟩ := h
    obtain ⟨h4, h5⟩ := pairsOk_spec h3
    refine ⟨List.Pairwise.cons (fun y hy => ?_) h4, fun z hz => ?_⟩
    · have := h1 y hy
      simp only [Bool.or_eq_true, Bool.not_eq_true', List.contains_iff_mem] at this
      obtain ⟨⟨⟨⟨g1, g0⟩, g2⟩, g3⟩, g4⟩ := this
      refine ⟨g1, by simpa using g2, by simpa using g3, by simpa using g0, fun c1 c2 => by simpa [c1, c2] using g4⟩
    · rcases List.mem_cons.1 hz with rfl | hz
      · simpa using h2
      · exact h5 z hz
theorem findPE_mem {l : List PE} {x : PE} (h : x ∈ l) (hp : l.Pairwise (fun x y : PE => x.i ≠ y.i)) : findPE l x.i = some x := by
  induction l with
  | nil => cases h
  | cons y l ih =>
    rw [List.pairwise_cons] at hp
    unfold findPE at ih ⊢
    rcases List.mem_cons.1 h with h | h
    · subst h; rw [List.find?_cons_of_pos (by simp)]
    · rw [List.find?_cons_of_neg (by simpa using hp.1 x h)]
      exact ih h hp.2
theorem aop_res_all {T : List AV} {H : Heap} {x : LO} : ∀ (rs : List Nat) {K : List AV → Heap → Prop}, (∀ r ∈ rs, H[r]? = some .res ∧ (∀ k z, x.op = .allocAt k z → base + k ≠ r) ∧ (∀ k y, x.op = .boxAt k y → base + k ≠ r) ∧ (∀ k z len zero ps, x.op = .bslAt k z len zero ps → base + k ≠ r)) →
    aop P base x T H K → aop P base x T H (fun T' H' => (∀ r ∈ rs, H'[r]? = some .res) ∧ K T' H')
  | [], K, _, h => aop_mono (fun T' H' h' => ⟨fun _ hr => by simp at hr, h'⟩) h
  | r :: rs, K, hr, h => by
    obtain ⟨g1, g2, g3, g4⟩ := hr r (by simp)
    refine aop_mono ?_ (aop_res g1 g2 g3 g4 (aop_res_all rs (fun q hq => hr q (by simp [hq])) h))
    rintro T' H' ⟨h1, h2, h3⟩
    refine ⟨fun q hq => ?_, h3⟩
    rcases List.mem_cons.1 hq with rfl | hq
    · exact h1
    · exact h2 q hq
section
variable {cx : Cx} {ops : Array Oper} {plan : List PE} {Q : Exit → Act → World → Prop} {K : List AV → Heap → Prop}
theorem plan_sound (hck : planChk ops plan = true) (hstrip : ∀ p ∈ plan, StripAt P ops p.i p.o) (hK : Next cx K (Q .normal)) :
    ∀ (n : Nat) (rem : List PE) (listed : Array Bool), rem.Sublist plan → rem.length ≤ n → (∀ i < ops.size, (listed.getD i true = false ↔ i ∈ rem.map PE.i) ∧ (listed.getD i false = true ↔ i ∉ rem.map PE.i)) →
      listed.size = ops.size →
      (∀ p ∈ plan, p.i ∉ rem.map PE.i → ∀ b ∈ p.bef, b ∉ rem.map PE.i) →
      ∀ (D : Store) (ρ : Env) (T : List AV) (H : Heap) (w : World) (vs : List Value), BInv cx D ρ H w → RepL D ρ T vs → (∀ y ∈ rem, cR y.o = true → H[base + slotR y.o]? = some .res) →
      planOk P base plan K rem T H → wpAny P .any ops Q n listed ⟨vs.toArray, []⟩ w := by
  simp only [planChk, Bool.and_eq_true] at hck
  obtain ⟨⟨⟨⟨⟨k1, k2⟩, k3⟩, k4⟩, k5⟩, k6⟩ := hck
  obtain ⟨k1, k1'⟩ := pairsOk_spec k1
  have hnd : plan.Pairwise (fun x y : PE => x.i ≠ y.i) := k1.imp fun h => h.2.2.1
  have hsize : ∀ p ∈ plan, p.i < ops.size := by
    intro p hp
    obtain ⟨oi, h, _⟩ := hstrip p hp
    exact (Array.getElem?_eq_some_iff.1 h).1
  have hwN : ∀ p ∈ plan, ∀ i ∈ p.ws, ∀ q, findPE plan i = some q → cN q.o = true := by
    intro p hp i hi q hq
    have := List.all_eq_true.1 (List.all_eq_true.1 k2 p hp) i hi
    rw [hq] at this; exact this
  -- a first that is ready
  have ready0 : ∀ {rem : List PE} {listed : Array Bool}, rem.Sublist plan → (∀ i < ops.size, (listed.getD i true = false ↔ i ∈ rem.map PE.i) ∧ (listed.getD i false = true ↔ i ∉ rem.map PE.i)) → listed.size = ops.size →
      Region.ready .any ops listed = [] → rem = [] := by
    intro rem listed hsub hl hls hr
    have hd : ∀ p ∈ plan, ∀ e ∈ dirs ops p.i, e < ops.size := fun p hp e he => by simpa using List.all_eq_true.1 (List.all_eq_true.1 k6 p hp) e he
    cases rem with
    | nil => rfl
    | cons x rest =>
      exfalso
      have hx : x ∈ plan := hsub.subset (by simp)
      obtain ⟨oi, ho, _⟩ := hstrip x hx
      have : x.i ∈ Region.ready .any ops listed := by
        rw [mem_ready]
        refine ⟨(hl x.i (hsize x hx)).1.2 (by simp), oi, ho, fun e he hbnd => ?_⟩
        have hdir : e.on ∈ dirs ops x.i := by
          unfold dirs; rw [ho]
          exact List.mem_map.2 ⟨e, List.mem_filter.2 ⟨by simpa using he, hbnd⟩, rfl⟩
        refine (hl e.on (hd x hx _ hdir)).2.2 ?_
        intro hm
        obtain ⟨y, hy, hyi⟩ := List.mem_map.1 hm
        rw [← hyi] at hdir
        rcases List.mem_cons.1 hy with rfl | hy
        · exact k1' _ hx hdir
        · have := k1.sublist hsub
          rw [List.pairwise_cons] at this
          exact (this.1 y hy).2.1 hdir
      rw [hr] at this; cases this
  intro n
  induction n with
  | zero =>
    intro rem listed hsub hlen hl hls hinv D ρ T H w vs hb hT hres h
    have : rem = [] := List.eq_nil_of_length_eq_zero (by omega)
    subst this
    refine ⟨?_, hK _ _ _ _ _ _ h hb hT⟩
    rw [List.eq_nil_iff_forall_not_mem]
    intro i hi
    obtain ⟨h0, o, ho, _⟩ := mem_ready.1 hi
    have := (hl i (Array.getElem?_eq_some_iff.1 ho).1).1.1 h0
    simp at this
  | succ n ih =>
    intro rem listed hsub hlen hl hls hinv D ρ T H w vs hb hT hres h
    refine ⟨fun hr => ?_, fun i hi => ?_⟩
    · have := ready0 hsub hl hls hr
      subst this
      exact hK _ _ _ _ _ _ h hb hT
    · obtain ⟨h0, oi, ho, hall⟩ := mem_ready.1 hi
      have hisz : i < ops.size := (Array.getElem?_eq_some_iff.1 ho).1
      obtain ⟨y, hy, hyi⟩ := List.mem_map.1 ((hl i hisz).1.1 h0)
      subst hyi
      have hyp : y ∈ plan := hsub.subset hy
      have hpw := k1.sublist hsub
      -- what must come before y has come
      have hbef : ∀ b ∈ y.bef, b ∉ rem.map PE.i := by
        intro b hbb
        have hdirs : ∀ d ∈ dirs ops y.i, d ∉ rem.map PE.i := by
          intro d hd
          unfold dirs at hd
          rw [ho] at hd
          obtain ⟨e, he, rfl⟩ := List.mem_map.1 hd
          have he := List.mem_filter.1 he
          have hdl : e.on < ops.size := by simpa using List.all_eq_true.1 (List.all_eq_true.1 k6 y hyp) e.on (by unfold dirs; rw [ho]; exact hd)
          exact (hl e.on hdl).2.1 (hall e (by simpa using he.1) he.2)
        have := List.all_eq_true.1 (List.all_eq_true.1 k4 y hyp) b hbb
        simp only [Bool.or_eq_true, List.contains_iff_mem, List.any_eq_true, Bool.and_eq_true] at this
        rcases this with h1 | ⟨q, hq, h1, h2⟩
        · exact hdirs b h1
        · exact hinv q hq (hdirs q.i h1) b h2
      obtain ⟨pre, post, rfl⟩ := List.append_of_mem hy
      have hpairs := List.pairwise_append.1 hpw
      have hyz := List.pairwise_cons.1 hpairs.2.1
      have hsub' : (pre ++ post).Sublist (pre ++ y :: post) := List.Sublist.append (List.Sublist.refl _) (List.sublist_cons_self _ _)
      have hfront := front (P := P) (base := base) (K := K) (all := plan) (post := post) (hwN y hyp) pre [] T H (fun a ha => by cases ha)
        (fun x hx => by
          have := (hpairs.2.2 x hx y (by simp)).1
          rcases this with h1 | h1
          · exact (hbef _ h1 (List.mem_map.2 ⟨x, by simp [hx], rfl⟩)).elim
          · exact h1)
        (hpairs.1.imp fun h => h.2.2.2.1)
        (fun x hx => findPE_mem (hsub.subset (by simp [hx])) hnd)
        (by
          have : pre.Pairwise (fun x y : PE => x.i ≠ y.i) := hpairs.1.imp fun h => h.2.2.1
          rw [List.Nodup, List.pairwise_map]; exact this)
        (fun x hx => hwN x (hsub.subset (by simp [hx])))
        (hres y (by simp)) h
      have hslot : ∀ z ∈ pre ++ post, cR z.o = true → cR y.o = true → slotR y.o ≠ slotR z.o := by
        intro z hz c1 c2
        rcases List.mem_append.1 hz with hz | hz
        · exact Ne.symm ((hpairs.2.2 z hz y (by simp)).2.2.2.2 c1 c2)
        · exact (hyz.1 z hz).2.2.2.2 c2 c1
      have hres' := aop_res_all (P := P) (base := base) (((pre ++ post).filter fun z => cR z.o).map fun z => base + slotR z.o) (x := y.o) (by
        intro r hr
        obtain ⟨z, hz, rfl⟩ := List.mem_map.1 hr
        obtain ⟨hz, hzR⟩ := List.mem_filter.1 hz
        have hcy : isAt y.o.op = true → cR y.o = true := fun h => by
          have := List.all_eq_true.1 k5 y hyp
          simpa [h] using this
        refine ⟨hres z (hsub'.subset hz) hzR, fun k c he => ?_, fun k c he => ?_, fun k q1 q2 q3 q4 he => ?_⟩
        · have := hslot z hz hzR (hcy (by rw [he]; rfl))
          unfold slotR at this
          rw [he] at this
          simp only [] at this
          unfold slotR
          omega
        · have := hslot z hz hzR (hcy (by rw [he]; rfl))
          unfold slotR at this
          rw [he] at this
          simp only [] at this
          unfold slotR
          omega
        · have := hslot z hz hzR (hcy (by rw [he]; rfl))
          unfold slotR at this
          rw [he] at this
          simp only [] at this
          unfold slotR
          omega) hfront
      refine aop_sound (hstrip y hyp) hb hT hres' ?_
      rintro T' H' D' ρ' vs' w' ⟨hr', _, hplan⟩ hb' hT'
      have hnd' : y.i ∉ (pre ++ post).map PE.i := by
        intro hm
        obtain ⟨z, hz, hzi⟩ := List.mem_map.1 hm
        rcases List.mem_append.1 hz with hz | hz
        · exact (hpairs.2.2 z hz y (by simp)).2.2.1 hzi
        · exact (hyz.1 z hz).2.2.1 hzi.symm
      have hmem : ∀ j, j ≠ y.i → (j ∈ (pre ++ post).map PE.i ↔ j ∈ (pre ++ y :: post).map PE.i) := by
        intro j hj
        simp only [List.map_append, List.map_cons, List.mem_append, List.mem_cons]
        constructor
        · rintro (h | h)
          · exact .inl h
          · exact .inr (.inr h)
        · rintro (h | h | h)
          · exact .inl h
          · exact (hj h).elim
          · exact .inr h
      refine ih (pre ++ post) (listed.setIfInBounds y.i true) (hsub'.trans hsub) ?_ ?_ (by simpa using hls) ?_ D' ρ' T' H' w' vs' hb' hT' ?_ hplan
      · simp only [List.length_append, List.length_cons] at hlen ⊢; omega
      · intro j hj
        by_cases hji : j = y.i
        · subst hji
          have hlt : y.i < listed.size := by omega
          constructor
          · constructor
            · intro h; simp [hlt] at h
            · intro h; exact (hnd' h).elim
          · constructor
            · intro _; exact hnd'
            · intro _; simp [hlt]
        · rw [getD_set_ne true (Ne.symm hji), getD_set_ne false (Ne.symm hji), hmem j hji]
          exact hl j hj
      · intro p hp hpn b hbb hm
        have hbm : b ∈ (pre ++ y :: post).map PE.i := by
          obtain ⟨z, hz, hzi⟩ := List.mem_map.1 hm
          exact List.mem_map.2 ⟨z, hsub'.subset hz, hzi⟩
        by_cases hpi : p.i = y.i
        · have h1 := findPE_mem hp hnd
          have h2 := findPE_mem hyp hnd
          rw [hpi, h2] at h1
          injection h1 with h1
          subst h1
          exact hbef b hbb hbm
        · exact hinv p hp (fun h => hpn ((hmem _ hpi).2 h)) b hbb hbm
      · intro z hz hzR
        exact hr' _ (List.mem_map.2 ⟨z, List.mem_filter.2 ⟨hz, hzR⟩, rfl⟩)
end
end
end Go.Proofs.Lite

namespace Go.Proofs.Lite
open Go
inductive LC where
  | skip
  | reg (ops : List LO)
  | dreg (nres : Nat) (plan : List PE)
  | seq (a b : LC)
  | cond (c : Operand) (a b : LC)
  | block (id : Nat) (body : LC)
  | loop (body : LC)
  | exit (id : Nat)
  | ret
  deriving Inhabited
def mapO {α β : Type} (f : α → Option β) : List α → Option (List β)
  | [] => some []
  | x :: r => match f x with
    | some y => match mapO f r with
      | some ys => some (y :: ys)
      | none => none
    | none => none
theorem mapO_mem {α β : Type} {f : α → Option β} : ∀ {l : List α} {ys : List β}, mapO f l = some ys → ∀ y ∈ ys, ∃ x ∈ l, f x = some y
  | [], ys, h, y, hy => by simp [mapO] at h; subst h; cases hy
  | x :: r, ys, h, y, hy => by
    simp only [mapO] at h
    split at h
    · rename_i z hz
      split at h
      · rename_i zs hzs
        injection h with h; subst h
        rcases List.mem_cons.1 hy with rfl | hy
        · exact ⟨x, by simp, hz⟩
        · obtain ⟨x', hx', h'⟩ := mapO_mem hzs y hy; exact ⟨x', by simp [hx'], h'⟩
      · cases h
    · cases h
def stripAt (P : Program) (ops : Array Oper) (i : Nat) : Option LO :=
  match ops[i]? with
  | none => none
  | some o => match stripOp P o.op with
    | none => none
    | some lop => match o.guard with
      | none => some ⟨o.dst, none, lop⟩
      | some (j, want) => match (ops[j]?).bind (·.dst) with
        | some t => some ⟨o.dst, some (t, want), lop⟩
        | none => none
def stripPair (P : Program) (ops : Array Oper) (i : Nat) : Option (Nat × LO) := match stripAt P ops i with
  | some o => some (i, o)
  | none => none
def stripReg (P : Program) (ops : Array Oper) : Option (List (Nat × LO)) := mapO (stripPair P ops) (List.range ops.size)
def isAB : LO → Bool
  | ⟨_, none, .alloc _⟩ | ⟨_, none, .box _⟩ | ⟨_, none, .bsl _ _ _ _⟩ => true
  | _ => false
def atOp (k : Nat) : LO → LO
  | ⟨d, none, .alloc z⟩ => ⟨d, none, .allocAt k z⟩
  | ⟨d, none, .box x⟩ => ⟨d, none, .boxAt k x⟩
  | ⟨d, none, .bsl z len zero ps⟩ => ⟨d, none, .bslAt k z len zero ps⟩
  | o => o
def befs (ops : Array Oper) : List (List Nat) :=
  (List.range ops.size).foldl (fun acc i => acc ++ [((dirs ops i) ++ (dirs ops i).flatMap fun j => acc.getD j []).eraseDups]) []
/-- The plan: what changes nothing first, then what changes something, allocations last. -/
def orderOf (los : List LO) (bef : List (List Nat)) : Nat → List Nat → List Nat → List Nat
  | 0, done, _ => done.reverse
  | n + 1, done, todo =>
    let rdy := todo.filter fun i => (bef.getD i []).all done.contains
    match rdy.find? (fun i => cN (los.getD i default)) with
    | some i => orderOf los bef n (i :: done) (todo.filter (· != i))
    | none => match rdy.find? (fun i => !isAB (los.getD i default)) with
      | some i => orderOf los bef n (i :: done) (todo.filter (· != i))
      | none => match rdy with
        | i :: _ => orderOf los bef n (i :: done) (todo.filter (· != i))
        | [] => done.reverse
def mkPE (los : List LO) (bef : List (List Nat)) (order : List Nat) (i : Nat) (o : LO) : PE :=
  ⟨i, atOp ((los.take i).filter isAB).length o, bef.getD i [],
    if cN o || isAB o then [] else (order.takeWhile (· != i)).filter fun j => isLr (los.getD j default).op && !(bef.getD i []).contains j⟩
def stripPE (P : Program) (ops : Array Oper) (los : List LO) (bef : List (List Nat)) (order : List Nat) (i : Nat) : Option PE := match stripAt P ops i with
  | some o => some (mkPE los bef order i o)
  | none => none
def stripPlan (P : Program) (ops : Array Oper) : Option LC :=
  match mapO (stripAt P ops) (List.range ops.size) with
  | none => none
  | some los =>
    let bef := befs ops
    let order := orderOf los bef ops.size [] (List.range ops.size)
    match mapO (stripPE P ops los bef order) order with
    | none => none
    | some plan => if planChk ops plan && (plan.length == ops.size) && plan.all (fun p => !cR p.o || decide (slotR p.o < (los.filter isAB).length)) && P.follows .mixedOrders then some (.dreg (los.filter isAB).length plan) else none
def stripC (P : Program) : Code → Option LC
  | .skip => some .skip
  | .region _ ops draw => if draw then stripPlan P ops else match stripReg P ops with
    | some l => some (.reg (l.map (·.2)))
    | none => none
  | .seq a b => match stripC P a with
    | some a' => match stripC P b with
      | some b' => some (.seq a' b')
      | none => none
    | none => none
  | .cond c a b => match stripC P a with
    | some a' => match stripC P b with
      | some b' => some (.cond c a' b')
      | none => none
    | none => none
  | .block id b => match stripC P b with
    | some b' => some (.block id b')
    | none => none
  | .loop b => match stripC P b with
    | some b' => some (.loop b')
    | none => none
  | .exit id => some (.exit id)
  | .ret => some .ret
  | _ => none
inductive AEx where
  | normal
  | exit (id : Nat)
  | ret
abbrev Post := AEx → List AV → Heap → Prop
def conc (cx : Cx) (Q : Post) : Exit → Act → World → Prop := fun e a w =>
  ∃ ae T H D ρ vs, (match ae with | .normal => e = .normal | .exit i => e = .exit i | .ret => e = .ret) ∧ Q ae T H ∧ BInv cx D ρ H w ∧ RepL D ρ T vs ∧ a = ⟨vs.toArray, []⟩
/-- The code, stripped, does as said. -/
def Sound (P : Program) (n0 : Nat) (lc : LC) (Q : Post) (T : List AV) (H : Heap) : Prop :=
  ∀ c, stripC P c = some lc → ∀ cx D ρ w vs, cx.ρ0.length = n0 → BInv cx D ρ H w → RepL D ρ T vs → c.wp P (conc cx Q) ⟨vs.toArray, []⟩ w
/-- What is known may be forgotten. -/
def Wk (n0 : Nat) (T : List AV) (H : Heap) (T' : List AV) (H' : Heap) : Prop :=
  ∀ cx D ρ w vs, cx.ρ0.length = n0 → BInv cx D ρ H w → RepL D ρ T vs → ∃ D' ρ', BInv cx D' ρ' H' w ∧ RepL D' ρ' T' vs
def athen (next : List AV → Heap → Prop) (Q : Post) : Post
  | .normal, T, H => next T H
  | e, T, H => Q e T H
def ablock (id : Nat) (Q : Post) : Post
  | .exit j, T, H => if j = id then Q .normal T H else Q (.exit j) T H
  | e, T, H => Q e T H
def awp (P : Program) (n0 : Nat) : LC → Post → List AV → Heap → Prop
  | .skip, Q, T, H => Q .normal T H
  | .reg ops, Q, T, H => aops P 0 (Q .normal) ops T H
  | .dreg n plan, Q, T, H => planOk P H.length plan (Q .normal) plan T (H ++ List.replicate n .res)
  | .seq a b, Q, T, H => awp P n0 a (athen (awp P n0 b Q) Q) T H
  | .cond c a b, Q, T, H => match ev T c with
    | .raw (.bool t) => (t = true → awp P n0 a Q T H) ∧ (t = false → awp P n0 b Q T H)
    | _ => False
  | .block id b, Q, T, H => awp P n0 b (ablock id Q) T H
  | .loop b, Q, T, H => Sound P n0 (.loop b) Q T H
  | .exit id, Q, T, H => Q (.exit id) T H
  | .ret, Q, T, H => Q .ret T H
section
variable {P : Program} {n0 : Nat} {T : List AV} {H : Heap} {Q : Post}
theorem conc_mono {cx : Cx} {Q Q' : Post} (h : ∀ e T H, Q e T H → Q' e T H) : ∀ e a w, conc cx Q e a w → conc cx Q' e a w := by
  rintro e a w ⟨ae, T, H, D, ρ, vs, h1, h2, h3⟩
  exact ⟨ae, T, H, D, ρ, vs, h1, h _ _ _ h2, h3⟩
theorem Sound.mono {lc : LC} {Q' : Post} (h : Sound P n0 lc Q T H) (hq : ∀ e T H, Q e T H → Q' e T H) : Sound P n0 lc Q' T H :=
  fun c hc cx D ρ w vs h0 hb hT => wp_mono (h c hc cx D ρ w vs h0 hb hT) (conc_mono hq)
theorem Sound.wk {lc : LC} {T' : List AV} {H' : Heap} (hw : Wk n0 T H T' H') (h : Sound P n0 lc Q T' H') : Sound P n0 lc Q T H := by
  intro c hc cx D ρ w vs h0 hb hT
  obtain ⟨D', ρ', hb', hT'⟩ := hw cx D ρ w vs h0 hb hT
  exact h c hc cx D' ρ' w vs h0 hb' hT'
theorem Sound.wkPost {lc : LC} (h : Sound P n0 lc (fun e T H => ∃ T' H', Wk n0 T H T' H' ∧ Q e T' H') T H) : Sound P n0 lc Q T H := by
  intro c hc cx D ρ w vs h0 hb hT
  refine wp_mono (h c hc cx D ρ w vs h0 hb hT) ?_
  rintro e a w ⟨ae, T1, H1, D1, ρ1, vs1, h1, ⟨T2, H2, h2, h3⟩, h4, h5, h6⟩
  obtain ⟨D', ρ', hb', hT'⟩ := h2 cx D1 ρ1 w vs1 h0 h4 h5
  exact ⟨ae, T2, H2, D', ρ', vs1, h1, h3, hb', hT', h6⟩
theorem stripAt_spec {ops : Array Oper} {i : Nat} {o : LO} (h : stripAt P ops i = some o) : (∃ oi, ops[i]? = some oi ∧ stripOp P oi.op = some o.op ∧ oi.dst = o.dst ∧
    ((oi.guard = none ∧ o.g = none) ∨ ∃ j want t, oi.guard = some (j, want) ∧ o.g = some (t, want) ∧ (ops[j]?).bind (·.dst) = some t)) := by
  unfold stripAt at h
  split at h
  · cases h
  · rename_i oi ho
    split at h
    · cases h
    · rename_i lop hs
      split at h
      · rename_i hg
        injection h with h; subst h
        exact ⟨oi, ho, hs, rfl, .inl ⟨hg, rfl⟩⟩
      · rename_i j want hg
        split at h
        · rename_i t ht
          injection h with h; subst h
          exact ⟨oi, ho, hs, rfl, .inr ⟨j, want, t, hg, rfl, ht⟩⟩
        · cases h
/-- No stripped operation stands at a reserved place. -/
theorem strip_unAt {op : Op} {lop : LOp} (h : stripOp P op = some lop) : unAt lop = lop := by
  cases lop with
  | allocAt k z =>
    cases op
    all_goals exact absurd h (by intro hs; simp only [stripOp] at hs; (repeat' (split at hs)) <;> first | contradiction | simp [Option.bind_eq_some_iff, Option.map_eq_some_iff] at hs)
  | bslAt k z len zero ps =>
    cases op
    all_goals exact absurd h (by intro hs; simp only [stripOp] at hs; (repeat' (split at hs)) <;> first | contradiction | simp [Option.bind_eq_some_iff, Option.map_eq_some_iff] at hs)
  | boxAt k x =>
    cases op
    all_goals exact absurd h (by intro hs; simp only [stripOp] at hs; (repeat' (split at hs)) <;> first | contradiction | simp [Option.bind_eq_some_iff, Option.map_eq_some_iff] at hs)
  | _ => rfl
theorem atOp_un {k : Nat} {o : LO} (h : unAt o.op = o.op) : unAt (atOp k o).op = o.op ∧ (atOp k o).dst = o.dst ∧ (atOp k o).g = o.g := by
  obtain ⟨d, g, op⟩ := o
  cases g with
  | some q => cases op <;> exact ⟨h, rfl, rfl⟩
  | none => cases op <;> first | exact ⟨rfl, rfl, rfl⟩ | exact ⟨h, rfl, rfl⟩
theorem mapO_map {α β : Type} {f : α → Option β} {g : β → α} (hg : ∀ x y, f x = some y → g y = x) : ∀ {l : List α} {ys : List β}, mapO f l = some ys → ys.map g = l
  | [], ys, h => by simp [mapO] at h; subst h; rfl
  | x :: r, ys, h => by
    simp only [mapO] at h
    split at h
    · rename_i z hz
      split at h
      · rename_i zs hzs
        injection h with h; subst h
        simp [hg x z hz, mapO_map hg hzs]
      · cases h
    · cases h
theorem stripReg_spec {ops : Array Oper} {l : List (Nat × LO)} (h : stripReg P ops = some l) : (∀ x ∈ l, StripAt P ops x.1 x.2) ∧ l.map (·.1) = List.range ops.size := by
  refine ⟨fun x hx => ?_, mapO_map (fun i x hi => ?_) h⟩
  · obtain ⟨i, _, hi⟩ := mapO_mem h x hx
    unfold stripPair at hi
    split at hi
    · rename_i o ho
      injection hi with hi; subst hi
      obtain ⟨oi, h1, h2, h3⟩ := stripAt_spec ho
      exact ⟨oi, h1, by rw [strip_unAt h2]; exact h2, h3⟩
    · cases hi
  · unfold stripPair at hi
    split at hi
    · injection hi with hi; subst hi; rfl
    · cases hi
theorem stripPlan_spec {ops : Array Oper} {n : Nat} {plan : List PE} (h : stripPlan P ops = some (.dreg n plan)) :
    planChk ops plan = true ∧ plan.length = ops.size ∧ (∀ p ∈ plan, cR p.o = true → slotR p.o < n) ∧ P.follows .mixedOrders = true ∧ ∀ p ∈ plan, StripAt P ops p.i p.o := by
  unfold stripPlan at h
  split at h
  · cases h
  · rename_i los hlos
    simp only [] at h
    split at h
    · cases h
    · rename_i pl hpl
      split at h
      · rename_i hck
        injection h with h; injection h with h1 h2; subst h1 h2
        simp only [Bool.and_eq_true, beq_iff_eq, List.all_eq_true] at hck
        obtain ⟨⟨⟨g1, g2⟩, g3⟩, g4⟩ := hck
        refine ⟨g1, g2, fun p hp hR => by simpa [hR] using g3 p hp, g4, fun p hp => ?_⟩
        obtain ⟨i, _, hi⟩ := mapO_mem hpl p hp
        unfold stripPE at hi
        split at hi
        · rename_i o ho
          injection hi with hi; subst hi
          obtain ⟨oi, h1, h2, h3, h4⟩ := stripAt_spec ho
          obtain ⟨q1, q2, q3⟩ := atOp_un (k := ((los.take i).filter isAB).length) (strip_unAt h2)
          exact ⟨oi, h1, by simp only [mkPE]; rw [q1]; exact h2, by simp only [mkPE]; rw [q2]; exact h3, by simp only [mkPE]; rw [q3]; exact h4⟩
        · cases hi
      · cases h
theorem BInv.reserves {cx : Cx} {D : Store} {ρ : Env} {H : Heap} {w : World} (h : BInv cx D ρ H w) : ∀ n, BInv cx D (ρ ++ List.replicate n none) (H ++ List.replicate n .res) w
  | 0 => by simpa using h
  | n + 1 => by
    have := (BInv.reserves h n).reserve
    rw [List.append_assoc, List.append_assoc] at this
    rw [List.replicate_succ', List.replicate_succ']
    exact this
theorem stripC_kind {c : Code} {lc : LC} (h : stripC P c = some lc) :
    (c = .skip ∧ lc = .skip) ∨ (∃ id ops l, c = .region id ops false ∧ lc = .reg (l.map (·.2)) ∧ stripReg P ops = some l) ∨ (∃ id ops n plan, c = .region id ops true ∧ lc = .dreg n plan ∧ stripPlan P ops = some (.dreg n plan)) ∨
    (∃ a b a' b', c = .seq a b ∧ lc = .seq a' b' ∧ stripC P a = some a' ∧ stripC P b = some b') ∨
    (∃ x a b a' b', c = .cond x a b ∧ lc = .cond x a' b' ∧ stripC P a = some a' ∧ stripC P b = some b') ∨
    (∃ id b b', c = .block id b ∧ lc = .block id b' ∧ stripC P b = some b') ∨ (∃ b b', c = .loop b ∧ lc = .loop b' ∧ stripC P b = some b') ∨
    (∃ id, c = .exit id ∧ lc = .exit id) ∨ (c = .ret ∧ lc = .ret) := by
  cases c with
  | skip => simp only [stripC] at h; cases h; exact .inl ⟨rfl, rfl⟩
  | region id ops draw =>
    cases draw with
    | true =>
      simp only [stripC, if_true] at h
      have : ∃ n plan, lc = .dreg n plan := by
        unfold stripPlan at h
        split at h
        · cases h
        · simp only [] at h
          split at h
          · cases h
          · split at h
            · injection h with h; exact ⟨_, _, h.symm⟩
            · cases h
      obtain ⟨n, plan, rfl⟩ := this
      exact .inr (.inr (.inl ⟨id, ops, n, plan, rfl, rfl, h⟩))
    | false =>
      simp only [stripC] at h
      split at h
      · contradiction
      · split at h
        · rename_i l hl
          injection h with h
          exact .inr (.inl ⟨id, ops, l, rfl, h.symm, hl⟩)
        · cases h
  | seq a b =>
    simp only [stripC] at h
    split at h
    · split at h
      · injection h with h; exact .inr (.inr (.inr (.inl ⟨a, b, _, _, rfl, h.symm, by assumption, by assumption⟩)))
      · cases h
    · cases h
  | cond x a b =>
    simp only [stripC] at h
    split at h
    · split at h
      · injection h with h; exact .inr (.inr (.inr (.inr (.inl ⟨x, a, b, _, _, rfl, h.symm, by assumption, by assumption⟩))))
      · cases h
    · cases h
  | block id b =>
    simp only [stripC] at h
    split at h
    · injection h with h; exact .inr (.inr (.inr (.inr (.inr (.inl ⟨id, b, _, rfl, h.symm, by assumption⟩)))))
    · cases h
  | loop b =>
    simp only [stripC] at h
    split at h
    · injection h with h; exact .inr (.inr (.inr (.inr (.inr (.inr (.inl ⟨b, _, rfl, h.symm, by assumption⟩))))))
    · cases h
  | exit id => simp only [stripC] at h; cases h; exact .inr (.inr (.inr (.inr (.inr (.inr (.inr (.inl ⟨id, rfl, rfl⟩)))))))
  | ret => simp only [stripC] at h; cases h; exact .inr (.inr (.inr (.inr (.inr (.inr (.inr (.inr ⟨rfl, rfl⟩)))))))
  | _ => simp [stripC] at h
end
end Go.Proofs.Lite

namespace Go.Proofs.Lite
open Go
section
variable {P : Program} {n0 : Nat} {T : List AV} {H : Heap} {Q : Post}
theorem stripC_skip {c : Code} (h : stripC P c = some .skip) : c = .skip := by
  rcases stripC_kind h with ⟨h1, h2⟩ | ⟨id, ops, l, h1, h2, h3⟩ | ⟨id, ops, n, plan, h1, h2, h3⟩ | ⟨a, b, a', b', h1, h2, h3, h4⟩ | ⟨x, a, b, a', b', h1, h2, h3, h4⟩ | ⟨id, b, b', h1, h2, h3⟩ | ⟨b, b', h1, h2, h3⟩ | ⟨id, h1, h2⟩ | ⟨h1, h2⟩ <;> first | exact h1 | cases h2
theorem stripC_ret {c : Code} (h : stripC P c = some .ret) : c = .ret := by
  rcases stripC_kind h with ⟨h1, h2⟩ | ⟨id, ops, l, h1, h2, h3⟩ | ⟨id, ops, n, plan, h1, h2, h3⟩ | ⟨a, b, a', b', h1, h2, h3, h4⟩ | ⟨x, a, b, a', b', h1, h2, h3, h4⟩ | ⟨id, b, b', h1, h2, h3⟩ | ⟨b, b', h1, h2, h3⟩ | ⟨id, h1, h2⟩ | ⟨h1, h2⟩ <;> first | cases h2 | skip
  exact h1
theorem stripC_exit {c : Code} {i : Nat} (h : stripC P c = some (.exit i)) : c = .exit i := by
  rcases stripC_kind h with ⟨h1, h2⟩ | ⟨id, ops, l, h1, h2, h3⟩ | ⟨id, ops, n, plan, h1, h2, h3⟩ | ⟨a, b, a', b', h1, h2, h3, h4⟩ | ⟨x, a, b, a', b', h1, h2, h3, h4⟩ | ⟨id, b, b', h1, h2, h3⟩ | ⟨b, b', h1, h2, h3⟩ | ⟨id, h1, h2⟩ | ⟨h1, h2⟩ <;> first | cases h2 | skip
  exact h1
theorem stripC_seq {c : Code} {x y : LC} (h : stripC P c = some (.seq x y)) : ∃ a b, c = .seq a b ∧ stripC P a = some x ∧ stripC P b = some y := by
  rcases stripC_kind h with ⟨h1, h2⟩ | ⟨id, ops, l, h1, h2, h3⟩ | ⟨id, ops, n, plan, h1, h2, h3⟩ | ⟨a, b, a', b', h1, h2, h3, h4⟩ | ⟨x, a, b, a', b', h1, h2, h3, h4⟩ | ⟨id, b, b', h1, h2, h3⟩ | ⟨b, b', h1, h2, h3⟩ | ⟨id, h1, h2⟩ | ⟨h1, h2⟩ <;> first | cases h2 | skip
  exact ⟨a, b, h1, h3, h4⟩
theorem stripC_cond {c : Code} {v : Operand} {x y : LC} (h : stripC P c = some (.cond v x y)) : ∃ a b, c = .cond v a b ∧ stripC P a = some x ∧ stripC P b = some y := by
  rcases stripC_kind h with ⟨h1, h2⟩ | ⟨id, ops, l, h1, h2, h3⟩ | ⟨id, ops, n, plan, h1, h2, h3⟩ | ⟨a, b, a', b', h1, h2, h3, h4⟩ | ⟨x, a, b, a', b', h1, h2, h3, h4⟩ | ⟨id, b, b', h1, h2, h3⟩ | ⟨b, b', h1, h2, h3⟩ | ⟨id, h1, h2⟩ | ⟨h1, h2⟩ <;> first | cases h2 | skip
  exact ⟨a, b, h1, h3, h4⟩
theorem stripC_block {c : Code} {i : Nat} {x : LC} (h : stripC P c = some (.block i x)) : ∃ a, c = .block i a ∧ stripC P a = some x := by
  rcases stripC_kind h with ⟨h1, h2⟩ | ⟨id, ops, l, h1, h2, h3⟩ | ⟨id, ops, n, plan, h1, h2, h3⟩ | ⟨a, b, a', b', h1, h2, h3, h4⟩ | ⟨x, a, b, a', b', h1, h2, h3, h4⟩ | ⟨id, b, b', h1, h2, h3⟩ | ⟨b, b', h1, h2, h3⟩ | ⟨id, h1, h2⟩ | ⟨h1, h2⟩ <;> first | cases h2 | skip
  exact ⟨b, h1, h3⟩
theorem stripC_loop {c : Code} {x : LC} (h : stripC P c = some (.loop x)) : ∃ a, c = .loop a ∧ stripC P a = some x := by
  rcases stripC_kind h with ⟨h1, h2⟩ | ⟨id, ops, l, h1, h2, h3⟩ | ⟨id, ops, n, plan, h1, h2, h3⟩ | ⟨a, b, a', b', h1, h2, h3, h4⟩ | ⟨x, a, b, a', b', h1, h2, h3, h4⟩ | ⟨id, b, b', h1, h2, h3⟩ | ⟨b, b', h1, h2, h3⟩ | ⟨id, h1, h2⟩ | ⟨h1, h2⟩ <;> first | cases h2 | skip
  exact ⟨b, h1, h3⟩
theorem stripC_reg {c : Code} {x : List LO} (h : stripC P c = some (.reg x)) : ∃ id ops l, c = .region id ops false ∧ x = l.map (·.2) ∧ stripReg P ops = some l := by
  rcases stripC_kind h with ⟨h1, h2⟩ | ⟨id, ops, l, h1, h2, h3⟩ | ⟨id, ops, n, plan, h1, h2, h3⟩ | ⟨a, b, a', b', h1, h2, h3, h4⟩ | ⟨x, a, b, a', b', h1, h2, h3, h4⟩ | ⟨id, b, b', h1, h2, h3⟩ | ⟨b, b', h1, h2, h3⟩ | ⟨id, h1, h2⟩ | ⟨h1, h2⟩ <;> first | (cases h2; done) | skip
  injection h2 with h2
  exact ⟨id, ops, l, h1, h2, h3⟩
theorem stripC_dreg {c : Code} {n : Nat} {plan : List PE} (h : stripC P c = some (.dreg n plan)) : ∃ id ops, c = .region id ops true ∧ stripPlan P ops = some (.dreg n plan) := by
  rcases stripC_kind h with ⟨h1, h2⟩ | ⟨id, ops, l, h1, h2, h3⟩ | ⟨id, ops, n, plan, h1, h2, h3⟩ | ⟨a, b, a', b', h1, h2, h3, h4⟩ | ⟨x, a, b, a', b', h1, h2, h3, h4⟩ | ⟨id, b, b', h1, h2, h3⟩ | ⟨b, b', h1, h2, h3⟩ | ⟨id, h1, h2⟩ | ⟨h1, h2⟩ <;> first | cases h2 | skip
  exact ⟨id, ops, h1, h3⟩
theorem Sound.skip (h : Q .normal T H) : Sound P n0 .skip Q T H := by
  intro c hc cx D ρ w vs h0 hb hT
  rw [stripC_skip hc]
  exact wp_skip ⟨.normal, T, H, D, ρ, vs, rfl, h, hb, hT, rfl⟩
theorem Sound.ret (h : Q .ret T H) : Sound P n0 .ret Q T H := by
  intro c hc cx D ρ w vs h0 hb hT
  rw [stripC_ret hc]
  exact wp_ret ⟨.ret, T, H, D, ρ, vs, rfl, h, hb, hT, rfl⟩
theorem Sound.exit {i : Nat} (h : Q (.exit i) T H) : Sound P n0 (.exit i) Q T H := by
  intro c hc cx D ρ w vs h0 hb hT
  rw [stripC_exit hc]
  exact wp_exit ⟨.exit i, T, H, D, ρ, vs, rfl, h, hb, hT, rfl⟩
theorem Sound.seq {a b : LC} (h : Sound P n0 a (athen (Sound P n0 b Q) Q) T H) : Sound P n0 (.seq a b) Q T H := by
  intro c hc cx D ρ w vs h0 hb hT
  obtain ⟨x, y, rfl, hx, hy⟩ := stripC_seq hc
  refine wp_seq (wp_mono (h x hx cx D ρ w vs h0 hb hT) ?_)
  rintro e a' w' ⟨ae, T', H', D', ρ', vs', h1, h2, h3, h4, rfl⟩
  cases ae with
  | normal => simp only at h1; subst h1; exact h2 y hy cx D' ρ' w' vs' h0 h3 h4
  | exit i => simp only at h1; subst h1; exact ⟨.exit i, T', H', D', ρ', vs', rfl, h2, h3, h4, rfl⟩
  | ret => simp only at h1; subst h1; exact ⟨.ret, T', H', D', ρ', vs', rfl, h2, h3, h4, rfl⟩
theorem Sound.cond {v : Operand} {a b : LC} {t : Bool} (hv : ev T v = .raw (.bool t)) (h1 : t = true → Sound P n0 a Q T H) (h2 : t = false → Sound P n0 b Q T H) : Sound P n0 (.cond v a b) Q T H := by
  intro c hc cx D ρ w vs h0 hb hT
  obtain ⟨x, y, rfl, hx, hy⟩ := stripC_cond hc
  have := ev_rep hT v
  rw [hv] at this
  simp only [Rep] at this
  exact wp_cond_split this (fun ht => h1 ht x hx cx D ρ w vs h0 hb hT) (fun ht => h2 ht y hy cx D ρ w vs h0 hb hT)
theorem Sound.block {i : Nat} {a : LC} (h : Sound P n0 a (ablock i Q) T H) : Sound P n0 (.block i a) Q T H := by
  intro c hc cx D ρ w vs h0 hb hT
  obtain ⟨x, rfl, hx⟩ := stripC_block hc
  refine wp_block (wp_mono (h x hx cx D ρ w vs h0 hb hT) ?_)
  rintro e a' w' ⟨ae, T', H', D', ρ', vs', h1, h2, h3, h4, rfl⟩
  cases ae with
  | normal => simp only at h1; subst h1; exact ⟨.normal, T', H', D', ρ', vs', rfl, h2, h3, h4, rfl⟩
  | exit j =>
    simp only at h1; subst h1
    simp only [ablock] at h2
    simp only [Exit.inBlock]
    split at h2
    · rename_i hj; rw [if_pos hj]; exact ⟨.normal, T', H', D', ρ', vs', rfl, h2, h3, h4, rfl⟩
    · rename_i hj; rw [if_neg hj]; exact ⟨.exit j, T', H', D', ρ', vs', rfl, h2, h3, h4, rfl⟩
  | ret => simp only at h1; subst h1; exact ⟨.ret, T', H', D', ρ', vs', rfl, h2, h3, h4, rfl⟩
theorem next_normal {cx : Cx} : Next cx (Q .normal) (conc cx Q .normal) := by
  intro T H D ρ vs w h hb hT
  exact ⟨.normal, T, H, D, ρ, vs, rfl, h, hb, hT, rfl⟩
theorem Sound.reg {base : Nat} {ops : List LO} (h : aops P base (Q .normal) ops T H) : Sound P n0 (.reg ops) Q T H := by
  intro c hc cx D ρ w vs h0 hb hT
  obtain ⟨id, os, l, rfl, rfl, hl⟩ := stripC_reg hc
  obtain ⟨h1, h2⟩ := stripReg_spec hl
  refine wp_region ?_
  rw [← h2]
  exact aops_sound next_normal l h1 D ρ T H w vs hb hT h
theorem Sound.dreg {n : Nat} {plan : List PE} (h : planOk P H.length plan (Q .normal) plan T (H ++ List.replicate n .res)) : Sound P n0 (.dreg n plan) Q T H := by
  intro c hc cx D ρ w vs h0 hb hT
  obtain ⟨id, os, rfl, hl⟩ := stripC_dreg hc
  obtain ⟨h1, h2, h3, h4, h5⟩ := stripPlan_spec hl
  refine wp_region_any h4 ?_
  have hall : ∀ i < os.size, i ∈ plan.map PE.i := by
    intro i hi
    simp only [planChk, Bool.and_eq_true, List.all_eq_true] at h1
    have := h1.1.1.1.2 i (by simpa using hi)
    obtain ⟨p, hp, hpi⟩ := List.any_eq_true.1 this
    exact List.mem_map.2 ⟨p, hp, by simpa using hpi⟩
  refine plan_sound (base := H.length) h1 h5 next_normal os.size plan _ (List.Sublist.refl _) (by omega) ?_ (by simp) ?_ D (ρ ++ List.replicate n none) T _ _ vs (hb.reserves n).drew (hT.mono (Store.Le.refl _) (Env.le_append _ _)) ?_ h
  · intro i hi
    have hm := hall i hi
    constructor
    · constructor
      · intro _; exact hm
      · intro _; simp [hi]
    · constructor
      · intro h; simp [hi] at h
      · intro h; exact (h hm).elim
  · intro p hp hn
    exact (hn (List.mem_map.2 ⟨p, hp, rfl⟩)).elim
  · intro y hy hR
    have := h3 y hy hR
    rw [List.getElem?_append_right (by omega), List.getElem?_replicate, if_pos (by omega)]
theorem least {p : Nat → Prop} (h : ∃ n, p n) : ∃ n, p n ∧ ∀ m, p m → n ≤ m := by
  obtain ⟨n, hn⟩ := h
  induction n using Nat.strongRecOn with
  | _ n ih =>
    by_cases hex : ∃ m, m < n ∧ p m
    · obtain ⟨m, hm, hp⟩ := hex; exact ih m hm hp
    · exact ⟨n, hn, fun m hm => Nat.le_of_not_lt fun hlt => hex ⟨m, hlt, hm⟩⟩
open Classical in
theorem Sound.loop {a : LC} (I : Nat → List AV → Heap → Prop) {n : Nat} (hI : I n T H)
    (step : ∀ n T H, I n T H → Sound P n0 a (athen (fun T' H' => ∃ m T2 H2, m < n ∧ Wk n0 T' H' T2 H2 ∧ I m T2 H2) Q) T H) : Sound P n0 (.loop a) Q T H := by
  intro c hc cx D ρ w vs h0 hb hT
  obtain ⟨x, rfl, hx⟩ := stripC_loop hc
  let J : Nat → Act → World → Prop := fun n a w => ∃ T H D ρ vs, I n T H ∧ BInv cx D ρ H w ∧ RepL D ρ T vs ∧ a = ⟨vs.toArray, []⟩
  let μ : Act → World → Nat := fun a w => if h : ∃ n, J n a w then Classical.choose (least h) else 0
  have hμ : ∀ a w, (∃ n, J n a w) → J (μ a w) a w ∧ ∀ m, J m a w → μ a w ≤ m := by
    intro a w h
    have : μ a w = Classical.choose (least h) := by show (if h : ∃ n, J n a w then _ else _) = _; rw [dif_pos h]
    rw [this]
    exact Classical.choose_spec (least h)
  refine wp_loop (fun a w => ∃ n, J n a w) μ ⟨n, T, H, D, ρ, vs, hI, hb, hT, rfl⟩ ?_
  intro a' w' hJ
  obtain ⟨⟨T1, H1, D1, ρ1, vs1, g1, g2, g3, rfl⟩, _⟩ := hμ a' w' hJ
  refine wp_mono (step _ T1 H1 g1 x hx cx D1 ρ1 w' vs1 h0 g2 g3) ?_
  rintro e a2 w2 ⟨ae, T', H', D', ρ', vs', h1, h2, h3, h4, rfl⟩
  cases ae with
  | normal =>
    simp only at h1; subst h1
    obtain ⟨m, T2, H2, hm, hw, hI2⟩ := h2
    obtain ⟨D2, ρ2, hb2, hT2⟩ := hw cx D' ρ' w2 vs' h0 h3 h4
    have hJ2 : J m ⟨vs'.toArray, []⟩ w2 := ⟨T2, H2, D2, ρ2, vs', hI2, hb2, hT2, rfl⟩
    exact ⟨⟨m, hJ2⟩, Nat.lt_of_le_of_lt ((hμ _ _ ⟨m, hJ2⟩).2 m hJ2) hm⟩
  | exit i => simp only at h1; subst h1; exact ⟨.exit i, T', H', D', ρ', vs', rfl, h2, h3, h4, rfl⟩
  | ret => simp only at h1; subst h1; exact ⟨.ret, T', H', D', ρ', vs', rfl, h2, h3, h4, rfl⟩
theorem sound_of_awp : ∀ {lc : LC} {Q : Post} {T : List AV} {H : Heap}, awp P n0 lc Q T H → Sound P n0 lc Q T H
  | .skip, _, _, _, h => Sound.skip h
  | .reg ops, _, _, _, h => Sound.reg h
  | .dreg n plan, _, _, _, h => Sound.dreg h
  | .seq a b, _, _, _, h => Sound.seq (Sound.mono (sound_of_awp (lc := a) h) (by
      intro e T H he
      cases e with
      | normal => exact sound_of_awp (lc := b) he
      | exit i => exact he
      | ret => exact he))
  | .cond v a b, _, _, _, h => by
    simp only [awp] at h
    split at h
    · rename_i t ht; exact Sound.cond ht (fun e => sound_of_awp (h.1 e)) (fun e => sound_of_awp (h.2 e))
    · exact h.elim
  | .block i a, _, _, _, h => Sound.block (sound_of_awp (lc := a) h)
  | .loop a, _, _, _, h => h
  | .exit i, _, _, _, h => Sound.exit h
  | .ret, _, _, _, h => Sound.ret h
inductive RV where
  | tmp (t : Nat)
  | cell (ag : Bool) (n : Nat) (a : Nat)
  deriving Inhabited
structure LF where
  code : LC
  ntmps : Nat
  res : List RV
  deriving Inhabited
def stripRV (P : Program) : ResultVar → Option RV
  | .tmp t => some (.tmp t)
  | .cell a t => match aggT P t with
    | some ag => match sizeT P t with
      | some n => some (.cell ag n a)
      | none => none
    | none => none
def stripF (P : Program) (f : Nat) : Option LF := match P.funcs[f]? with
  | none => none
  | some fn => match fn.body with
    | none => none
    | some c => match stripC P c with
      | none => none
      | some lc => match mapO (stripRV P) fn.results.toList with
        | none => none
        | some rs => some ⟨lc, fn.ntmps, rs⟩
def rv (T : List AV) (H : Heap) : RV → Prop × AV
  | .tmp t => (True, T.getD t .junk)
  | .cell ag n a => lr T H (.load ag n (.tmp a))
def rvs (T : List AV) (H : Heap) : List RV → Prop × List AV
  | [] => (True, [])
  | r :: rs => ((rv T H r).1 ∧ (rvs T H rs).1, (rv T H r).2 :: (rvs T H rs).2)
def rets (T : List AV) (H : Heap) : List RV → Prop × AV
  | [r] => rv T H r
  | rs => ((rvs T H rs).1, .tup (rvs T H rs).2)
def aexit (n0 : Nat) (rs : List RV) (R : AV → Heap → Prop) : Post
  | .exit _, _, _ => False
  | _, T, H => (rets T H rs).1 ∧ ∃ v' H', Wk n0 [(rets T H rs).2] H [v'] H' ∧ R v' H'
def rvAct (tmps : Array Value) : ResultVar → Sem Value
  | .tmp t => pure (tmps.getD t undef)
  | .cell a t => do loadVar t (← asAddr (tmps.getD a undef))
theorem rv_run {D : Store} {ρ : Env} {w : World} {vs : List Value} {r : ResultVar} {x : RV} (hs : stripRV P r = some x) (hb : Inv0 D ρ H w) (hT : RepL D ρ T vs) (h : (rv T H x).1) :
    ∃ y, (rvAct vs.toArray r).run P w = .ok y w ∧ Rep D ρ (rv T H x).2 y := by
  cases r with
  | tmp t =>
    simp only [stripRV] at hs; injection hs with hs; subst hs
    have : vs.toArray.getD t undef = vs.getD t undef := by simp [Array.getD_eq_getD_getElem?, List.getD_eq_getElem?_getD]
    exact ⟨_, rfl, by rw [this]; exact hT.getD t undef⟩
  | cell a t =>
    simp only [stripRV] at hs
    split at hs
    · rename_i ag hag
      split at hs
      · rename_i n hn
        injection hs with hs; subst hs
        obtain ⟨y, hy, hr⟩ := load_gives (P := P) (o := ⟨none, .load t (.tmp a), 0, "", #[], none⟩) rfl hag hn hb hT h
        refine ⟨y, ?_, hr⟩
        have hx := ev_rep hT (.tmp a)
        have hp : ∃ ad, vs.toArray.getD a undef = .pointer (some ad) := by
          simp only [rv, lr] at h
          split at h
          · rename_i i o he; rw [he] at hx; simp only [Rep] at hx; obtain ⟨l, _, hx⟩ := hx; exact ⟨_, hx⟩
          · rename_i cs he; rw [he] at hx; simp only [Rep] at hx; obtain ⟨l, hx, _⟩ := hx; exact ⟨_, hx⟩
          · exact h.elim
        obtain ⟨ad, hp⟩ := hp
        simp only [execOp, Act.eval, Instr.loadAt, hp, Instr.sureAddr, Sem.run_bind, Sem.run_pure, Result.andThen_ok] at hy
        simp only [rvAct, hp, asAddr, Sem.run_bind, Sem.run_pure, Result.andThen_ok]
        cases hrun : (loadVar t ad).run P w with
        | ok y' w'' => rw [hrun] at hy; simp only [Result.andThen_ok] at hy; injection hy with h1 h2; injection h1 with h1; subst h1 h2; rfl
        | halt e w'' => rw [hrun] at hy; cases hy
      · cases hs
    · cases hs
theorem rvs_run {D : Store} {ρ : Env} {w : World} {vs : List Value} (hb : Inv0 D ρ H w) (hT : RepL D ρ T vs) : ∀ {rs : List ResultVar} {xs : List RV}, mapO (stripRV P) rs = some xs → (rvs T H xs).1 →
    ∃ ys, (rs.mapM (rvAct vs.toArray)).run P w = .ok ys w ∧ RepL D ρ (rvs T H xs).2 ys
  | [], xs, hs, h => by
    simp [mapO] at hs; subst hs
    exact ⟨[], rfl, by simp [rvs, RepL]⟩
  | r :: rs, xs, hs, h => by
    simp only [mapO] at hs
    split at hs
    · rename_i x hx
      split at hs
      · rename_i ys hys
        injection hs with hs; subst hs
        simp only [rvs] at h ⊢
        obtain ⟨y, h1, h2⟩ := rv_run hx hb hT h.1
        obtain ⟨zs, h3, h4⟩ := rvs_run hb hT hys h.2
        refine ⟨y :: zs, ?_, by simp only [RepL]; exact ⟨h2, h4⟩⟩
        rw [List.mapM_cons, Sem.run_bind, h1]
        simp only [Result.andThen_ok, Sem.run_bind, h3, Sem.run_pure]
      · cases hs
    · cases hs
theorem results_run {D : Store} {ρ : Env} {w : World} {vs : List Value} {fn : Func} {xs : List RV} (hs : mapO (stripRV P) fn.results.toList = some xs) (hb : Inv0 D ρ H w) (hT : RepL D ρ T vs) (h : (rets T H xs).1) :
    ∃ y, (results fn vs.toArray).run P w = .ok y w ∧ Rep D ρ (rets T H xs).2 y := by
  have h' : (rvs T H xs).1 := by
    match xs, h with
    | [], _ => trivial
    | [r], h => exact ⟨h, trivial⟩
    | _ :: _ :: _, h => exact h
  obtain ⟨ys, h1, h2⟩ := rvs_run hb hT hs h'
  refine ⟨if h : ys.toArray.size = 1 then ys.toArray[0] else .tuple ys.toArray, ?_, ?_⟩
  · show (fn.results.mapM (rvAct vs.toArray) >>= fun vs => pure (if h : vs.size = 1 then vs[0] else .tuple vs)).run P w = _
    rw [Array.mapM_eq_mapM_toList, Sem.run_bind]
    simp only [map_eq_pure_bind, Sem.run_bind, h1, Result.andThen_ok, Sem.run_pure]
  · match xs, ys, h2 with
    | [], [], h2 => simp only [rets, rvs, Rep]; exact ⟨[], by simp, by simp [RepL]⟩
    | [r], [y], h2 => simp only [rvs, RepL] at h2; simp only [rets]; simpa using h2.1
    | a :: b :: r, x :: y :: z, h2 => simp only [rets, Rep]; exact ⟨x :: y :: z, by simp, h2⟩
    | [], _ :: _, h2 => simp [rvs, RepL] at h2
    | [r], [], h2 => simp [rvs, RepL] at h2
    | [r], _ :: _ :: _, h2 => simp [rvs, RepL] at h2
    | _ :: _ :: _, [], h2 => simp [rvs, RepL] at h2
    | _ :: _ :: _, [_], h2 => simp [rvs, RepL] at h2
/-- A function does as its code does. -/
theorem ct_of_sound {f : Nat} {lf : LF} {args : List AV} {R : AV → Heap → Prop} (hf : stripF P f = some lf)
    (h : Sound P H.length lf.code (aexit H.length lf.res R) (args ++ List.replicate (lf.ntmps - args.length) .junk) H) : Ct P f args H R := by
  intro D ρ w vs hb ha
  unfold stripF at hf
  split at hf
  · cases hf
  · rename_i fn hfn
    split at hf
    · cases hf
    · rename_i c hc
      split at hf
      · cases hf
      · rename_i lc hlc
        split at hf
        · cases hf
        · rename_i rs hrs
          injection hf with hf; subst hf
          refine calls_of_wp hfn hc ?_
          have hlen : args.length = vs.length := ha.length
          have hT : RepL D ρ (args ++ List.replicate (fn.ntmps - args.length) .junk) (vs ++ List.replicate (fn.ntmps - vs.length) undef) := by
            rw [hlen]; exact ha.append (RepL.replicate_junk _ _)
          have key := h c hlc ⟨w, InH ρ H, D, ρ⟩ D ρ w (vs ++ List.replicate (fn.ntmps - vs.length) undef) hb.len (BInv.start hb) hT
          have e1 : (vs ++ List.replicate (fn.ntmps - vs.length) undef).toArray = vs.toArray ++ Array.replicate (fn.ntmps - vs.toArray.size) undef := by simp
          rw [e1] at key
          refine wp_mono key ?_
          rintro e a' w' ⟨ae, T', H', D', ρ', vs', h1, h2, h3, h4, rfl⟩
          have fin : (rets T' H' rs).1 ∧ (∃ v' H2, Wk H.length [(rets T' H' rs).2] H' [v'] H2 ∧ R v' H2) → ∃ v, (results fn vs'.toArray).run P w' = .ok v w' ∧ CtPost D ρ H w R (.returned v) w' := by
            rintro ⟨g1, v', H2, g2, g3⟩
            obtain ⟨y, g4, g5⟩ := results_run hrs h3.inv h4 g1
            obtain ⟨D2, ρ2, g6, g7⟩ := g2 _ D' ρ' w' [y] hb.len h3 (by simp only [RepL]; exact ⟨g5, trivial⟩)
            simp only [RepL] at g7
            exact ⟨y, g4, v', y, D2, ρ2, H2, rfl, g7.1, g3, g6⟩
          cases ae with
          | normal => simp only at h1; subst h1; exact ⟨rfl, fin h2⟩
          | exit i => exact h2.elim
          | ret => simp only at h1; subst h1; exact ⟨rfl, fin h2⟩
end
end Go.Proofs.Lite

namespace Go.Proofs.Lite
open Go
section
variable {P : Program} {n0 : Nat} {T : List AV} {H : Heap}
/-- Temporaries may be forgotten. -/
def fits : List AV → List AV → Prop
  | [], [] => True
  | _ :: as, .junk :: bs => fits as bs
  | a :: as, b :: bs => a = b ∧ fits as bs
  | _, _ => False
theorem fits_rep {D : Store} {ρ : Env} : ∀ {T T' : List AV} {vs : List Value}, fits T T' → RepL D ρ T vs → RepL D ρ T' vs
  | [], [], vs, _, h => h
  | a :: as, .junk :: bs, v :: vs, h, hr => by
    simp only [RepL] at hr ⊢
    exact ⟨by simp [Rep], fits_rep (by simpa only [fits] using h) hr.2⟩
  | a :: as, b :: bs, v :: vs, h, hr => by
    simp only [RepL] at hr ⊢
    by_cases hb : b = .junk
    · subst hb; exact ⟨by simp [Rep], fits_rep (by simpa only [fits] using h) hr.2⟩
    · have h' : a = b ∧ fits as bs := by
        cases b <;> first | exact absurd rfl hb | simpa only [fits] using h
      exact ⟨h'.1 ▸ hr.1, fits_rep h'.2 hr.2⟩
  | a :: as, bs, [], h, hr => by simp [RepL] at hr
  | [], _ :: _, _, h, _ => by simp [fits] at h
  | _ :: _, [], _ :: _, h, _ => by simp [fits] at h
theorem Wk.refl : Wk n0 T H T H := fun _ D ρ _ _ _ hb hT => ⟨D, ρ, hb, hT⟩
theorem Wk.trans {T1 T2 : List AV} {H1 H2 : Heap} (h : Wk n0 T H T1 H1) (k : Wk n0 T1 H1 T2 H2) : Wk n0 T H T2 H2 := by
  intro cx D ρ w vs h0 hb hT
  obtain ⟨D', ρ', hb', hT'⟩ := h cx D ρ w vs h0 hb hT
  exact k cx D' ρ' w vs h0 hb' hT'
theorem Wk.tmps {T' : List AV} (h : fits T T') : Wk n0 T H T' H := fun _ D ρ _ _ _ hb hT => ⟨D, ρ, hb, fits_rep h hT⟩
theorem Wk.kill (i : Nat) : Wk n0 T H T (H.set i .dead) := fun _ D ρ _ _ _ hb hT => ⟨D, ρ, hb.kill i, hT⟩
/-- A loop, begun from less. -/
theorem Sound.loopw {a : LC} {Q : Post} (I : Nat → List AV → Heap → Prop) {n : Nat} {T2 : List AV} {H2 : Heap} (hw : Wk n0 T H T2 H2) (hI : I n T2 H2)
    (step : ∀ n T H, I n T H → Sound P n0 a (athen (fun T' H' => ∃ m T2 H2, m < n ∧ Wk n0 T' H' T2 H2 ∧ I m T2 H2) Q) T H) : Sound P n0 (.loop a) Q T H :=
  Sound.wk hw (Sound.loop I hI step)
mutual
def cutAV (n : Nat) : AV → AV
  | .ptr i o => if i < n then .ptr i o else .junk
  | .sl i z o k b => if i < n then .sl i z o k b else .junk
  | .mp i => if i < n then .mp i else .junk
  | .agg cs => .agg (cutL n cs)
  | .tup cs => .tup (cutL n cs)
  | .fn f cs => .fn f (cutL n cs)
  | .junk => .junk
  | .raw v => .raw v
  | .ro z k cs => .ro z k cs
  | .rp cs => .rp cs
def cutL (n : Nat) : List AV → List AV
  | [] => []
  | c :: cs => cutAV n c :: cutL n cs
end
def cutSg (n : Nat) : Sg → Sg
  | .c cs => .c (cutL n cs)
  | .m kvs => .m (kvs.map fun q => (q.1, cutAV n q.2))
  | .dead => .dead
  | .res => .res
def cutH (n : Nat) (H : Heap) : Heap := (H.take n).map (cutSg n)
theorem loc?_take {ρ : Env} {n i : Nat} (h : i < n) : Env.loc? (ρ.take n) i = Env.loc? ρ i := by
  unfold Env.loc?; rw [List.getElem?_take_of_lt h]
theorem cutL_eq (n : Nat) : ∀ cs, cutL n cs = cs.map (cutAV n)
  | [] => rfl
  | c :: cs => by simp only [cutL, List.map_cons, cutL_eq n cs]
mutual
theorem cut_rep {D : Store} {ρ : Env} {n : Nat} : ∀ (a : AV) (x : Value), Rep D ρ a x → Rep D (ρ.take n) (cutAV n a) x
  | .junk, _, _ => by simp [Rep, cutAV]
  | .raw _, _, h => by simpa [Rep, cutAV] using h
  | .ro .., _, h => by simpa [Rep, cutAV] using h
  | .rp .., _, h => by simpa [Rep, cutAV] using h
  | .ptr i o, _, h => by
    simp only [cutAV]
    split
    · rename_i hi; simp only [Rep, loc?_take hi] at h ⊢; exact h
    · simp [Rep]
  | .sl i z o k b, _, h => by
    simp only [cutAV]
    split
    · rename_i hi; simp only [Rep, loc?_take hi] at h ⊢; exact h
    · simp [Rep]
  | .mp i, _, h => by
    simp only [cutAV]
    split
    · rename_i hi; simp only [Rep, loc?_take hi] at h ⊢; exact h
    · simp [Rep]
  | .agg cs, _, h => by simp only [cutAV, Rep] at h ⊢; obtain ⟨vs, h1, h2⟩ := h; exact ⟨vs, h1, cutL_rep cs vs h2⟩
  | .tup cs, _, h => by simp only [cutAV, Rep] at h ⊢; obtain ⟨vs, h1, h2⟩ := h; exact ⟨vs, h1, cutL_rep cs vs h2⟩
  | .fn f cs, _, h => by simp only [cutAV, Rep] at h ⊢; obtain ⟨vs, h1, h2⟩ := h; exact ⟨vs, h1, cutL_rep cs vs h2⟩
theorem cutL_rep {D : Store} {ρ : Env} {n : Nat} : ∀ (cs : List AV) (vs : List Value), RepL D ρ cs vs → RepL D (ρ.take n) (cutL n cs) vs
  | [], [], _ => by simp [RepL, cutL]
  | c :: cs, v :: vs, h => by simp only [cutL, RepL] at h ⊢; exact ⟨cut_rep c v h.1, cutL_rep cs vs h.2⟩
  | [], _ :: _, h => by simp [RepL] at h
  | _ :: _, [], h => by simp [RepL] at h
end
theorem cutH_get {n i : Nat} {sg : Sg} (h : (cutH n H)[i]? = some sg) : i < n ∧ ∃ s, H[i]? = some s ∧ sg = cutSg n s := by
  unfold cutH at h
  rw [List.getElem?_map, List.getElem?_take] at h
  split at h
  · rename_i hi
    cases hs : H[i]? with
    | none => rw [hs] at h; cases h
    | some s => rw [hs] at h; simp only [Option.map_some] at h; injection h with h; exact ⟨hi, s, rfl, h.symm⟩
  · cases h
theorem Wk.cut {n : Nat} (hn : n0 ≤ n) : Wk n0 T H (cutL n T) (cutH n H) := by
  intro cx D ρ w vs h0 hb hT
  refine ⟨D, ρ.take n, ?_, cutL_rep T vs hT⟩
  have segs : ∀ i cs', (cutH n H)[i]? = some (.c cs') → i < n ∧ ∃ cs, H[i]? = some (.c cs) ∧ cs' = cutL n cs := by
    intro i cs' h
    obtain ⟨hi, s, hs, he⟩ := cutH_get h
    cases s <;> simp only [cutSg] at he <;> first | (cases he; done) | skip
    injection he with he
    exact ⟨hi, _, hs, he⟩
  have maps : ∀ i kvs', (cutH n H)[i]? = some (.m kvs') → i < n ∧ ∃ kvs, H[i]? = some (.m kvs) ∧ kvs' = kvs.map fun q => (q.1, cutAV n q.2) := by
    intro i cs' h
    obtain ⟨hi, s, hs, he⟩ := cutH_get h
    cases s <;> simp only [cutSg] at he <;> first | (cases he; done) | skip
    injection he with he
    exact ⟨hi, _, hs, he⟩
  have live : ∀ i, Live (cutH n H) i → i < n ∧ Live H i := by
    rintro i (⟨cs, h⟩ | ⟨kvs, h⟩)
    · obtain ⟨hi, cs, hs, _⟩ := segs _ _ h; exact ⟨hi, .inl ⟨_, hs⟩⟩
    · obtain ⟨hi, cs, hs, _⟩ := maps _ _ h; exact ⟨hi, .inr ⟨_, hs⟩⟩
  refine ⟨⟨?_, hb.inv.d, ?_, ?_, ?_, ?_⟩, hb.fr, ?_, hb.dle, hb.dav, ?_⟩
  · simp only [cutH, List.length_take, List.length_map]; rw [hb.inv.len]
  · intro i cs' h
    obtain ⟨hi, cs, hs, rfl⟩ := segs _ _ h
    obtain ⟨l, h1, h2, h3⟩ := hb.inv.seg _ _ hs
    refine ⟨l, by rw [loc?_take hi]; exact h1, by rw [cutL_eq, List.length_map]; exact h2, fun j hj => ?_⟩
    obtain ⟨v, g1, g2, g3, g4⟩ := h3 j hj
    refine ⟨v, g1, g2, g3, fun c hc => ?_⟩
    rw [cutL_eq, List.getElem?_map] at hc
    cases hcj : cs[j]? with
    | none => rw [hcj] at hc; cases hc
    | some c' => rw [hcj] at hc; injection hc with hc; subst hc; exact cut_rep c' v (g4 c' hcj)
  · intro i kvs' h
    obtain ⟨hi, kvs, hs, rfl⟩ := maps _ _ h
    obtain ⟨l, h1, h2, h3, es, m, h4, h5, h6, h7⟩ := hb.inv.mpp _ _ hs
    refine ⟨l, by rw [loc?_take hi]; exact h1, h2, h3, es, m, h4, by rw [h5]; simp, ?_, h7⟩
    have : (kvs.map fun q => (q.1, cutAV n q.2)).map (·.2) = cutL n (kvs.map (·.2)) := by rw [cutL_eq]; simp
    rw [this]; exact cutL_rep _ _ h6
  · intro i h
    obtain ⟨hi, s, hs, he⟩ := cutH_get h
    rw [loc?_take hi]
    cases s <;> simp only [cutSg] at he <;> first | (cases he; done) | skip
    exact hb.inv.res i hs
  · intro i j li lj hij hLi hLj hpi hpj
    obtain ⟨hi, hLi⟩ := live i hLi
    obtain ⟨hj, hLj⟩ := live j hLj
    rw [loc?_take hi] at hpi; rw [loc?_take hj] at hpj
    exact hb.inv.dis i j li lj hij hLi hLj hpi hpj
  · intro i l hL hl
    obtain ⟨hi, hL⟩ := live i hL
    rw [loc?_take hi] at hl
    exact hb.av i l hL hl
  · intro k l hk hl
    rw [loc?_take (by omega)]
    exact hb.keep k l hk hl
end
end Go.Proofs.Lite

namespace Go.Proofs.Lite
open Go
def u32s (l : List Nat) : List AV := l.map fun n : Nat => .raw (.int .u32 (n : Int))
def valL : List Nat → Nat
  | [] => 0
  | a :: l => a + 4294967296 * valL l
def Lim (l : List Nat) : Prop := ∀ x ∈ l, x < 4294967296
theorem u32s_length (l : List Nat) : (u32s l).length = l.length := by simp [u32s]
theorem u32s_get {l : List Nat} {k : Nat} (h : k < l.length) : (u32s l).getD k .junk = .raw (.int .u32 ((l.getD k 0 : Nat) : Int)) := by
  simp [u32s, List.getD_eq_getElem?_getD, h]
theorem u32s_drop_get {l : List Nat} {k : Nat} (h : k < l.length) : ((u32s l).drop k).getD 0 .junk = .raw (.int .u32 ((l.getD k 0 : Nat) : Int)) := by
  simp [u32s, List.getD_eq_getElem?_getD, h]
theorem u32s_wr {l : List Nat} {k n : Nat} (h : k < l.length) : wr (u32s l) k [.raw (.int .u32 (n : Int))] = u32s (l.set k n) := by
  simp only [wr, u32s, List.length_singleton]
  rw [List.set_eq_take_append_cons_drop, if_pos h]
  simp [List.map_take, List.map_drop]
theorem Lim.get {l : List Nat} (h : Lim l) (k : Nat) : l.getD k 0 < 4294967296 := by
  rw [List.getD_eq_getElem?_getD]
  cases hk : l[k]? with
  | none => simp
  | some x => simp; exact h x (List.mem_of_getElem? hk)
theorem getD_out {l : List Nat} {k : Nat} (h : l.length ≤ k) : l.getD k 0 = 0 := by
  rw [List.getD_eq_getElem?_getD, List.getElem?_eq_none h]; rfl
theorem valL_lt {a b : List Nat} (hl : a.length = b.length) (ha : Lim a) (k : Nat) (ht : ∀ j, k < j → a.getD j 0 = b.getD j 0) (hk : a.getD k 0 < b.getD k 0) : valL a < valL b := by
  induction a generalizing b k with
  | nil =>
    cases b with
    | nil => simp at hk
    | cons => simp at hl
  | cons x a ih =>
    cases b with
    | nil => simp at hl
    | cons y b =>
      simp only [valL]
      cases k with
      | zero =>
        have hab : a = b := by
          apply List.ext_getElem (by simpa using hl)
          intro i h1 h2
          have := ht (i + 1) (by omega)
          simpa [List.getD_eq_getElem?_getD, h1, h2] using this
        subst hab
        simp at hk
        omega
      | succ k =>
        have := ih (b := b) (by simpa using hl) (fun z hz => ha z (by simp [hz])) k (fun j hj => by simpa using ht (j + 1) (by omega)) (by simpa using hk)
        have h1 := ha x (by simp)
        omega
theorem valL_eq {a b : List Nat} (hl : a.length = b.length) (ht : ∀ j, a.getD j 0 = b.getD j 0) : a = b := by
  apply List.ext_getElem hl
  intro i h1 h2
  simpa [List.getD_eq_getElem?_getD, h1, h2] using ht i
theorem aexit_ret {n0 : Nat} {rs : List RV} {R : AV → Heap → Prop} {T : List AV} {H : Heap} (h1 : (rets T H rs).1) (h2 : R (rets T H rs).2 H) : aexit n0 rs R .ret T H := ⟨h1, _, _, Wk.refl, h2⟩
end Go.Proofs.Lite

namespace Go.Proofs.Lite
open Go
section
variable {b : Nat}
def digB (b A k : Nat) : Nat := A / b ^ k % b
def limbsB (b n A : Nat) : List Nat := (List.range n).map (digB b A)
def valB (b : Nat) : List Nat → Nat
  | [] => 0
  | a :: l => a + b * valB b l
theorem limbsB_cons (n A : Nat) : limbsB b (n + 1) A = (A % b) :: limbsB b n (A / b) := by
  simp only [limbsB, List.range_succ_eq_map, List.map_cons, List.map_map]
  congr 1
  · simp [digB]
  · apply List.map_congr_left
    intro k _
    simp only [Function.comp, digB, Nat.succ_eq_add_one, Nat.pow_succ]
    rw [Nat.div_div_eq_div_mul, Nat.mul_comm]
theorem valB_limbs : ∀ (n A : Nat), valB b (limbsB b n A) = A % b ^ n := by
  intro n
  induction n with
  | zero => intro A; simp [limbsB, valB, Nat.mod_one]
  | succ n ih =>
    intro A
    rw [limbsB_cons, valB, ih, Nat.pow_succ, Nat.mul_comm (b ^ n), Nat.mod_mul]
theorem limbsB_val (hb : 0 < b) {n : Nat} {l : List Nat} (hl : l.length = n) (h : ∀ x ∈ l, x < b) : limbsB b n (valB b l) = l := by
  subst hl
  induction l with
  | nil => rfl
  | cons a l ih =>
    have ha := h a (by simp)
    have := ih (fun x hx => h x (by simp [hx]))
    rw [List.length_cons, limbsB_cons]
    have h1 : valB b (a :: l) % b = a := by simp only [valB]; rw [Nat.add_mul_mod_self_left, Nat.mod_eq_of_lt ha]
    have h2 : valB b (a :: l) / b = valB b l := by simp only [valB]; rw [Nat.add_mul_div_left _ _ hb, Nat.div_eq_of_lt ha, Nat.zero_add]
    rw [h1, h2, this]
theorem modB_succ (A k : Nat) : A % b ^ (k + 1) = A % b ^ k + b ^ k * digB b A k := by
  rw [Nat.pow_succ, Nat.mod_mul]; rfl
theorem digB_low {A k j : Nat} (h : j < k) : digB b (A % b ^ k) j = digB b A j := by
  unfold digB
  obtain ⟨d, rfl⟩ : ∃ d, k = j + (d + 1) := ⟨k - j - 1, by omega⟩
  rw [Nat.pow_add, Nat.mod_mul_right_div_self, Nat.pow_succ, Nat.mul_comm (b ^ d), Nat.mod_mul_right_mod]
theorem digB_low_ge (hb : 0 < b) {A k j : Nat} (h : k ≤ j) : digB b (A % b ^ k) j = 0 := by
  unfold digB
  have : A % b ^ k < b ^ j := Nat.lt_of_lt_of_le (Nat.mod_lt _ (Nat.pow_pos hb)) (Nat.pow_le_pow_right hb h)
  rw [Nat.div_eq_of_lt this, Nat.zero_mod]
def carryB (b A B k : Nat) : Nat := (A % b ^ k + B % b ^ k) / b ^ k
theorem carryB_zero (A B : Nat) : carryB b A B 0 = 0 := by simp [carryB, Nat.mod_one]
theorem carryB_le (hb : 0 < b) (A B k : Nat) : carryB b A B k ≤ 1 := by
  unfold carryB
  have h0 : 0 < b ^ k := Nat.pow_pos hb
  have h1 := Nat.mod_lt A h0
  have h2 := Nat.mod_lt B h0
  have : (A % b ^ k + B % b ^ k) / b ^ k < 2 := Nat.div_lt_of_lt_mul (by omega)
  omega
theorem carryB_succ (hb : 0 < b) (A B k : Nat) : (digB b A k + digB b B k + carryB b A B k) / b = carryB b A B (k + 1) := by
  unfold carryB
  rw [modB_succ, modB_succ, Nat.pow_succ, ← Nat.div_div_eq_div_mul]
  congr 1
  have : A % b ^ k + b ^ k * digB b A k + (B % b ^ k + b ^ k * digB b B k) = (A % b ^ k + B % b ^ k) + b ^ k * (digB b A k + digB b B k) := by
    rw [Nat.mul_add]; omega
  rw [this, Nat.add_mul_div_left _ _ (Nat.pow_pos hb)]
  omega
theorem digB_add (hb : 0 < b) (A B k : Nat) : (digB b A k + digB b B k + carryB b A B k) % b = digB b (A + B) k := by
  have h0 : 0 < b ^ k := Nat.pow_pos hb
  have hA := Nat.div_add_mod A (b ^ k)
  have hB := Nat.div_add_mod B (b ^ k)
  have : (A + B) / b ^ k = A / b ^ k + B / b ^ k + carryB b A B k := by
    unfold carryB
    have e : A + B = (A % b ^ k + B % b ^ k) + b ^ k * (A / b ^ k + B / b ^ k) := by
      rw [Nat.mul_add]; omega
    conv => lhs; rw [e]
    rw [Nat.add_mul_div_left _ _ h0]
    omega
  unfold digB
  rw [this, Nat.add_mod (A / b ^ k + B / b ^ k), Nat.add_mod (A / b ^ k % b + B / b ^ k % b), ← Nat.add_mod (A / b ^ k)]
def borrowB (b A B k : Nat) : Nat := if A % b ^ k < B % b ^ k then 1 else 0
theorem borrowB_zero (A B : Nat) : borrowB b A B 0 = 0 := by simp [borrowB, Nat.mod_one]
theorem borrowB_succ (A B k : Nat) : borrowB b A B (k + 1) = if digB b A k < digB b B k + borrowB b A B k then 1 else 0 := by
  have : (A % b ^ (k + 1) < B % b ^ (k + 1)) ↔ digB b A k < digB b B k + borrowB b A B k := by
    rw [modB_succ, modB_succ]
    unfold borrowB
    by_cases hb : 0 < b
    · have h0 : 0 < b ^ k := Nat.pow_pos hb
      have h1 := Nat.mod_lt A h0
      have h2 := Nat.mod_lt B h0
      generalize digB b A k = x
      generalize digB b B k = y
      generalize A % b ^ k = u at *
      generalize B % b ^ k = v at *
      generalize b ^ k = p at *
      by_cases hxy : x < y
      · have : p * x + p ≤ p * y := by rw [← Nat.mul_succ]; exact Nat.mul_le_mul_left _ hxy
        split <;> omega
      · by_cases hyx : y < x
        · have : p * y + p ≤ p * x := by rw [← Nat.mul_succ]; exact Nat.mul_le_mul_left _ hyx
          split <;> omega
        · have : x = y := by omega
          subst this
          split <;> omega
    · have hb0 : b = 0 := by omega
      subst hb0
      cases k with
      | zero => simp [digB, Nat.mod_one]
      | succ k =>
        simp [digB]
        split <;> simp_all
  unfold borrowB
  simp only [this, borrowB]
theorem digB_sub (hb : 0 < b) (A B k : Nat) (h : B ≤ A) : digB b A k + b * borrowB b A B (k + 1) = digB b (A - B) k + digB b B k + borrowB b A B k := by
  have e1 := digB_add hb (A - B) B k
  have e2 := carryB_succ hb (A - B) B k
  rw [Nat.sub_add_cancel h] at e1
  have hc : ∀ j, carryB b (A - B) B j = borrowB b A B j := by
    intro j
    have h0 : 0 < b ^ j := Nat.pow_pos hb
    have h1 := Nat.mod_lt (A - B) h0
    have h2 := Nat.mod_lt B h0
    have h3 : ((A - B) % b ^ j + B % b ^ j) % b ^ j = A % b ^ j := by rw [← Nat.add_mod, Nat.sub_add_cancel h]
    unfold carryB borrowB
    generalize (A - B) % b ^ j = u at *
    generalize B % b ^ j = v at *
    generalize A % b ^ j = x at *
    generalize b ^ j = p at *
    by_cases hlt : u + v < p
    · rw [Nat.mod_eq_of_lt hlt] at h3
      rw [Nat.div_eq_of_lt hlt, if_neg (by omega)]
    · have h4 : (u + v) % p = u + v - p := by
        rw [Nat.mod_eq_sub_mod (by omega), Nat.mod_eq_of_lt (by omega)]
      have h5 : (u + v) / p = 1 := by
        rw [Nat.div_eq_sub_div h0 (by omega), Nat.div_eq_of_lt (by omega)]
      rw [h5, if_pos (by omega)]
  rw [hc] at e1 e2
  rw [hc] at e2
  have := Nat.div_add_mod (digB b (A - B) k + digB b B k + borrowB b A B k) b
  rw [e1, e2] at this
  omega
end
abbrev bW : Nat := 6277101735386680763835789423207666416102355444464034512896
def dig (A k : Nat) : Nat := digB 4294967296 A k
abbrev limbs (n A : Nat) : List Nat := limbsB 4294967296 n A
def mg (A : Nat) : List AV := u32s (limbs 6 A)
theorem limbs_length (n A : Nat) : (limbs n A).length = n := by simp [limbs, limbsB]
theorem dig_lt (A k : Nat) : dig A k < 4294967296 := Nat.mod_lt _ (by decide)
theorem limbs_lim (n A : Nat) : Lim (limbs n A) := by
  intro x hx; obtain ⟨k, _, rfl⟩ := List.mem_map.1 hx; exact dig_lt A k
theorem limbs_get {n A k : Nat} (h : k < n) : (limbs n A).getD k 0 = dig A k := by
  simp [dig, limbs, limbsB, List.getD_eq_getElem?_getD, h]
theorem mg_length (A : Nat) : (mg A).length = 6 := by simp [mg, u32s_length, limbs_length]
theorem mg_get {A k : Nat} (h : k < 6) : (mg A).getD k .junk = .raw (.int .u32 ((dig A k : Nat) : Int)) := by
  unfold mg; rw [u32s_get (by rw [limbs_length]; exact h), limbs_get h]
theorem mg_drop_get {A k : Nat} (h : k < 6) : ((mg A).drop k).getD 0 .junk = .raw (.int .u32 ((dig A k : Nat) : Int)) := by
  unfold mg; rw [u32s_drop_get (by rw [limbs_length]; exact h), limbs_get h]
theorem valL_eq_valB : ∀ l, valL l = valB 4294967296 l
  | [] => rfl
  | a :: l => by simp only [valL, valB, valL_eq_valB l]
theorem pow6 : 4294967296 ^ 6 = bW := by decide
theorem valL_limbs (A : Nat) : valL (limbs 6 A) = A % bW := by rw [valL_eq_valB, valB_limbs, pow6]
theorem mg_valL {l : List Nat} (hl : l.length = 6) (h : Lim l) : u32s l = mg (valL l) := by
  unfold mg; congr 1; rw [valL_eq_valB]; exact (limbsB_val (by decide) hl h).symm
/-- Digits that stand in a list. -/
theorem limbs_of {n A : Nat} {l : List Nat} (hl : l.length = n) (h : ∀ k, k < n → l.getD k 0 = dig A k) : l = limbs n A := by
  apply valL_eq (by rw [hl, limbs_length])
  intro j
  by_cases hj : j < n
  · rw [h j hj, limbs_get hj]
  · rw [getD_out (by omega), getD_out (by rw [limbs_length]; omega)]
/-- The size whose lowest places are those of A. -/
def low (A k : Nat) : Nat := A % 4294967296 ^ k
theorem dig_low {A k j : Nat} (h : j < k) : dig (low A k) j = dig A j := digB_low h
theorem dig_low_ge {A k j : Nat} (h : k ≤ j) : dig (low A k) j = 0 := digB_low_ge (by decide) h
theorem limbs_low_set {A k n : Nat} (h : k < n) : (limbs n (low A k)).set k (dig A k) = limbs n (low A (k + 1)) := by
  apply limbs_of (by simp [limbs_length])
  intro j hj
  by_cases hjk : j = k
  · subst hjk
    rw [dig_low (by omega)]
    have : j < (limbs n (low A j)).length := by rw [limbs_length]; exact h
    rw [List.getD_eq_getElem?_getD, List.getElem?_set_self this]; rfl
  · rw [List.getD_eq_getElem?_getD, List.getElem?_set_ne (Ne.symm hjk), ← List.getD_eq_getElem?_getD, limbs_get hj]
    by_cases hlt : j < k
    · rw [dig_low hlt, dig_low (by omega)]
    · rw [dig_low_ge (by omega), dig_low_ge (by omega)]
theorem low_zero (A : Nat) : low A 0 = 0 := by simp [low, Nat.mod_one]
theorem mg_low_wr {A k n : Nat} (h : k < 6) (hn : n = dig A k) : wr (mg (low A k)) k [.raw (.int .u32 (n : Int))] = mg (low A (k + 1)) := by
  subst hn
  unfold mg
  rw [u32s_wr (by rw [limbs_length]; exact h), limbs_low_set h]
theorem limbs_mod (A : Nat) : limbs 6 (A % bW) = limbs 6 A := by
  symm
  apply limbs_of (limbs_length _ _)
  intro k hk
  rw [limbs_get hk, ← pow6]
  exact (digB_low hk).symm
theorem mg_mod (A : Nat) : mg (A % bW) = mg A := by unfold mg; rw [limbs_mod]
theorem mg_low6 (A : Nat) : mg (low A 6) = mg A := by unfold low; rw [pow6, mg_mod]
def cmpI (x y : Nat) : Int := if x < y then -1 else if y < x then 1 else 0
def carry (A B k : Nat) : Nat := carryB 4294967296 A B k
theorem carry_zero (A B : Nat) : carry A B 0 = 0 := carryB_zero A B
theorem carry_le (A B k : Nat) : carry A B k ≤ 1 := carryB_le (by decide) A B k
theorem carry_succ (A B k : Nat) : (dig A k + dig B k + carry A B k) / 4294967296 = carry A B (k + 1) := carryB_succ (by decide) A B k
theorem dig_add (A B k : Nat) : (dig A k + dig B k + carry A B k) % 4294967296 = dig (A + B) k := digB_add (by decide) A B k
theorem carry6 (A B : Nat) : (((carry A B 6 : Nat) : Int) == 0) = decide (A % bW + B % bW < bW) := by
  have e : carry A B 6 = (A % bW + B % bW) / bW := by unfold carry carryB; rw [pow6]
  have h1 := Nat.mod_lt A (show 0 < bW by decide)
  have h2 := Nat.mod_lt B (show 0 < bW by decide)
  have h3 := Nat.div_eq_zero_iff (a := A % bW + B % bW) (b := bW)
  have h4 : bW ≠ 0 := by decide
  rw [e, Bool.eq_iff_iff, beq_iff_eq, decide_eq_true_eq]
  constructor
  · intro h; have := h3.1 (by omega); rcases this with h | h
    · exact absurd h h4
    · exact h
  · intro h; have := h3.2 (.inr h); omega
def borrow (A B k : Nat) : Nat := borrowB 4294967296 A B k
theorem borrow_zero (A B : Nat) : borrow A B 0 = 0 := borrowB_zero A B
theorem borrow_le (A B k : Nat) : borrow A B k ≤ 1 := by unfold borrow borrowB; split <;> omega
theorem borrow_succ (A B k : Nat) : borrow A B (k + 1) = if dig A k < dig B k + borrow A B k then 1 else 0 := borrowB_succ A B k
theorem dig_sub (A B k : Nat) (h : B ≤ A) : dig A k + 4294967296 * borrow A B (k + 1) = dig (A - B) k + dig B k + borrow A B k := digB_sub (by decide) A B k h
theorem mg_zero : mg 0 = raws (List.replicate 6 (.int .u32 0)) := by rfl
end Go.Proofs.Lite

namespace Go.Proofs.Lite
open Go
mutual
def noix : AV → Prop
  | .ptr _ _ | .sl _ _ _ _ _ | .mp _ => False
  | .agg cs | .tup cs | .fn _ cs => noixL cs
  | .junk | .raw _ | .ro _ _ _ | .rp _ => True
def noixL : List AV → Prop
  | [] => True
  | c :: cs => noix c ∧ noixL cs
end
mutual
theorem ren_noix {e m} : ∀ a : AV, noix a → ren e m a = a
  | .agg cs, h => by simp only [ren]; rw [renL_noix cs (by simpa [noix] using h)]
  | .tup cs, h => by simp only [ren]; rw [renL_noix cs (by simpa [noix] using h)]
  | .fn f cs, h => by simp only [ren]; rw [renL_noix cs (by simpa [noix] using h)]
  | .junk, _ => rfl
  | .raw _, _ => rfl
  | .ro .., _ => rfl
  | .rp .., _ => rfl
  | .ptr _ _, h => by simp [noix] at h
  | .sl _ _ _ _ _, h => by simp [noix] at h
  | .mp _, h => by simp [noix] at h
theorem renL_noix {e m} : ∀ cs : List AV, noixL cs → renL e m cs = cs
  | [], _ => rfl
  | c :: cs, h => by simp only [noixL] at h; simp only [renL]; rw [ren_noix c h.1, renL_noix cs h.2]
end
mutual
theorem slOk_noix {t : Nat → Bool} : ∀ a : AV, noix a → slOk t a
  | .agg cs, h => by simp only [slOk]; exact slOkL_noix cs (by simpa [noix] using h)
  | .tup cs, h => by simp only [slOk]; exact slOkL_noix cs (by simpa [noix] using h)
  | .fn f cs, h => by simp only [slOk]; exact slOkL_noix cs (by simpa [noix] using h)
  | .junk, _ => by simp [slOk]
  | .raw _, _ => by simp [slOk]
  | .ro .., _ => by simp [slOk]
  | .rp .., _ => by simp [slOk]
  | .ptr _ _, h => by simp [noix] at h
  | .sl _ _ _ _ _, h => by simp [noix] at h
  | .mp _, h => by simp [noix] at h
theorem slOkL_noix {t : Nat → Bool} : ∀ cs : List AV, noixL cs → slOkL t cs
  | [], _ => by simp [slOkL]
  | c :: cs, h => by simp only [noixL] at h; simp only [slOkL]; exact ⟨slOk_noix c h.1, slOkL_noix cs h.2⟩
end
mutual
theorem noix_clean : ∀ a : AV, clean a → noix a
  | .agg cs, h => by simp only [noix]; exact noixL_clean cs (by simpa [clean] using h)
  | .tup cs, h => by simp only [noix]; exact noixL_clean cs (by simpa [clean] using h)
  | .fn f cs, h => by simp only [noix]; exact noixL_clean cs (by simpa [clean] using h)
  | .junk, _ => by simp [noix]
  | .raw _, _ => by simp [noix]
  | .ro .., h => by simp [clean] at h
  | .rp .., h => by simp [clean] at h
  | .ptr _ _, h => by simp [clean] at h
  | .sl _ _ _ _ _, h => by simp [clean] at h
  | .mp _, h => by simp [clean] at h
theorem noixL_clean : ∀ cs : List AV, cleanL cs → noixL cs
  | [], _ => by simp [noixL]
  | c :: cs, h => by simp only [cleanL] at h; simp only [noixL]; exact ⟨noix_clean c h.1, noixL_clean cs h.2⟩
end
theorem argsOk_same {e m H bs} : ∀ {as : List AV}, noixL as → argsOk e m H bs as as
  | [], _ => by simp [argsOk]
  | a :: as, h => by simp only [noixL] at h; simp only [argsOk]; exact ⟨.inl (ren_noix a h.1).symm, argsOk_same h.2⟩
section
variable {P : Program} {f : FuncId} {H : Heap} {R K : AV → Heap → Prop}
/-- A call that is handed no memory. -/
theorem CallStep.plain {args : List AV} (h : Ct P f args [] R) (ha : noixL args) (hk : ∀ v H', R v H' → H' = [] ∧ noix v ∧ K v H) : CallStep P f args H K := by
  refine ⟨[], [], args, [], R, h, argsOk_same ha, by simp [embOk], by simp, slOkL_noix args ha, by simp [slOkH], fun v Hc' hR => ⟨fun h => absurd rfl h, ?_⟩⟩
  obtain ⟨rfl, h2, h3⟩ := hk v Hc' hR
  rw [ren_noix v h2]
  simpa [back, backs] using h3
/-- A call that is lent memory. -/
theorem CallStep.lend (bs : List Nat) {args : List AV} (argsc : List AV) (h : Ct P f argsc [] R) (hn : noixL argsc) (ha : argsOk [] H.length H bs args argsc) (hk : ∀ v H', R v H' → H' = [] ∧ clean v ∧ K v H) : CallStep P f args H K := by
  refine ⟨[], bs, argsc, [], R, h, ha, by simp [embOk], by simp, slOkL_noix argsc hn, by simp [slOkH], fun v Hc' hR => ?_⟩
  obtain ⟨rfl, h2, h3⟩ := hk v Hc' hR
  refine ⟨fun _ => ⟨noro_clean _ h2, by simp [cleanH]⟩, ?_⟩
  rw [ren_noix v (noix_clean v h2)]
  simpa [back, backs] using h3
theorem getD_c' {i : Nat} {cs : List AV} (h : H[i]? = some (.c cs)) : H.getD i .dead = .c cs := by
  rw [List.getD_eq_getElem?_getD, h]; rfl
/-- A call that is handed one piece of memory to write, beside what it is lent. -/
theorem CallStep.own1 (bs : List Nat) (i o : Nat) (cs seg : List AV) {args : List AV} (argsc : List AV) (h : Ct P f argsc [.c cs] R) (hi : H[i]? = some (.c seg)) (hb : i ∉ bs) (hlen : o + cs.length ≤ seg.length)
    (hseg : (seg.drop o).take cs.length = cs) (hcs : noixL cs) (ha : argsOk [(i, o)] H.length H bs args argsc) (hs : ∀ t, slOkL t argsc)
    (hk : ∀ v H', R v H' → ∃ cs', H' = [.c cs'] ∧ cs'.length = cs.length ∧ cleanL cs' ∧ clean v ∧ K v (H.set i (.c (seg.take o ++ (cs' ++ seg.drop (o + cs.length)))))) : CallStep P f args H K := by
  refine ⟨[(i, o)], bs, argsc, [.c cs], R, h, ha, ?_, by simp, hs _, ?_, fun v Hc' hR => ?_⟩
  · simp only [embOk, and_true]
    exact ⟨hb, seg, hi, hlen, by rw [renL_noix cs hcs]; exact hseg⟩
  · simp only [slOkH, and_true]; exact slOkL_noix cs hcs
  · obtain ⟨cs', rfl, h1, h2, h3, h4⟩ := hk v Hc' hR
    refine ⟨fun _ => ⟨noro_clean _ h3, by simp only [cleanH, and_true]; exact noroL_clean _ h2⟩, ?_⟩
    rw [ren_noix v (noix_clean v h3)]
    simp only [back, backs, back1, getD_c' hi, h1, true_or, if_true, renL_noix cs' (noixL_clean cs' h2), List.length_singleton, List.drop_succ_cons, List.drop_zero, List.map_nil, List.append_nil]
    exact h4
end
/-- A wide integer of a sign and a size. -/
def wd (neg : Bool) (A : Nat) : List AV := .raw (.bool neg) :: mg A
theorem wd_length (neg : Bool) (A : Nat) : (wd neg A).length = 7 := by simp [wd, mg_length]
theorem getD_c0 (x : Sg) (H : Heap) : List.getD (x :: H) 0 .dead = x := by rw [List.getD_cons_zero]
theorem ones_append {a b : List AV} : ones (a ++ b) ↔ ones a ∧ ones b := by
  induction a with
  | nil => simp [ones]
  | cons x a ih => simp only [List.cons_append, ones, ih, and_assoc]
theorem ones_u32s (l : List Nat) : ones (u32s l) := by
  induction l with
  | nil => trivial
  | cons a l ih => exact ⟨rfl, ih⟩
theorem ones_mg (A : Nat) : ones (mg A) := ones_u32s _
theorem ones_wd (n : Bool) (A : Nat) : ones (wd n A) := ⟨rfl, ones_mg A⟩
theorem clean_u32s (l : List Nat) : cleanL (u32s l) := by
  induction l with
  | nil => trivial
  | cons a l ih => exact ⟨trivial, ih⟩
theorem clean_mg (A : Nat) : cleanL (mg A) := clean_u32s _
theorem clean_wd (n : Bool) (A : Nat) : cleanL (wd n A) := ⟨trivial, clean_mg A⟩
theorem kindL_u32s (l : List Nat) : kindL .u32 (u32s l) := by
  induction l with
  | nil => trivial
  | cons a l ih => exact ⟨rfl, ih⟩
theorem kindL_mg (A : Nat) : kindL .u32 (mg A) := kindL_u32s _
theorem headK_mg (A : Nat) : headK (mg A) = .u32 := rfl
theorem eqL_u32s : ∀ a b : List Nat, eqL (u32s a) (u32s b) = (a == b)
  | [], [] => rfl
  | [], _ :: _ => rfl
  | _ :: _, [] => rfl
  | x :: a, y :: b => by
    have := eqL_u32s a b
    simp only [u32s, List.map_cons, eqL] at this ⊢
    rw [this]
    have : ((x : Int) == (y : Int)) = (x == y) := by
      rw [Bool.eq_iff_iff]; simp [Int.ofNat_inj]
    rw [this]; rfl
theorem limbs_eq_iff {A B : Nat} : limbs 6 A = limbs 6 B ↔ A % bW = B % bW := by
  constructor
  · intro h; rw [← valL_limbs A, h, valL_limbs]
  · intro h
    rw [← limbs_mod A, ← limbs_mod B, h]
theorem eqL_mg (A B : Nat) : eqL (mg A) (mg B) = decide (A % bW = B % bW) := by
  unfold mg
  rw [eqL_u32s, Bool.eq_iff_iff]
  simp [limbs_eq_iff]
theorem raws_mg0 : raws [.int .u32 0, .int .u32 0, .int .u32 0, .int .u32 0, .int .u32 0, .int .u32 0] = mg 0 := mg_zero.symm
theorem raws_wd0 : raws [.bool false, .int .u32 0, .int .u32 0, .int .u32 0, .int .u32 0, .int .u32 0, .int .u32 0] = wd false 0 := by
  show AV.raw (.bool false) :: raws [.int .u32 0, .int .u32 0, .int .u32 0, .int .u32 0, .int .u32 0, .int .u32 0] = _
  rw [raws_mg0]; rfl
theorem take_mg (A : Nat) : (mg A).take 6 = mg A := List.take_of_length_le (by rw [mg_length]; omega)
theorem take_wd (n : Bool) (A : Nat) : (wd n A).take 7 = wd n A := List.take_of_length_le (by rw [wd_length]; omega)
theorem wr_full {cs ds : List AV} (h : cs.length = ds.length) : wr cs 0 ds = ds := by
  simp only [wr, List.take_zero, List.nil_append, Nat.zero_add]
  rw [List.drop_eq_nil_of_le (by omega), List.append_nil]
theorem wr_mg (A B : Nat) : wr (mg A) 0 (mg B) = mg B := wr_full (by rw [mg_length, mg_length])
theorem wr_wd (n m : Bool) (A B : Nat) : wr (wd n A) 0 (wd m B) = wd m B := wr_full (by rw [wd_length, wd_length])
theorem mk_wd (n m : Bool) (A B : Nat) : wr (wr (wd n A) 0 [.raw (.bool m)]) 1 (mg B) = wd m B := by
  have : wr (wd n A) 0 [.raw (.bool m)] = wd m A := by simp [wr, wd]
  rw [this]
  simp only [wr, wd, List.take_succ_cons, List.take_zero, List.cons_append, List.nil_append, mg_length]
  rw [List.drop_eq_nil_of_le (by simp [mg_length]), List.append_nil]
mutual
theorem cut_noix {n : Nat} : ∀ a : AV, noix a → cutAV n a = a
  | .agg cs, h => by simp only [cutAV]; rw [cutL_noix cs (by simpa [noix] using h)]
  | .tup cs, h => by simp only [cutAV]; rw [cutL_noix cs (by simpa [noix] using h)]
  | .fn f cs, h => by simp only [cutAV]; rw [cutL_noix cs (by simpa [noix] using h)]
  | .junk, _ => rfl
  | .raw _, _ => rfl
  | .ro .., _ => rfl
  | .rp .., _ => rfl
  | .ptr _ _, h => by simp [noix] at h
  | .sl _ _ _ _ _, h => by simp [noix] at h
  | .mp _, h => by simp [noix] at h
theorem cutL_noix {n : Nat} : ∀ cs : List AV, noixL cs → cutL n cs = cs
  | [], _ => rfl
  | c :: cs, h => by simp only [noixL] at h; simp only [cutL]; rw [cut_noix c h.1, cutL_noix cs h.2]
end
/-- At the end what is made here, and not handed back, falls away. -/
theorem aexit_cut {n0 : Nat} {rs : List RV} {R : AV → Heap → Prop} {T : List AV} {H : Heap} (h1 : (rets T H rs).1) (h2 : noix (rets T H rs).2) (h3 : R (rets T H rs).2 (cutH n0 H)) : aexit n0 rs R .ret T H := by
  refine ⟨h1, _, _, ?_, h3⟩
  have := Wk.cut (n0 := n0) (T := [(rets T H rs).2]) (H := H) (Nat.le_refl n0)
  simp only [cutL, cut_noix _ h2] at this
  exact this
theorem noix_wd (n : Bool) (A : Nat) : noix (.agg (wd n A)) := by simp only [noix]; exact noixL_clean _ (clean_wd n A)
theorem shr32 (s : Nat) : Int.fdiv (s : Int) (2 ^ min (Int.toNat 32) IntKind.u64.bits) = ((s / 4294967296 : Nat) : Int) := by
  show Int.fdiv (s : Int) (4294967296 : Int) = _
  rw [Int.fdiv_eq_ediv_of_nonneg _ (by decide)]
  omega
theorem drop1_wd (n : Bool) (A : Nat) : (wd n A).drop 1 = mg A := by
  have : ∀ (l : List AV), (AV.raw (.bool n) :: l).drop 1 = l := fun l => by rw [List.drop_succ_cons, List.drop_zero]
  exact this _
theorem getD0_wd (n : Bool) (A : Nat) : (wd n A).getD 0 .junk = .raw (.bool n) := by
  have : ∀ (l : List AV), (AV.raw (.bool n) :: l).getD 0 .junk = .raw (.bool n) := fun l => by rw [List.getD_cons_zero]
  exact this _
/-- The wide integer of a value. -/
def wi (n : Int) : List AV := wd (decide (n < 0)) n.natAbs
theorem made_wi (n : Bool) (A : Nat) (h : A < bW) : wd (n && !decide (A % bW = 0)) A = wi (if n then -(A : Int) else A) := by
  unfold wi
  rw [Nat.mod_eq_of_lt h]
  cases n with
  | false =>
    show wd false A = wd (decide ((A : Int) < 0)) ((A : Int).natAbs)
    rw [Int.natAbs_natCast, decide_eq_false (by omega)]
  | true =>
    simp only [if_true, Bool.true_and, Int.natAbs_neg, Int.natAbs_natCast]
    congr 1
    rw [Bool.eq_iff_iff]; simp; omega
theorem wi_zero : wi 0 = wd false 0 := rfl
theorem ones_wi (n : Int) : ones (wi n) := ones_wd _ _
theorem clean_wi (n : Int) : cleanL (wi n) := clean_wd _ _
theorem wi_length (n : Int) : (wi n).length = 7 := wd_length _ _
theorem noix_wi (n : Int) : noix (.agg (wi n)) := noix_wd _ _
theorem lendMg {e : List (Nat × Nat)} {m : Nat} {H : Heap} {bs : List Nat} {i : Nat} {A : Nat} (hi : H[i]? = some (.c (mg A))) (hm : i ∈ bs) : argOk e m H bs (.ptr i 0) (.rp (mg A)) :=
  .inr (.inl ⟨i, 0, _, mg A, rfl, rfl, hi, hm, by simp, by simp [mg_length, take_mg], clean_mg A⟩)
theorem wd_minus (A : Nat) (h : A < bW) : wd (!decide (A % bW = 0)) A = wi (-(A : Int)) := by
  have := made_wi true A h
  simpa only [Bool.true_and, if_true] using this
theorem wd_plus (A : Nat) : wd false A = wi (A : Int) := by
  show wd false A = wd (decide ((A : Int) < 0)) ((A : Int).natAbs)
  rw [Int.natAbs_natCast, decide_eq_false (by omega)]
end Go.Proofs.Lite

namespace Go.Proofs.Lite
open Go
section
variable {P : Program} {n0 base : Nat} {T : List AV} {H : Heap}
theorem ast_call {K : AV → Heap → Prop} {f xs} : astep P base T H K (.call f xs) = (CallStep P f (xs.map (ev T)) H K) := propext ⟨fun h => h, fun h => h⟩
theorem ast_load {K : AV → Heap → Prop} {ag n x} : astep P base T H K (.load ag n x) = ((lr T H (.load ag n x)).1 ∧ K (lr T H (.load ag n x)).2 H) := propext ⟨fun h => h, fun h => h⟩
theorem ast_sarr {K : AV → Heap → Prop} {len z x lo hi} : astep P base T H K (.sarr len z x lo hi) = ((lr T H (.sarr len z x lo hi)).1 ∧ K (lr T H (.sarr len z x lo hi)).2 H) := propext ⟨fun h => h, fun h => h⟩
theorem ast_alloc {K : AV → Heap → Prop} {z} : astep P base T H K (.alloc z) = ((er T H base (.alloc z)).1 ∧ K (er T H base (.alloc z)).2.1 (er T H base (.alloc z)).2.2) := propext ⟨fun h => h, fun h => h⟩
theorem ast_allocAt {K : AV → Heap → Prop} {r z} : astep P base T H K (.allocAt r z) = ((er T H base (.allocAt r z)).1 ∧ K (er T H base (.allocAt r z)).2.1 (er T H base (.allocAt r z)).2.2) := propext ⟨fun h => h, fun h => h⟩
theorem ast_box {K : AV → Heap → Prop} {x} : astep P base T H K (.box x) = ((er T H base (.box x)).1 ∧ K (er T H base (.box x)).2.1 (er T H base (.box x)).2.2) := propext ⟨fun h => h, fun h => h⟩
theorem ast_boxAt {K : AV → Heap → Prop} {r x} : astep P base T H K (.boxAt r x) = ((er T H base (.boxAt r x)).1 ∧ K (er T H base (.boxAt r x)).2.1 (er T H base (.boxAt r x)).2.2) := propext ⟨fun h => h, fun h => h⟩
theorem ast_store {K : AV → Heap → Prop} {n x v} : astep P base T H K (.store n x v) = ((er T H base (.store n x v)).1 ∧ K (er T H base (.store n x v)).2.1 (er T H base (.store n x v)).2.2) := propext ⟨fun h => h, fun h => h⟩
theorem ast_bsl {K : AV → Heap → Prop} {z len zero parts} : astep P base T H K (.bsl z len zero parts) = ((er T H base (.bsl z len zero parts)).1 ∧ K (er T H base (.bsl z len zero parts)).2.1 (er T H base (.bsl z len zero parts)).2.2) := propext ⟨fun h => h, fun h => h⟩
theorem ast_msl {K : AV → Heap → Prop} {z b zero l c} : astep P base T H K (.msl z b zero l c) = ((er T H base (.msl z b zero l c)).1 ∧ K (er T H base (.msl z b zero l c)).2.1 (er T H base (.msl z b zero l c)).2.2) := propext ⟨fun h => h, fun h => h⟩
theorem ast_app {K : AV → Heap → Prop} {z b s x} : astep P base T H K (.app z b s x) = ((er T H base (.app z b s x)).1 ∧ K (er T H base (.app z b s x)).2.1 (er T H base (.app z b s x)).2.2) := propext ⟨fun h => h, fun h => h⟩
theorem ast_cpy {K : AV → Heap → Prop} {z d s} : astep P base T H K (.cpy z d s) = ((er T H base (.cpy z d s)).1 ∧ K (er T H base (.cpy z d s)).2.1 (er T H base (.cpy z d s)).2.2) := propext ⟨fun h => h, fun h => h⟩
theorem ast_mv {K : AV → Heap → Prop} {x} : astep P base T H K (.mv x) = ((pr T (.mv x)).1 ∧ K (pr T (.mv x)).2 H) := propext ⟨fun h => h, fun h => h⟩
theorem ast_pick {K : AV → Heap → Prop} {c a b} : astep P base T H K (.pick c a b) = ((pr T (.pick c a b)).1 ∧ K (pr T (.pick c a b)).2 H) := propext ⟨fun h => h, fun h => h⟩
theorem ast_bin {K : AV → Heap → Prop} {op x y} : astep P base T H K (.bin op x y) = ((pr T (.bin op x y)).1 ∧ K (pr T (.bin op x y)).2 H) := propext ⟨fun h => h, fun h => h⟩
theorem ast_beq {K : AV → Heap → Prop} {n x y} : astep P base T H K (.beq n x y) = ((pr T (.beq n x y)).1 ∧ K (pr T (.beq n x y)).2 H) := propext ⟨fun h => h, fun h => h⟩
theorem ast_eqs {K : AV → Heap → Prop} {n k x y} : astep P base T H K (.eqs n k x y) = ((pr T (.eqs n k x y)).1 ∧ K (pr T (.eqs n k x y)).2 H) := propext ⟨fun h => h, fun h => h⟩
theorem ast_un {K : AV → Heap → Prop} {op x} : astep P base T H K (.un op x) = ((pr T (.un op x)).1 ∧ K (pr T (.un op x)).2 H) := propext ⟨fun h => h, fun h => h⟩
theorem ast_conv {K : AV → Heap → Prop} {k x} : astep P base T H K (.conv k x) = ((pr T (.conv k x)).1 ∧ K (pr T (.conv k x)).2 H) := propext ⟨fun h => h, fun h => h⟩
theorem ast_nilc {K : AV → Heap → Prop} {x} : astep P base T H K (.nilc x) = ((pr T (.nilc x)).1 ∧ K (pr T (.nilc x)).2 H) := propext ⟨fun h => h, fun h => h⟩
theorem ast_fad {K : AV → Heap → Prop} {o x} : astep P base T H K (.fad o x) = ((pr T (.fad o x)).1 ∧ K (pr T (.fad o x)).2 H) := propext ⟨fun h => h, fun h => h⟩
theorem ast_fld {K : AV → Heap → Prop} {a n o x} : astep P base T H K (.fld a n o x) = ((pr T (.fld a n o x)).1 ∧ K (pr T (.fld a n o x)).2 H) := propext ⟨fun h => h, fun h => h⟩
theorem ast_iarr {K : AV → Heap → Prop} {l z x i} : astep P base T H K (.iarr l z x i) = ((pr T (.iarr l z x i)).1 ∧ K (pr T (.iarr l z x i)).2 H) := propext ⟨fun h => h, fun h => h⟩
theorem ast_isl {K : AV → Heap → Prop} {z x i} : astep P base T H K (.isl z x i) = ((pr T (.isl z x i)).1 ∧ K (pr T (.isl z x i)).2 H) := propext ⟨fun h => h, fun h => h⟩
theorem ast_aidx {K : AV → Heap → Prop} {a l z x i} : astep P base T H K (.aidx a l z x i) = ((pr T (.aidx a l z x i)).1 ∧ K (pr T (.aidx a l z x i)).2 H) := propext ⟨fun h => h, fun h => h⟩
theorem ast_sidx {K : AV → Heap → Prop} {x i} : astep P base T H K (.sidx x i) = ((pr T (.sidx x i)).1 ∧ K (pr T (.sidx x i)).2 H) := propext ⟨fun h => h, fun h => h⟩
theorem ast_ssl {K : AV → Heap → Prop} {z x lo hi} : astep P base T H K (.ssl z x lo hi) = ((pr T (.ssl z x lo hi)).1 ∧ K (pr T (.ssl z x lo hi)).2 H) := propext ⟨fun h => h, fun h => h⟩
theorem ast_sstr {K : AV → Heap → Prop} {x lo hi} : astep P base T H K (.sstr x lo hi) = ((pr T (.sstr x lo hi)).1 ∧ K (pr T (.sstr x lo hi)).2 H) := propext ⟨fun h => h, fun h => h⟩
theorem ast_ext {K : AV → Heap → Prop} {k x} : astep P base T H K (.ext k x) = ((pr T (.ext k x)).1 ∧ K (pr T (.ext k x)).2 H) := propext ⟨fun h => h, fun h => h⟩
theorem ast_build {K : AV → Heap → Prop} {z ps} : astep P base T H K (.build z ps) = ((pr T (.build z ps)).1 ∧ K (pr T (.build z ps)).2 H) := propext ⟨fun h => h, fun h => h⟩
theorem ast_lens {K : AV → Heap → Prop} {x} : astep P base T H K (.lens x) = ((pr T (.lens x)).1 ∧ K (pr T (.lens x)).2 H) := propext ⟨fun h => h, fun h => h⟩
theorem ast_lstr {K : AV → Heap → Prop} {x} : astep P base T H K (.lstr x) = ((pr T (.lstr x)).1 ∧ K (pr T (.lstr x)).2 H) := propext ⟨fun h => h, fun h => h⟩
theorem ast_lenc {K : AV → Heap → Prop} {n} : astep P base T H K (.lenc n) = ((pr T (.lenc n)).1 ∧ K (pr T (.lenc n)).2 H) := propext ⟨fun h => h, fun h => h⟩
theorem ast_mm {K : AV → Heap → Prop} {b xs} : astep P base T H K (.mm b xs) = ((pr T (.mm b xs)).1 ∧ K (pr T (.mm b xs)).2 H) := propext ⟨fun h => h, fun h => h⟩
theorem ast_mkfn {K : AV → Heap → Prop} {f cs} : astep P base T H K (.mkfn f cs) = ((pr T (.mkfn f cs)).1 ∧ K (pr T (.mkfn f cs)).2 H) := propext ⟨fun h => h, fun h => h⟩
theorem ast_s2a {K : AV → Heap → Prop} {n z x} : astep P base T H K (.s2a n z x) = ((pr T (.s2a n z x)).1 ∧ K (pr T (.s2a n z x)).2 H) := propext ⟨fun h => h, fun h => h⟩
theorem ast_snil {K : AV → Heap → Prop} {b x} : astep P base T H K (.snil b x) = ((pr T (.snil b x)).1 ∧ K (pr T (.snil b x)).2 H) := propext ⟨fun h => h, fun h => h⟩
theorem ast_bslAt {K : AV → Heap → Prop} {r z len zero parts} : astep P base T H K (.bslAt r z len zero parts) = ((er T H base (.bslAt r z len zero parts)).1 ∧ K (er T H base (.bslAt r z len zero parts)).2.1 (er T H base (.bslAt r z len zero parts)).2.2) := propext ⟨fun h => h, fun h => h⟩
theorem ast_callv {K : AV → Heap → Prop} {x xs} : astep P base T H K (.callv x xs) = (match ev T x with
    | .fn f caps => callable P f = true ∧ CallStep P f (xs.map (ev T) ++ caps) H K
    | _ => False) := propext ⟨fun h => h, fun h => h⟩
theorem op_none {d : Option Nat} {op : LOp} {K : List AV → Heap → Prop} : aop P base ⟨d, none, op⟩ T H K = astep P base T H (fun v H' => K (putA T d v) H') op := propext ⟨fun h => h, fun h => h⟩
theorem op_some {d : Option Nat} {t : Nat} {w : Bool} {op : LOp} {K : List AV → Heap → Prop} : aop P base ⟨d, some (t, w), op⟩ T H K = (match T.getD t .junk with
    | .raw (.bool b) => if b = w then astep P base T H (fun v H' => K (putA T d v) H') op else K (putA T d (.raw (.tuple #[]))) H
    | .raw (.tuple _) => K (putA T d (.raw (.tuple #[]))) H
    | _ => False) := by
  unfold aop
  simp only []
  generalize T.getD t .junk = x
  split
  · rename_i b
    cases b <;> cases w <;> simp
  · rfl
  · rename_i hne hne2
    first
      | rfl
      | (split
         · rename_i b; exact (hne b rfl).elim
         · rename_i b; exact (hne2 b rfl).elim
         · rfl)
theorem ops_nil {K : List AV → Heap → Prop} : aops P base K [] T H = K T H := propext ⟨fun h => h, fun h => h⟩
theorem ops_cons {K : List AV → Heap → Prop} {o : LO} {r : List LO} : aops P base K (o :: r) T H = aop P base o T H (aops P base K r) := propext ⟨fun h => h, fun h => h⟩
theorem plan_nil {all : List PE} {K : List AV → Heap → Prop} : planOk P base all K [] T H = K T H := propext ⟨fun h => h, fun h => h⟩
theorem plan_cons {all : List PE} {K : List AV → Heap → Prop} {i : Nat} {o : LO} {bef ws : List Nat} {r : List PE} : planOk P base all K (⟨i, o, bef, ws⟩ :: r) T H = aop P base o T H (fun T' H' => wok all T' H' ws ∧ planOk P base all K r T' H') := propext ⟨fun h => h, fun h => h⟩
theorem wok_nil {all : List PE} : wok all T H [] = True := propext ⟨fun h => h, fun h => h⟩
theorem wok_cons {all : List PE} {i : Nat} {r : List Nat} : wok all T H (i :: r) = (wok1 all T H i ∧ wok all T H r) := propext ⟨fun h => h, fun h => h⟩
theorem wp_skip' {Q : Post} : awp P n0 .skip Q T H = Q .normal T H := propext ⟨fun h => h, fun h => h⟩
theorem wp_reg' {Q : Post} {ops : List LO} : awp P n0 (.reg ops) Q T H = aops P 0 (Q .normal) ops T H := propext ⟨fun h => h, fun h => h⟩
theorem wp_dreg' {Q : Post} {n : Nat} {plan : List PE} : awp P n0 (.dreg n plan) Q T H = planOk P H.length plan (Q .normal) plan T (H ++ List.replicate n .res) := propext ⟨fun h => h, fun h => h⟩
theorem wp_seq' {Q : Post} {a b : LC} : awp P n0 (.seq a b) Q T H = awp P n0 a (athen (awp P n0 b Q) Q) T H := propext ⟨fun h => h, fun h => h⟩
theorem wp_cond' {Q : Post} {c : Operand} {a b : LC} : awp P n0 (.cond c a b) Q T H = (match ev T c with
    | .raw (.bool t) => if t = true then awp P n0 a Q T H else awp P n0 b Q T H
    | _ => False) := by
  simp only [awp]
  generalize ev T c = x
  split
  · rename_i t
    cases t <;> simp
  · rename_i hne
    first
      | rfl
      | (split
         · rename_i b; exact (hne b rfl).elim
         · rfl)
theorem wp_block' {Q : Post} {id : Nat} {b : LC} : awp P n0 (.block id b) Q T H = awp P n0 b (ablock id Q) T H := propext ⟨fun h => h, fun h => h⟩
theorem wp_loop' {Q : Post} {b : LC} : awp P n0 (.loop b) Q T H = Sound P n0 (.loop b) Q T H := propext ⟨fun h => h, fun h => h⟩
theorem wp_exit' {Q : Post} {id : Nat} : awp P n0 (.exit id) Q T H = Q (.exit id) T H := propext ⟨fun h => h, fun h => h⟩
theorem wp_ret' {Q : Post} : awp P n0 .ret Q T H = Q .ret T H := propext ⟨fun h => h, fun h => h⟩
theorem th_normal {next : List AV → Heap → Prop} {Q : Post} : athen next Q .normal T H = next T H := propext ⟨fun h => h, fun h => h⟩
theorem th_exit {next : List AV → Heap → Prop} {Q : Post} {i : Nat} : athen next Q (.exit i) T H = Q (.exit i) T H := propext ⟨fun h => h, fun h => h⟩
theorem th_ret {next : List AV → Heap → Prop} {Q : Post} : athen next Q .ret T H = Q .ret T H := propext ⟨fun h => h, fun h => h⟩
theorem bl_normal {id : Nat} {Q : Post} : ablock id Q .normal T H = Q .normal T H := propext ⟨fun h => h, fun h => h⟩
theorem bl_exit {id j : Nat} {Q : Post} : ablock id Q (.exit j) T H = (if j = id then Q .normal T H else Q (.exit j) T H) := propext ⟨fun h => h, fun h => h⟩
theorem bl_ret {id : Nat} {Q : Post} : ablock id Q .ret T H = Q .ret T H := propext ⟨fun h => h, fun h => h⟩
end
end Go.Proofs.Lite
