/- A layer over the walk, contracts of functions, and plain laws: parts of the proof in YtbeaahjinehpbaaProof. -/
import Derived.ProofKit
import Derived.OpenShut
import Derived.JoinedCond
import Derived.Test.YtbeaahjinehpbaaEx
set_option linter.all false
namespace Go.Proofs.Lite
open Go Go.RowKit Go.ChangeShapes Go.WideShapes
/-! From the rows of the statements to contracts: what is read as data is known, and stays. -/
noncomputable def storeOf (W : World) : Store := fun a => W.cell? a
theorem inv0_start (W : World) : Inv0 (storeOf W) [] [] W :=
  ⟨rfl, fun _ _ h => h, fun i cs h => by simp at h, fun i cs h => by simp at h, fun i h => by simp at h, fun i j li lj _ h => by rcases h with ⟨c, h⟩ | ⟨c, h⟩ <;> simp at h⟩

section
variable {P : Program}
/-- What cells of a type are known to be, when they are read as data. -/
def ReadsC (P : Program) (t : TypeId) (S : List AV → Prop) : Prop :=
  ∀ (H : Type) (enc : TypeId × Value → H) (W : World) (sp : Nat → Bool) (held : Bool) (fuel : Nat) (cs : List Value) (x : DataW H × List MemPlace), DataW.trod enc P W 0 sp held fuel t cs = some x → ∃ as, S as ∧ RepL (storeOf W) [] as cs
theorem readsC_int {t : TypeId} {k : IntKind} (ht : P.underlying t = some (.int k)) : ReadsC P t (fun as => ∃ n, (Lit.int k n).wf = true ∧ as = [.raw (.int k n)]) := by
  intro H enc W sp held fuel cs x h
  obtain ⟨n, rfl, -, hw⟩ := DataW.trod_int ht h
  exact ⟨_, ⟨n, hw, rfl⟩, by simp [RepL, Rep]⟩
theorem readsC_bool {t : TypeId} (ht : P.underlying t = some .bool) : ReadsC P t (fun as => ∃ b, as = [.raw (.bool b)]) := by
  intro H enc W sp held fuel cs x h
  obtain ⟨n, rfl, -⟩ := DataW.trod_bool ht h
  exact ⟨_, ⟨n, rfl⟩, by simp [RepL, Rep]⟩
theorem readsC_string {t : TypeId} (ht : P.underlying t = some .string) : ReadsC P t (fun as => ∃ s : ByteArray, s.size ≤ 9223372036854775807 ∧ as = [.raw (.string s)]) := by
  intro H enc W sp held fuel cs x h
  obtain ⟨n, rfl, -, hw⟩ := DataW.trod_string ht h
  exact ⟨_, ⟨n, hw, rfl⟩, by simp [RepL, Rep]⟩
/-- Pieces one behind the other. -/
theorem repL_flatten {D : Store} {z : Nat} {S : List AV → Prop} : ∀ {n : Nat} {cs : List Value}, cs.length = n * z → (∀ i, i < n → ∃ as, S as ∧ RepL D [] as ((cs.drop (i * z)).take z)) →
    ∃ parts : List (List AV), parts.length = n ∧ (∀ p ∈ parts, S p ∧ p.length = z) ∧ RepL D [] parts.flatten cs
  | 0, cs, hl, _ => ⟨[], rfl, fun p hp => (by cases hp), by have : cs = [] := List.length_eq_zero_iff.1 (by omega); subst this; simp [RepL]⟩
  | n + 1, cs, hl, h => by
    obtain ⟨a, ha, hr⟩ := h 0 (by omega)
    rw [Nat.zero_mul, List.drop_zero] at hr
    have hl2 : (cs.drop z).length = n * z := by rw [List.length_drop, hl, Nat.succ_mul]; omega
    obtain ⟨parts, h1, h2, h3⟩ := repL_flatten (D := D) (S := S) hl2 (fun i hi => by
      obtain ⟨b, hb, hb2⟩ := h (i + 1) (by omega)
      refine ⟨b, hb, ?_⟩
      rw [List.drop_drop, show z + i * z = (i + 1) * z from by rw [Nat.succ_mul]; omega]
      exact hb2)
    have hal : a.length = z := by
      have := hr.length
      rw [List.length_take, hl, Nat.succ_mul] at this
      omega
    refine ⟨a :: parts, by simp [h1], ?_, ?_⟩
    · intro p hp
      rcases List.mem_cons.1 hp with rfl | hp
      · exact ⟨ha, hal⟩
      · exact h2 p hp
    · have := hr.append h3
      rwa [List.take_append_drop] at this
theorem readsC_array {t e : TypeId} {n z : Nat} {S : List AV → Prop} (ht : P.underlying t = some (.array n e)) (hz : P.cellsOf e = z) (hn : P.cellsOf t = n * z) (he : ReadsC P e S) :
    ReadsC P t (fun as => ∃ parts : List (List AV), parts.length = n ∧ (∀ p ∈ parts, S p ∧ p.length = z) ∧ as = parts.flatten) := by
  intro H enc W sp held fuel cs x h
  obtain ⟨xs, m, -, -, hl, hxs, hi⟩ := DataW.trod_array ht h
  rw [hn] at hl
  rw [hz] at hi
  obtain ⟨parts, h1, h2, h3⟩ := repL_flatten (D := storeOf W) (S := S) hl (fun i hin => by
    have := hi i hin
    rw [List.getElem?_eq_getElem (by omega)] at this
    exact he H enc W sp held m _ _ this)
  exact ⟨_, ⟨parts, h1, h2, rfl⟩, h3⟩
/-- Fields one behind the other. -/
def FieldsS : List (List AV → Prop) → List AV → Prop
  | [], as => as = []
  | S :: r, as => ∃ a b, S a ∧ FieldsS r b ∧ as = a ++ b
inductive ReadsFs (P : Program) : Nat → Nat → List Field → List (List AV → Prop) → Prop
  | nil {o : Nat} : ReadsFs P o o [] []
  | cons {o o' : Nat} {f : Field} {fs : List Field} {S : List AV → Prop} {Ss : List (List AV → Prop)} (z : Nat) : f.offset = o → P.cellsOf f.type = z → ReadsC P f.type S → ReadsFs P (o + z) o' fs Ss → ReadsFs P o o' (f :: fs) (S :: Ss)
theorem ReadsFs.le {o o' : Nat} {fs : List Field} {Ss : List (List AV → Prop)} (h : ReadsFs P o o' fs Ss) : o ≤ o' := by
  induction h with
  | nil => exact Nat.le_refl _
  | cons z _ _ _ _ ih => omega
theorem ReadsFs.rep {o o' : Nat} {fs : List Field} {Ss : List (List AV → Prop)} (h : ReadsFs P o o' fs Ss) {H : Type} {enc : TypeId × Value → H} {W : World} {sp : Nat → Bool} {held : Bool} {fuel : Nat} {cs : List Value} (hl : cs.length = o')
    (hf : ∀ f ∈ fs, ∃ x, DataW.trod enc P W 0 sp held fuel f.type ((cs.drop f.offset).take (P.cellsOf f.type)) = some x) : ∃ as, FieldsS Ss as ∧ RepL (storeOf W) [] as (cs.drop o) := by
  induction h with
  | @nil o => exact ⟨[], rfl, by rw [List.drop_of_length_le (by omega)]; simp [RepL]⟩
  | @cons o o' f fs S Ss z h1 h2 h3 h4 ih =>
    obtain ⟨b, hb, hb2⟩ := ih hl (fun g hg => hf g (by simp [hg]))
    obtain ⟨x, hx⟩ := hf f (by simp)
    obtain ⟨a, ha, ha2⟩ := h3 H enc W sp held fuel _ _ hx
    rw [h1, h2] at ha2
    refine ⟨a ++ b, ⟨a, b, ha, hb, rfl⟩, ?_⟩
    have := ha2.append hb2
    rwa [show cs.drop (o + z) = (cs.drop o).drop z from by rw [List.drop_drop], List.take_append_drop] at this
theorem readsC_struct {t : TypeId} {fs : Array Field} {n : Nat} {Ss : List (List AV → Prop)} (ht : P.underlying t = some (.struct fs)) (hn : P.cellsOf t = n) (h : ReadsFs P 0 n fs.toList Ss) : ReadsC P t (FieldsS Ss) := by
  intro H enc W sp held fuel cs x hx
  obtain ⟨xs, m, -, -, hl, hxs, hi⟩ := DataW.trod_struct ht hx
  obtain ⟨as, h1, h2⟩ := h.rep (enc := enc) (W := W) (sp := sp) (held := held) (fuel := m) (cs := cs) (by omega) (fun f hf => by
    obtain ⟨i, hi1, hi2⟩ := List.getElem_of_mem hf
    have hg : fs[i]? = some f := by
      rw [← hi2]; simp
    have := hi i f hg
    rw [List.getElem?_eq_getElem (by rw [hxs]; simpa using hi1)] at this
    exact ⟨_, this⟩)
  exact ⟨as, h1, by simpa using h2⟩
theorem cells?_get {W : World} {a : Addr} {n : Nat} {cs : List Value} (h : W.cells? 0 a n = some cs) : cs.length = n ∧ ∀ k, k < n → ∃ v, cs[k]? = some v ∧ W.cell? (a.add k) = some v := by
  unfold World.cells? at h
  rw [if_pos (Nat.zero_le _)] at h
  have hl := mapM_some_length h
  rw [List.length_range] at hl
  refine ⟨hl, fun k hk => ?_⟩
  have := mapM_some_get h k k (by simp [hk])
  rw [List.getElem?_eq_getElem (by omega)] at this
  exact ⟨_, List.getElem?_eq_getElem (by omega), this⟩
theorem addr_at {a : Addr} {k : Nat} (h : a.spot = none) : a.add k = ⟨a.block, a.off + k, none⟩ := by
  unfold Addr.add
  split
  · rename_i e; subst e; rw [← h]; rfl
  · rfl
/-- Cells of the world stay in the world's known store. -/
theorem repRow_of {W : World} {a : Addr} : ∀ {as : List AV} {vs : List Value} (o : Nat), RepL (storeOf W) [] as vs → (∀ k v, vs[k]? = some v → W.cell? ⟨a.block, a.off + (o + k), none⟩ = some v ∧ a.spot = none) → RepRow (storeOf W) (some a) o as
  | [], [], _, _, _ => by simp [RepRow]
  | c :: as, v :: vs, o, h, hc => by
    simp only [RepL] at h
    simp only [RepRow]
    obtain ⟨h1, h2⟩ := hc 0 v rfl
    refine ⟨⟨a, v, rfl, h2, h1, h.1⟩, repRow_of (o + 1) h.2 (fun k v hk => ?_)⟩
    obtain ⟨h3, h4⟩ := hc (k + 1) v (by simpa using hk)
    exact ⟨by rw [show o + 1 + k = o + (k + 1) from by omega]; exact h3, h4⟩
  | [], _ :: _, _, h, _ => by simp [RepL] at h
  | _ :: _, [], _, h, _ => by simp [RepL] at h
theorem readsC_slice {t e : TypeId} {z : Nat} {S : List AV → Prop} (ht : P.underlying t = some (.slice e)) (hz : P.cellsOf e = z) (he : ReadsC P e S) :
    ReadsC P t (fun as => ∃ parts : List (List AV), parts.length ≤ 9223372036854775807 ∧ (∀ p ∈ parts, S p ∧ p.length = z) ∧ as = [.ro z parts.length parts.flatten]) := by
  intro H enc W sp held fuel cs x h
  rcases DataW.trod_slice ht h with ⟨rfl, -⟩ | ⟨a, len, cap, elems, rest, n, -, rfl, -, -, hlc, hcm, hel, hi, -, -⟩
  · exact ⟨_, ⟨[], by simp, fun p hp => (by cases hp), rfl⟩, by simp [RepL, Rep, RepRow]⟩
  · rw [hz] at hi
    -- the cells of all elements
    have each : ∀ i, i < len → ∃ cs, W.cells? 0 (a.add (i * z)) z = some cs ∧ ∃ as, S as ∧ RepL (storeOf W) [] as cs := by
      intro i hil
      have := hi i hil
      rw [List.getElem?_eq_getElem (by omega), Option.bind_eq_some_iff] at this
      obtain ⟨cs, h1, h2⟩ := this
      exact ⟨cs, h1, he H enc W sp held n _ _ h2⟩
    have key : ∀ m, m ≤ len → ∃ parts : List (List AV), parts.length = m ∧ (∀ p ∈ parts, S p ∧ p.length = z) ∧ RepRow (storeOf W) (some a) 0 parts.flatten := by
      intro m
      induction m with
      | zero => intro _; exact ⟨[], rfl, fun p hp => (by cases hp), by simp [RepRow]⟩
      | succ m ih =>
        intro hm
        obtain ⟨parts, h1, h2, h3⟩ := ih (by omega)
        obtain ⟨cs, hcs, as, hs, hr⟩ := each m (by omega)
        obtain ⟨hl, hg⟩ := cells?_get hcs
        have hal : as.length = z := by rw [hr.length, hl]
        have hfl : parts.flatten.length = m * z := by
          rw [← h1]
          clear h3 hr hs h1
          induction parts with
          | nil => simp
          | cons p ps ih2 =>
            rw [List.flatten_cons, List.length_append, ih2 (fun q hq => h2 q (by simp [hq])), (h2 p (by simp)).2, List.length_cons, Nat.succ_mul]; omega
        refine ⟨parts ++ [as], by simp [h1], ?_, ?_⟩
        · intro p hp
          rcases List.mem_append.1 hp with hp | hp
          · exact h2 p hp
          · simp at hp; subst hp; exact ⟨hs, hal⟩
        · rw [List.flatten_append]
          have hrow : RepRow (storeOf W) (some a) (m * z) as := by
            refine repRow_of (m * z) hr (fun k v hk => ?_)
            have hkz : k < z := by
              have := (List.getElem?_eq_some_iff.1 hk).1; omega
            obtain ⟨v', h5, h6⟩ := hg k hkz
            rw [hk] at h5; injection h5 with h5; subst h5
            have hspot : a.spot = none := by
              have h7 := each 0 (by omega)
              obtain ⟨cs0, hcs0, -⟩ := h7
              obtain ⟨-, hg0⟩ := cells?_get hcs0
              obtain ⟨v0, -, h8⟩ := hg0 0 (by omega)
              have : (a.add (0 * z)).add 0 = a := by simp [Addr.add]
              rw [this] at h8
              exact World.cell?_spot h8
            refine ⟨?_, hspot⟩
            rw [addr_at hspot] at h6
            rw [addr_at (by rfl)] at h6
            simpa [Nat.add_assoc] using h6
          refine RepRow.of_get (fun i c hc => ?_)
          by_cases hlt : i < parts.flatten.length
          · rw [List.getElem?_append_left hlt] at hc
            exact h3.get hc
          · rw [List.getElem?_append_right (by omega)] at hc
            simp only [List.flatten_cons, List.flatten_nil, List.append_nil] at hc
            have := hrow.get hc
            rw [hfl] at this
            rw [hfl] at hlt
            rwa [show m * z + (i - m * z) = 0 + i from by omega] at this
    obtain ⟨parts, h1, h2, h3⟩ := key len (Nat.le_refl _)
    refine ⟨_, ⟨parts, by rw [h1]; exact Nat.le_trans hlc hcm, h2, rfl⟩, ?_⟩
    simp only [RepL, Rep, and_true]
    refine ⟨some a, cap, by rw [h1], by rw [h1]; exact hlc, ?_, h3⟩
    clear h3 h1
    induction parts with
    | nil => simp
    | cons p ps ih2 =>
      rw [List.flatten_cons, List.length_append, ih2 (fun q hq => h2 q (by simp [hq])), (h2 p (by simp)).2, List.length_cons, Nat.succ_mul]; omega
/-- The same of a value that is handed over. -/
def ReadsV (P : Program) (t : TypeId) (S : AV → Prop) : Prop :=
  ∀ (H : Type) (enc : TypeId × Value → H) (W : World) (sp : Nat → Bool) (held : Bool) (r : Reach) (b0 : Nat) (v : Value) (d : DataW H) (ps : List MemPlace), Value.okWide P W r b0 t v → DataW.Trod enc P W 0 sp held t v d ps → ∃ a, S a ∧ Rep (storeOf W) [] a v
theorem readsV_struct {t : TypeId} {fs : Array Field} {S : List AV → Prop} (ht : P.underlying t = some (.struct fs)) (h : ReadsC P t S) : ReadsV P t (fun a => ∃ as, S as ∧ a = .agg as) := by
  intro H enc W sp held r b0 v d ps hok hd
  obtain ⟨cs, rfl, -⟩ := okWide_struct ht hok
  obtain ⟨fuel, hf⟩ := hd
  obtain ⟨as, h1, h2⟩ := h H enc W sp held fuel _ _ hf
  exact ⟨_, ⟨as, h1, rfl⟩, by simp only [Rep]; exact ⟨cs.toList, by simp, h2⟩⟩
theorem readsV_slice {t e : TypeId} {S : List AV → Prop} (ht : P.underlying t = some (.slice e)) (h : ReadsC P t S) : ReadsV P t (fun a => S [a]) := by
  intro H enc W sp held r b0 v d ps hok hd
  obtain ⟨a, l, c, rfl⟩ := okWide_slice ht hok
  obtain ⟨fuel, hf⟩ := hd
  obtain ⟨as, h1, h2⟩ := h H enc W sp held fuel _ _ hf
  cases as with
  | nil => simp [RepL, Value.cells] at h2
  | cons a' as => cases as with
    | nil => simp only [Value.cells, RepL, and_true] at h2; exact ⟨a', h1, h2⟩
    | cons => simp [RepL, Value.cells] at h2
theorem readsV_int {t : TypeId} {k : IntKind} (ht : P.underlying t = some (.int k)) : ReadsV P t (fun a => ∃ n, (Lit.int k n).wf = true ∧ a = .raw (.int k n)) := by
  intro H enc W sp held r b0 v d ps hok hd
  obtain ⟨n, rfl, -, -, hw⟩ := open_int ht hok hd
  exact ⟨_, ⟨n, hw, rfl⟩, by simp [Rep]⟩
theorem readsV_bool {t : TypeId} (ht : P.underlying t = some .bool) : ReadsV P t (fun a => ∃ b, a = .raw (.bool b)) := by
  intro H enc W sp held r b0 v d ps hok hd
  obtain ⟨n, rfl, -⟩ := open_bool ht hok hd
  exact ⟨_, ⟨n, rfl⟩, by simp [Rep]⟩
theorem readsV_string {t : TypeId} (ht : P.underlying t = some .string) : ReadsV P t (fun a => ∃ s : ByteArray, s.size ≤ 9223372036854775807 ∧ a = .raw (.string s)) := by
  intro H enc W sp held r b0 v d ps hok hd
  obtain ⟨s, rfl, -, -, hs⟩ := ChangeMaps.open_string ht hok hd
  exact ⟨_, ⟨s, hs, rfl⟩, by simp [Rep]⟩
def ReadsAll (P : Program) : List TypeId → List (AV → Prop) → Prop
  | [], [] => True
  | t :: ts, S :: Ss => ReadsV P t S ∧ ReadsAll P ts Ss
  | _, _ => False
def AllS : List (AV → Prop) → List AV → Prop
  | [], [] => True
  | S :: Ss, a :: as => S a ∧ AllS Ss as
  | _, _ => False
theorem readsAll_rep {H : Type} {enc : TypeId × Value → H} {W : World} {sp : Nat → Bool} {held : Bool} {r : Reach} {b0 : Nat} : ∀ {ts : List TypeId} {Ss : List (AV → Prop)} {vs : List Value} {ds : List (DataW H)} {ps : List MemPlace}, ReadsAll P ts Ss →
    DataW.TrodAll enc P W 0 sp held ts vs ds ps → (∀ (j : Nat) t v, ts[j]? = some t → vs[j]? = some v → Value.okWide P W r b0 t v) → ∃ as, AllS Ss as ∧ RepL (storeOf W) [] as vs
  | [], [], vs, ds, ps, _, h, _ => by
    obtain ⟨rfl, rfl, rfl⟩ := trodAll_nil h
    exact ⟨[], trivial, by simp [RepL]⟩
  | t :: ts, S :: Ss, vs, ds, ps, hR, h, hval => by
    obtain ⟨v, vs', d, ds', p, q, rfl, rfl, rfl, h1, h2⟩ := trodAll_cons h
    obtain ⟨a, ha, ha2⟩ := hR.1 H enc W sp held r b0 v d p (hval 0 t v rfl rfl) h1
    obtain ⟨as, has, has2⟩ := readsAll_rep hR.2 h2 (fun j t v h3 h4 => hval (j + 1) t v (by simpa using h3) (by simpa using h4))
    exact ⟨a :: as, ⟨ha, has⟩, by simp only [RepL]; exact ⟨ha2, has2⟩⟩
  | [], _ :: _, _, _, _, h, _, _ => h.elim
  | _ :: _, [], _, _, _, h, _, _ => h.elim
theorem trodAll_stays (hl : laidOutB P = true) {H : Type} {enc : TypeId × Value → H} {W W' : World} (hb : Below W.heap.size W W') {sp : Nat → Bool} : ∀ {ts : List TypeId} {vs : List Value} {ds : List (DataW H)} {ps : List MemPlace},
    (∀ t ∈ ts, P.readableRec t = true ∧ t < P.types.size) → DataW.TrodAll enc P W 0 (fun _ => true) true ts vs ds ps → (∀ x ∈ ps, x.block < W.heap.size) → (∀ x ∈ ps, sp x.block = true) → DataW.TrodAll enc P W' 0 sp true ts vs ds ps
  | [], vs, ds, ps, _, h, _, _ => by
    obtain ⟨rfl, rfl, rfl⟩ := trodAll_nil h
    exact trodAll_mk0
  | t :: ts, vs, ds, ps, hr, h, hlt, hsp => by
    obtain ⟨v, vs', d, ds', p, q, rfl, rfl, rfl, h1, h2⟩ := trodAll_cons h
    obtain ⟨hr1, hr2⟩ := hr t (by simp)
    exact trodAll_cons_mk (WideElems.Trod_stays hl hr1 hr2 h1 (fun x hx => hb.same (hlt x (by simp [hx]))) (fun x hx => hsp x (by simp [hx])))
      (trodAll_stays hl hb (fun t ht => hr t (by simp [ht])) h2 (fun x hx => hlt x (by simp [hx])) (fun x hx => hsp x (by simp [hx])))
/-- What a law's row asks behind the call: the arguments as they were. -/
theorem post_old {f : Func} {s : ChangeSpec} {apart fresh handsOn again : Bool} {H : Type} {enc : TypeId × Value → H} {W W' : World} {args : Array Value} {v : Value} {ds gs : List (DataW H)} {before pa pv : List MemPlace}
    (hW : DataW.Whole enc P f.params.toList s.vars apart W args.toList ds gs before)
    (hres : ∀ (b : Nat) (sp : Nat → Bool) (hd : Bool), DataW.TrodAll enc P W' b sp hd f.resultTypes.toList (v.resultList f.resultTypes.size) (s.fn H (ds ++ gs)).results [])
    (hargs : ∀ sp : Nat → Bool, (∀ p ∈ before, sp p.block = true) → DataW.TrodAll enc P W' 0 sp true f.params.toList args.toList (s.fn H (ds ++ gs)).args pa)
    (hvars : ∀ sp : Nat → Bool, (∀ p ∈ before, sp p.block = true) → DataW.TrodVars enc P W' sp s.vars (s.fn H (ds ++ gs)).vars pv)
    (hps : before = pa ++ pv) (hb : Below W.heap.size W W')
    (hok : ∀ (j : Nat) (t : TypeId) (r : Value), f.resultTypes[j]? = some t → (v.resultList f.resultTypes.size)[j]? = some r → Value.okWide P W' .any 0 t r) :
    s.post enc P f apart fresh handsOn again W args v W' := by
  subst hps
  have hlt := hW.lt
  have hold : ∀ p ∈ pa ++ pv, (fun b => decide (b < W.heap.size)) p.block = true := fun p hp => by simpa using hlt p hp
  have hkeep := hW
  obtain ⟨_, _, _, _, _, hz, hn⟩ := hW
  have whole : ∀ b sp hd, DataW.TrodAll enc P W' b sp hd f.resultTypes.toList (v.resultList f.resultTypes.size) (s.fn H (ds ++ gs)).results [] := hres
  refine ⟨ds, gs, pa ++ pv, [], pa, pv, hkeep, whole _ _ _, hargs _ hold, hvars _ hold, World.keptBut_mono (fun p hp => ⟨hp, .inr (List.mem_append.1 hp)⟩) (hb.frame (· ∈ pa ++ pv)), fun _ => ⟨hok, _, _, ([] ++ pa) ++ pv, ⟨[] ++ pa, pv, trodAll_append (hargs _ (fun _ _ => rfl)) (whole _ _ _), hvars _ (fun _ _ => rfl), rfl, ?_, ?_⟩, ?_⟩⟩
  · intro b off hp
    rw [List.nil_append] at hp
    rw [hb.frozen (hlt _ hp)]
    exact hz b off hp
  · intro ha
    simpa using hn ha
  · intro p hp _
    simpa using hp
/-- The contract of a law's row, out of a contract over what is known. -/
theorem law_contract {fid : FuncId} {f : Func} {s : ChangeSpec} {ts : List TypeId} {Ss : List (AV → Prop)} {tb : TypeId} {fresh handsOn again : Bool} (hts : f.params.toList = ts) (hR : ReadsAll P ts Ss) (hl : laidOutB P = true) (hr : ∀ t ∈ ts, P.readableRec t = true ∧ t < P.types.size)
    (hres : f.resultTypes = #[tb]) (htb : P.underlying tb = some .bool) (hv : s.vars = []) (hfn : ∀ (H : Type) (ds : List (DataW H)), ds.length = ts.length → (s.fn H ds).results = [.lit (.bool true)] ∧ (s.fn H ds).args = ds ∧ (s.fn H ds).vars = [])
    (hct : ∀ as, AllS Ss as → Ct P fid as [] (fun v H' => H' = [] ∧ v = .raw (.bool true)))
    {H : Type} {enc : TypeId × Value → H} {W : World} {base : Nat} {args : Array Value} {ds gs : List (DataW H)} {before : List MemPlace}
    (hval : ∀ (j : Nat) t v, f.params[j]? = some t → args[j]? = some v → Value.okWide P W .any base t v) (hW : DataW.Whole enc P f.params.toList s.vars false W args.toList ds gs before) :
    Calls P fid args W fun e W' => ∃ v, e = .returned v ∧ s.post enc P f false fresh handsOn again W args v W' := by
  have hW' := hW
  obtain ⟨p, q, hA, hV, rfl, hfz, hnd⟩ := hW
  rw [hv] at hV
  obtain ⟨rfl, rfl⟩ := trodVars_none hV
  have hA' := hA
  rw [hts] at hA
  obtain ⟨as, has, hrep⟩ := readsAll_rep hR hA (fun j t v h1 h2 => hval j t v (by rw [← hts] at h1; simpa using h1) (by simpa using h2))
  have hlen : ds.length = ts.length := by
    clear hval hW' hfz hnd hV hA' hrep has hts hR hr hfn hct
    generalize args.toList = vs at hA
    induction ts generalizing vs ds p with
    | nil => obtain ⟨-, rfl, -⟩ := trodAll_nil hA; rfl
    | cons t ts ih =>
      obtain ⟨v, vs', d, ds', p', q', rfl, rfl, rfl, h1, h2⟩ := trodAll_cons hA
      simp [ih _ _ h2]
  obtain ⟨f1, f2, f3⟩ := hfn H (ds ++ []) (by simpa using hlen)
  have hcall := hct as has (storeOf W) [] W args.toList (inv0_start W) hrep
  rw [Array.toArray_toList] at hcall
  refine hcall.mono ?_
  rintro e W' ⟨v, x, D', ρ', H', rfl, hx, ⟨rfl, rfl⟩, hb⟩
  simp only [Rep] at hx
  subst hx
  have hfr : Fr (fun _ => False) W W' := by
    have := hb.fr
    have e : InH [] ([] : Heap) = fun _ => False := by
      funext a
      apply propext
      constructor
      · rintro ⟨i, l, j, hL, -⟩
        rcases hL with ⟨c, h⟩ | ⟨c, h⟩ <;> simp at h
      · exact False.elim
    rw [← e]; exact this
  have hbel := hfr.below
  refine ⟨_, rfl, post_old (pa := p) (pv := []) hW' (fun b sp hd => ?_) (fun sp hsp => ?_) (fun sp hsp => ?_) (by simp) hbel (ok_one hres rfl (okWide_bool_mk htb _))⟩
  · rw [f1, hres]
    exact trodAll_mk1 (shut_bool htb _)
  · rw [f2, hts, List.append_nil]
    exact trodAll_stays hl hbel hr hA (fun x hx => hW'.lt x (by simpa using hx)) (fun x hx => hsp x (by simpa using hx))
  · rw [f3, hv]; exact rfl
end
end Go.Proofs.Lite

namespace Go.Proofs.Lite
open Go Go.RowKit Go.ChangeShapes Go.WideShapes
theorem wf_i64 {n : Int} (h : (Lit.int .i64 n).wf = true) : -9223372036854775808 ≤ n ∧ n < 9223372036854775808 := by
  have : -9223372036854775808 ≤ n ∧ n ≤ 9223372036854775807 := by simpa [Lit.wf, IntKind.min, IntKind.max, IntKind.signed, IntKind.bits] using h
  omega
theorem wf_u32 {n : Int} (h : (Lit.int .u32 n).wf = true) : 0 ≤ n ∧ n < 4294967296 := by
  have : 0 ≤ n ∧ n ≤ 4294967295 := by simpa [Lit.wf, IntKind.min, IntKind.max, IntKind.signed, IntKind.bits] using h
  omega
section
variable {P : Program}
theorem ReadsC.mono {t : TypeId} {S S' : List AV → Prop} (h : ReadsC P t S) (hs : ∀ as, S as → S' as) : ReadsC P t S' := by
  intro H enc W sp held fuel cs x hx
  obtain ⟨as, h1, h2⟩ := h H enc W sp held fuel cs x hx
  exact ⟨as, hs as h1, h2⟩
theorem ReadsV.mono {t : TypeId} {S S' : AV → Prop} (h : ReadsV P t S) (hs : ∀ a, S a → S' a) : ReadsV P t S' := by
  intro H enc W sp held r b0 v d ps h1 h2
  obtain ⟨a, h3, h4⟩ := h H enc W sp held r b0 v d ps h1 h2
  exact ⟨a, hs a h3, h4⟩
theorem parts_u32 : ∀ {parts : List (List AV)}, (∀ p ∈ parts, (∃ n, (Lit.int .u32 n).wf = true ∧ p = [.raw (.int .u32 n)]) ∧ p.length = 1) → ∃ l : List Nat, l.length = parts.length ∧ Lim l ∧ parts.flatten = u32s l
  | [], _ => ⟨[], rfl, fun x hx => (by cases hx), rfl⟩
  | p :: ps, h => by
    obtain ⟨⟨n, hn, rfl⟩, -⟩ := h p (by simp)
    obtain ⟨l, h1, h2, h3⟩ := parts_u32 (parts := ps) (fun q hq => h q (by simp [hq]))
    obtain ⟨w1, w2⟩ := wf_u32 hn
    refine ⟨n.toNat :: l, by simp [h1], ?_, ?_⟩
    · intro x hx
      rcases List.mem_cons.1 hx with rfl | hx
      · omega
      · exact h2 x hx
    · rw [List.flatten_cons, h3]
      simp only [u32s, List.map_cons, List.cons_append, List.nil_append]
      rw [show ((n.toNat : Nat) : Int) = n from by omega]
theorem parts_i64 : ∀ {parts : List (List AV)}, (∀ p ∈ parts, (∃ n, (Lit.int .i64 n).wf = true ∧ p = [.raw (.int .i64 n)]) ∧ p.length = 1) → ∃ l : List Int, l.length = parts.length ∧ (∀ x ∈ l, -9223372036854775808 ≤ x ∧ x < 9223372036854775808) ∧ parts.flatten = i64s l
  | [], _ => ⟨[], rfl, fun x hx => (by cases hx), rfl⟩
  | p :: ps, h => by
    obtain ⟨⟨n, hn, rfl⟩, -⟩ := h p (by simp)
    obtain ⟨l, h1, h2, h3⟩ := parts_i64 (parts := ps) (fun q hq => h q (by simp [hq]))
    refine ⟨n :: l, by simp [h1], ?_, ?_⟩
    · intro x hx
      rcases List.mem_cons.1 hx with rfl | hx
      · exact wf_i64 hn
      · exact h2 x hx
    · rw [List.flatten_cons, h3]; rfl
theorem readsC_mg {t e : TypeId} (ht : P.underlying t = some (.array 6 e)) (hz : P.cellsOf e = 1) (hn : P.cellsOf t = 6) (he : P.underlying e = some (.int .u32)) : ReadsC P t (fun as => ∃ A, as = mg A) := by
  refine (readsC_array (n := 6) (z := 1) ht hz hn (readsC_int he)).mono ?_
  rintro as ⟨parts, h1, h2, rfl⟩
  obtain ⟨l, h3, h4, h5⟩ := parts_u32 h2
  exact ⟨valL l, by rw [h5]; exact mg_valL (by omega) h4⟩
theorem readsC_wd {t : TypeId} {fs : Array Field} {f0 f1 : Field} (ht : P.underlying t = some (.struct fs)) (hfs : fs.toList = [f0, f1]) (hn : P.cellsOf t = 7) (o0 : f0.offset = 0) (o1 : f1.offset = 1) (c0 : P.cellsOf f0.type = 1) (c1 : P.cellsOf f1.type = 6)
    (h0 : ReadsC P f0.type (fun as => ∃ b, as = [.raw (.bool b)])) (h1 : ReadsC P f1.type (fun as => ∃ A, as = mg A)) : ReadsC P t (fun as => ∃ n A, as = wd n A) := by
  refine (readsC_struct (n := 7) ht hn (Ss := [_, _]) (by rw [hfs]; exact .cons 1 o0 c0 h0 (.cons 6 o1 c1 h1 .nil))).mono ?_
  rintro as ⟨a, b, ⟨n, rfl⟩, ⟨c, d, ⟨A, rfl⟩, hd, rfl⟩, rfl⟩
  obtain rfl : d = [] := hd
  exact ⟨n, A, by rw [List.append_nil]; rfl⟩
theorem readsC_pc {t : TypeId} {fs : Array Field} {f0 f1 f2 : Field} (ht : P.underlying t = some (.struct fs)) (hfs : fs.toList = [f0, f1, f2]) (hn : P.cellsOf t = 15) (o0 : f0.offset = 0) (o1 : f1.offset = 7) (o2 : f2.offset = 14) (c0 : P.cellsOf f0.type = 7) (c1 : P.cellsOf f1.type = 7) (c2 : P.cellsOf f2.type = 1)
    (h0 : ReadsC P f0.type (fun as => ∃ n A, as = wd n A)) (h1 : ReadsC P f1.type (fun as => ∃ n A, as = wd n A)) (h2 : P.underlying f2.type = some (.int .i64)) : ReadsC P t (fun as => ∃ n1 A1 n2 A2 pl, -9223372036854775808 ≤ pl ∧ pl < 9223372036854775808 ∧ as = pc n1 A1 n2 A2 pl) := by
  refine (readsC_struct (n := 15) ht hn (Ss := [_, _, _]) (by rw [hfs]; exact .cons 7 o0 c0 h0 (.cons 7 o1 c1 h1 (.cons 1 o2 c2 (readsC_int h2) .nil)))).mono ?_
  rintro as ⟨a, b, ⟨n1, A1, rfl⟩, ⟨c, d, ⟨n2, A2, rfl⟩, ⟨e, f, ⟨pl, hw, rfl⟩, hd, rfl⟩, rfl⟩, rfl⟩
  obtain rfl : f = [] := hd
  obtain ⟨w1, w2⟩ := wf_i64 hw
  exact ⟨n1, A1, n2, A2, pl, w1, w2, rfl⟩
theorem readsV_ints {t e : TypeId} (ht : P.underlying t = some (.slice e)) (hz : P.cellsOf e = 1) (he : P.underlying e = some (.int .i64)) :
    ReadsV P t (fun a => ∃ l : List Int, l.length ≤ 9223372036854775807 ∧ (∀ x ∈ l, -9223372036854775808 ≤ x ∧ x < 9223372036854775808) ∧ a = roI l) := by
  refine (readsV_slice ht (readsC_slice ht hz (readsC_int he))).mono ?_
  rintro a ⟨parts, h1, h2, h3⟩
  obtain ⟨l, h4, h5, h6⟩ := parts_i64 h2
  refine ⟨l, by omega, h5, ?_⟩
  injection h3 with h3 _
  rw [h3, h6, ← h4]
end
theorem allS_nil {xs : List AV} (h : AllS [] xs) : xs = [] := by cases xs with
  | nil => rfl
  | cons => exact h.elim
theorem allS_cons {S : AV → Prop} {Ss : List (AV → Prop)} {xs : List AV} (h : AllS (S :: Ss) xs) : ∃ a ys, xs = a :: ys ∧ S a ∧ AllS Ss ys := by cases xs with
  | nil => exact h.elim
  | cons a ys => exact ⟨a, ys, rfl, h.1, h.2⟩
end Go.Proofs.Lite
