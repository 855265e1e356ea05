/- A layer over the walk, contracts of functions, and plain laws: parts of the proof in YtbeaahjinehpbaaProof. -/
import Derived.Calls
import Derived.Orders
import Derived.Below
import Derived.Laws.NewBlocks
import Derived.Laws.StructEq
import Derived.Laws.Rows
import Derived.ChangeKeysEq
import Derived.Tactics
set_option linter.all false
namespace Go.Proofs.Lite
open Go
/-- Abstract values: what is known of a value. -/
inductive AV where
  | junk
  | raw (v : Value)
  | ptr (i o : Nat)
  | sl (i z o n : Nat) (b : Bool)
  | ro (z n : Nat) (cs : List AV)
  | rp (cs : List AV)
  | agg (cs : List AV)
  | tup (cs : List AV)
  | fn (f : Nat) (cs : List AV)
  | mp (i : Nat)
  deriving Inhabited
/-- A segment of owned memory. -/
inductive Sg where
  | dead
  | res
  | c (cs : List AV)
  | m (kvs : List (Value × AV))
  deriving Inhabited
abbrev Heap := List Sg
structure Loc where
  blk : Nat
  off : Nat
  ext : Nat
def Loc.at (l : Loc) (j : Nat) : Addr := ⟨l.blk, l.off + j, none⟩
abbrev Env := List (Option Loc)
abbrev Store := Addr → Option Value
def Env.loc? (ρ : Env) (i : Nat) : Option Loc := (ρ[i]?).bind id
mutual
def Rep (D : Store) (ρ : Env) : AV → Value → Prop
  | .junk, _ => True
  | .raw v, x => x = v
  | .ptr i o, x => ∃ l, Env.loc? ρ i = some l ∧ x = .pointer (some (l.at o))
  | .sl i z o n b, x => ∃ l a cap, Env.loc? ρ i = some l ∧ x = .slice a n cap ∧ n ≤ cap ∧ (b = true → o + cap * z ≤ l.ext) ∧ (cap = 0 ∨ a = some (l.at o))
  | .ro z n cs, x => ∃ a cap, x = .slice a n cap ∧ n ≤ cap ∧ cs.length = n * z ∧ RepRow D a 0 cs
  | .rp cs, x => ∃ a, x = .pointer (some a) ∧ RepRow D (some a) 0 cs
  | .agg cs, x => ∃ vs : List Value, x = .agg vs.toArray ∧ RepL D ρ cs vs
  | .tup cs, x => ∃ vs : List Value, x = .tuple vs.toArray ∧ RepL D ρ cs vs
  | .fn f cs, x => ∃ vs : List Value, x = .func (.func f) #[] vs.toArray ∧ RepL D ρ cs vs
  | .mp i, x => ∃ l, Env.loc? ρ i = some l ∧ x = .map (some l.blk)
def RepL (D : Store) (ρ : Env) : List AV → List Value → Prop
  | [], [] => True
  | c :: cs, v :: vs => Rep D ρ c v ∧ RepL D ρ cs vs
  | _, _ => False
def RepRow (D : Store) (a : Option Addr) (k : Nat) : List AV → Prop
  | [] => True
  | c :: cs => (∃ ad v, a = some ad ∧ ad.spot = none ∧ D ⟨ad.block, ad.off + k, none⟩ = some v ∧ Rep D [] c v) ∧ RepRow D a (k + 1) cs
end
/-- One environment goes on from another. -/
def Env.Le (ρ ρ' : Env) : Prop := ∀ i l, Env.loc? ρ i = some l → Env.loc? ρ' i = some l
def Store.Le (D D' : Store) : Prop := ∀ a v, D a = some v → D' a = some v
theorem Env.Le.refl (ρ : Env) : Env.Le ρ ρ := fun _ _ h => h
theorem Env.Le.trans {a b c : Env} (h : Env.Le a b) (k : Env.Le b c) : Env.Le a c := fun i l hi => k i l (h i l hi)
theorem Store.Le.refl (D : Store) : Store.Le D D := fun _ _ h => h
theorem Store.Le.trans {a b c : Store} (h : Store.Le a b) (k : Store.Le b c) : Store.Le a c := fun i l hi => k i l (h i l hi)
mutual
theorem Rep.mono {D D' : Store} {ρ ρ' : Env} (hD : Store.Le D D') (hρ : Env.Le ρ ρ') : ∀ (c : AV) (v : Value), Rep D ρ c v → Rep D' ρ' c v
  | .junk, _, _ => by simp [Rep]
  | .raw _, _, h => by simp only [Rep] at h ⊢; exact h
  | .ptr i o, _, h => by
    simp only [Rep] at h ⊢; obtain ⟨l, h1, h2⟩ := h; exact ⟨l, hρ _ _ h1, h2⟩
  | .sl i z o n b, _, h => by
    simp only [Rep] at h ⊢; obtain ⟨l, a, cap, h1, h2⟩ := h; exact ⟨l, a, cap, hρ _ _ h1, h2⟩
  | .ro z n cs, _, h => by
    simp only [Rep] at h ⊢; obtain ⟨a, cap, h1, h2, h3, h4⟩ := h; exact ⟨a, cap, h1, h2, h3, RepRow.mono hD cs _ _ h4⟩
  | .rp cs, _, h => by
    simp only [Rep] at h ⊢; obtain ⟨a, h1, h2⟩ := h; exact ⟨a, h1, RepRow.mono hD cs _ _ h2⟩
  | .agg cs, _, h => by
    simp only [Rep] at h ⊢; obtain ⟨vs, h1, h2⟩ := h; exact ⟨vs, h1, RepL.mono hD hρ cs vs h2⟩
  | .tup cs, _, h => by
    simp only [Rep] at h ⊢; obtain ⟨vs, h1, h2⟩ := h; exact ⟨vs, h1, RepL.mono hD hρ cs vs h2⟩
  | .fn f cs, _, h => by
    simp only [Rep] at h ⊢; obtain ⟨vs, h1, h2⟩ := h; exact ⟨vs, h1, RepL.mono hD hρ cs vs h2⟩
  | .mp i, _, h => by
    simp only [Rep] at h ⊢; obtain ⟨l, h1, h2⟩ := h; exact ⟨l, hρ _ _ h1, h2⟩
theorem RepL.mono {D D' : Store} {ρ ρ' : Env} (hD : Store.Le D D') (hρ : Env.Le ρ ρ') : ∀ (cs : List AV) (vs : List Value), RepL D ρ cs vs → RepL D' ρ' cs vs
  | [], [], _ => by simp [RepL]
  | c :: cs, v :: vs, h => by
    simp only [RepL] at h ⊢; exact ⟨Rep.mono hD hρ c v h.1, RepL.mono hD hρ cs vs h.2⟩
  | [], _ :: _, h => by simp [RepL] at h
  | _ :: _, [], h => by simp [RepL] at h
theorem RepRow.mono {D D' : Store} (hD : Store.Le D D') : ∀ (cs : List AV) (a : Option Addr) (k : Nat), RepRow D a k cs → RepRow D' a k cs
  | [], _, _, _ => by simp [RepRow]
  | c :: cs, a, k, h => by
    simp only [RepRow] at h ⊢
    obtain ⟨⟨ad, v, h1, h2, h3, h4⟩, h5⟩ := h
    exact ⟨⟨ad, v, h1, h2, hD _ _ h3, Rep.mono hD (Env.Le.refl _) c v h4⟩, RepRow.mono hD cs a (k + 1) h5⟩
end
theorem RepL.length {D ρ} : ∀ {cs : List AV} {vs : List Value}, RepL D ρ cs vs → cs.length = vs.length
  | [], [], _ => rfl
  | _ :: _, _ :: _, h => by simp only [RepL] at h; simp [RepL.length h.2]
  | [], _ :: _, h => by simp [RepL] at h
  | _ :: _, [], h => by simp [RepL] at h
theorem RepL.get {D ρ} : ∀ {cs : List AV} {vs : List Value}, RepL D ρ cs vs → ∀ {i : Nat} {c : AV} {v : Value}, cs[i]? = some c → vs[i]? = some v → Rep D ρ c v
  | _ :: _, _ :: _, h, 0, _, _, hc, hv => by simp only [RepL] at h; simp at hc hv; subst hc hv; exact h.1
  | _ :: _, _ :: _, h, i + 1, _, _, hc, hv => by simp only [RepL] at h; simp at hc hv; exact RepL.get h.2 hc hv
  | [], [], _, i, _, _, hc, _ => by simp at hc
  | [], _ :: _, h, _, _, _, _, _ => by simp [RepL] at h
  | _ :: _, [], h, _, _, _, _, _ => by simp [RepL] at h
theorem RepL.of_get {D ρ} : ∀ {cs : List AV} {vs : List Value}, cs.length = vs.length → (∀ (i : Nat) (c : AV) (v : Value), cs[i]? = some c → vs[i]? = some v → Rep D ρ c v) → RepL D ρ cs vs
  | [], [], _, _ => by simp [RepL]
  | c :: cs, v :: vs, h, k => by
    simp only [RepL]
    exact ⟨k 0 c v rfl rfl, RepL.of_get (by simpa using h) (fun i a b ha hb => k (i + 1) a b (by simpa using ha) (by simpa using hb))⟩
  | [], _ :: _, h, _ => by simp at h
  | _ :: _, [], h, _ => by simp at h
theorem RepL.getD {D ρ} {cs : List AV} {vs : List Value} (h : RepL D ρ cs vs) (i : Nat) (d : Value) : Rep D ρ (cs.getD i .junk) (vs.getD i d) := by
  have hl := h.length
  by_cases hi : i < cs.length
  · have hv : i < vs.length := by omega
    refine h.get (i := i) ?_ ?_
    · rw [List.getD_eq_getElem?_getD, List.getElem?_eq_getElem hi]; rfl
    · rw [List.getD_eq_getElem?_getD, List.getElem?_eq_getElem hv]; rfl
  · rw [List.getD_eq_getElem?_getD, List.getElem?_eq_none (by omega)]; simp [Rep]
theorem RepL.set {D ρ} {cs : List AV} {vs : List Value} (h : RepL D ρ cs vs) (i : Nat) {c : AV} {v : Value} (hc : Rep D ρ c v) : RepL D ρ (cs.set i c) (vs.set i v) := by
  have hl := h.length
  refine RepL.of_get (by simpa using hl) (fun j a b ha hb => ?_)
  rw [List.getElem?_set] at ha hb
  split at ha
  · rename_i e
    subst e
    simp only [if_true] at hb
    split at ha <;> rename_i hh
    · rw [if_pos (by omega)] at hb
      simp at ha hb
      subst ha hb
      exact hc
    · simp at ha
  · rename_i e
    rw [if_neg e] at hb
    exact h.get ha hb
theorem RepL.append {D ρ} : ∀ {cs : List AV} {vs : List Value} {cs' : List AV} {vs' : List Value}, RepL D ρ cs vs → RepL D ρ cs' vs' → RepL D ρ (cs ++ cs') (vs ++ vs')
  | [], [], _, _, _, h => h
  | _ :: _, _ :: _, _, _, h, k => by simp only [RepL, List.cons_append] at h ⊢; exact ⟨h.1, RepL.append h.2 k⟩
  | [], _ :: _, _, _, h, _ => by simp [RepL] at h
  | _ :: _, [], _, _, h, _ => by simp [RepL] at h
theorem RepL.take {D ρ} : ∀ {cs : List AV} {vs : List Value} (n : Nat), RepL D ρ cs vs → RepL D ρ (cs.take n) (vs.take n)
  | _, _, 0, _ => by simp [RepL]
  | [], [], _ + 1, h => by simp [RepL]
  | _ :: _, _ :: _, n + 1, h => by simp only [RepL, List.take_succ_cons] at h ⊢; exact ⟨h.1, RepL.take n h.2⟩
  | [], _ :: _, _, h => by simp [RepL] at h
  | _ :: _, [], _, h => by simp [RepL] at h
theorem RepL.drop {D ρ} : ∀ {cs : List AV} {vs : List Value} (n : Nat), RepL D ρ cs vs → RepL D ρ (cs.drop n) (vs.drop n)
  | _, _, 0, h => h
  | [], [], _ + 1, h => by simp [RepL]
  | _ :: _, _ :: _, n + 1, h => by simp only [RepL, List.drop_succ_cons] at h ⊢; exact RepL.drop n h.2
  | [], _ :: _, _, h => by simp [RepL] at h
  | _ :: _, [], _, h => by simp [RepL] at h
theorem RepL.replicate_junk {D ρ} (n : Nat) (v : Value) : RepL D ρ (List.replicate n .junk) (List.replicate n v) := by
  refine RepL.of_get (by simp) (fun i c v hc _ => ?_)
  rw [List.getElem?_replicate] at hc
  split at hc
  · simp at hc; subst hc; simp [Rep]
  · simp at hc
/-- A list of values, each of them known. -/
def raws (vs : List Value) : List AV := vs.map .raw
theorem RepL.raws {D ρ} : ∀ (vs : List Value), RepL D ρ (raws vs) vs
  | [] => by simp [RepL, Lite.raws]
  | v :: vs => by simp only [Lite.raws, List.map_cons, RepL, Rep]; exact ⟨trivial, RepL.raws vs⟩
theorem RepRow.get {D} : ∀ {cs : List AV} {a : Option Addr} {k : Nat}, RepRow D a k cs → ∀ {i : Nat} {c : AV}, cs[i]? = some c →
    ∃ ad v, a = some ad ∧ ad.spot = none ∧ D ⟨ad.block, ad.off + (k + i), none⟩ = some v ∧ Rep D [] c v
  | _ :: _, _, k, h, 0, _, hc => by simp only [RepRow] at h; simp at hc; subst hc; exact h.1
  | _ :: _, _, k, h, i + 1, _, hc => by
    simp only [RepRow] at h; simp at hc
    have := RepRow.get h.2 hc
    rwa [show k + 1 + i = k + (i + 1) from by omega] at this
  | [], _, _, _, _, _, hc => by simp at hc
theorem RepRow.of_get {D} {a : Option Addr} : ∀ {cs : List AV} {k : Nat}, (∀ (i : Nat) (c : AV), cs[i]? = some c → ∃ ad v, a = some ad ∧ ad.spot = none ∧ D ⟨ad.block, ad.off + (k + i), none⟩ = some v ∧ Rep D [] c v) → RepRow D a k cs
  | [], _, _ => by simp [RepRow]
  | c :: cs, k, h => by
    simp only [RepRow]
    refine ⟨h 0 c rfl, RepRow.of_get (fun i d hd => ?_)⟩
    have := h (i + 1) d (by simpa using hd)
    rwa [show k + (i + 1) = k + 1 + i from by omega] at this
def BlkOk (S : Addr → Prop) (b : Nat) (o o' : Option Obj) : Prop :=
  o' = o ∨
  (∃ c c' T fz, o = some (.cells c T fz) ∧ o' = some (.cells c' T fz) ∧ c'.size = c.size ∧ ∀ j, ¬ S ⟨b, j, none⟩ → c'[j]? = c[j]?) ∨
  (S ⟨b, 0, none⟩ ∧ ∃ es n es' n', o = some (.map es n) ∧ o' = some (.map es' n'))
theorem BlkOk.trans {S S' : Addr → Prop} {b : Nat} {o o1 o2 : Option Obj} (h : BlkOk S b o o1) (k : BlkOk S' b o1 o2) (hs : ∀ j, S' ⟨b, j, none⟩ → S ⟨b, j, none⟩) : BlkOk S b o o2 := by
  rcases h with rfl | ⟨c, c', T, fz, rfl, rfl, hsz, hc⟩ | ⟨hS, es, n, es', n', rfl, rfl⟩
  · rcases k with rfl | ⟨c, c', T, fz, rfl, rfl, hsz, hc⟩ | ⟨hS, es, n, es', n', rfl, rfl⟩
    · exact .inl rfl
    · exact .inr (.inl ⟨c, c', T, fz, rfl, rfl, hsz, fun j hj => hc j (fun h => hj (hs j h))⟩)
    · exact .inr (.inr ⟨hs 0 hS, es, n, es', n', rfl, rfl⟩)
  · rcases k with rfl | ⟨d, d', T', fz', he, rfl, hsz', hc'⟩ | ⟨_, es, n, es', n', he, _⟩
    · exact .inr (.inl ⟨c, c', T, fz, rfl, rfl, hsz, hc⟩)
    · injection he with he; injection he with e1 e2 e3; subst e1 e2 e3
      exact .inr (.inl ⟨c, d', T, fz, rfl, rfl, hsz'.trans hsz, fun j hj => (hc' j (fun h => hj (hs j h))).trans (hc j hj)⟩)
    · injection he with he; cases he
  · rcases k with rfl | ⟨d, d', T', fz', he, rfl, hsz', hc'⟩ | ⟨_, es, n, es', n', he, rfl⟩
    · exact .inr (.inr ⟨hS, _, _, _, _, rfl, rfl⟩)
    · injection he with he; cases he
    · exact .inr (.inr ⟨hS, _, _, _, _, rfl, rfl⟩)
/-- What was there is as it was, but for what may be written. -/
structure Fr (S : Addr → Prop) (w w' : World) : Prop where
  os : w'.os = w.os
  tape : w'.tape = w.tape
  output : w'.output = w.output
  size : w.heap.size ≤ w'.heap.size
  blk : ∀ b, b < w.heap.size → BlkOk S b w.heap[b]? w'.heap[b]?
theorem Fr.refl (S : Addr → Prop) (w : World) : Fr S w w := ⟨rfl, rfl, rfl, Nat.le_refl _, fun _ _ => .inl rfl⟩
theorem Fr.trans {S S' : Addr → Prop} {w w1 w2 : World} (h : Fr S w w1) (k : Fr S' w1 w2) (hs : ∀ a, S' a → S a ∨ w.heap.size ≤ a.block) : Fr S w w2 :=
  ⟨k.os.trans h.os, k.tape.trans h.tape, k.output.trans h.output, Nat.le_trans h.size k.size, fun b hb =>
    (h.blk b hb).trans (k.blk b (Nat.lt_of_lt_of_le hb h.size)) (fun j hj => (hs _ hj).resolve_right (by simpa using hb))⟩
theorem Fr.alloc {S : Addr → Prop} (w : World) (o : Obj) : Fr S w (w.alloc o) :=
  ⟨rfl, rfl, rfl, by simp, fun b hb => .inl (RowKit.Below.heap_alloc w o b hb)⟩
theorem Fr.drew {S : Addr → Prop} (w : World) : Fr S w { w with drawn := w.drawn + 1 } := ⟨rfl, rfl, rfl, Nat.le_refl _, fun _ _ => .inl rfl⟩
theorem Fr.setCell {S : Addr → Prop} (w : World) (a : Addr) (v : Value) (ha : a.spot = none) (hS : S a ∨ w.heap.size ≤ a.block) : Fr S w (w.setCell a v) := by
  refine ⟨rfl, rfl, rfl, by simp [World.setCell], fun b hb => ?_⟩
  by_cases hba : b = a.block
  · subst hba
    have hS := hS.resolve_right (by omega)
    simp only [World.setCell, Array.getElem?_modify, if_true]
    cases ho : w.heap[a.block]? with
    | none => exact .inl rfl
    | some o =>
      cases o with
      | cells c T fz =>
        refine .inr (.inl ⟨c, c.setIfInBounds a.off v, T, fz, rfl, ?_, by simp, fun j hj => ?_⟩)
        · simp [ha]
        · rw [Array.getElem?_setIfInBounds]
          split
          · rename_i e
            exfalso; apply hj; subst e
            cases a; simp_all
          · rfl
      | _ => exact .inl rfl
  · exact .inl (RowKit.Below.heap_setCell w a v b hba)
theorem Fr.cell {S : Addr → Prop} {w w' : World} (h : Fr S w w') {a : Addr} (hs : ¬ S a) (hspot : a.spot = none) {v : Value} (hc : w.cell? a = some v) : w'.cell? a = some v := by
  have hb := World.block_lt_of_cell? w a hc
  unfold World.cell? at hc ⊢
  rcases h.blk a.block hb with e | ⟨c, c', T, fz, e, e', hsz, hj⟩ | ⟨_, es, n, es', n', e, e'⟩
  · rw [e]; exact hc
  · rw [e] at hc; rw [e']
    simp only [hspot] at hc ⊢
    simp at hc ⊢
    rw [hj a.off (by cases a; simp_all)]
    exact hc
  · rw [e] at hc; cases hc
theorem Fr.frozen {S : Addr → Prop} {w w' : World} (h : Fr S w w') {a : Addr} (hc : (w.cell? a).isSome = true) : w'.frozen? a = w.frozen? a := by
  obtain ⟨v, hv⟩ := Option.isSome_iff_exists.1 hc
  have hb := World.block_lt_of_cell? w a hv
  unfold World.frozen?
  rcases h.blk a.block hb with e | ⟨c, c', T, fz, e, e', hsz, hj⟩ | ⟨_, es, n, es', n', e, e'⟩
  · rw [e]
  · rw [e, e']
  · unfold World.cell? at hv; rw [e] at hv; cases hv
theorem Fr.below {w w' : World} (h : Fr (fun _ => False) w w') : RowKit.Below w.heap.size w w' := by
  refine ⟨h.os, h.tape, h.output, h.size, fun b hb => ?_⟩
  rcases h.blk b hb with e | ⟨c, c', T, fz, e, e', hsz, hj⟩ | ⟨hS, _⟩
  · exact e
  · rw [e, e']
    have : c' = c := by
      apply Array.ext_getElem?
      intro j; exact hj j (fun h => h)
    rw [this]
  · exact hS.elim
def SegOk (D : Store) (ρ : Env) (w : World) (l : Loc) (cs : List AV) : Prop :=
  cs.length ≤ l.ext ∧ ∀ j, j < l.ext → ∃ v, w.cell? (l.at j) = some v ∧ w.frozen? (l.at j) = false ∧ D (l.at j) = none ∧ ∀ c, cs[j]? = some c → Rep D ρ c v
def MapOk (D : Store) (ρ : Env) (w : World) (b : Nat) (kvs : List (Value × AV)) : Prop :=
  ∃ es n, w.heap[b]? = some (.map es n) ∧ es.toList.map (·.key) = kvs.map (·.1) ∧ RepL D ρ (kvs.map (·.2)) (es.toList.map (·.val)) ∧ (∀ e ∈ es, e.born < n) ∧ (es.toList.map (·.born)).Nodup
def Live (H : Heap) (i : Nat) : Prop := (∃ cs, H[i]? = some (.c cs)) ∨ ∃ kvs, H[i]? = some (.m kvs)
structure Inv0 (D : Store) (ρ : Env) (H : Heap) (w : World) : Prop where
  len : ρ.length = H.length
  d : ∀ a v, D a = some v → w.cell? a = some v
  seg : ∀ i cs, H[i]? = some (.c cs) → ∃ l, Env.loc? ρ i = some l ∧ SegOk D ρ w l cs
  mpp : ∀ i kvs, H[i]? = some (.m kvs) → ∃ l, Env.loc? ρ i = some l ∧ l.off = 0 ∧ l.ext = 1 ∧ MapOk D ρ w l.blk kvs
  res : ∀ i, H[i]? = some .res → Env.loc? ρ i = none
  dis : ∀ i j li lj, i ≠ j → Live H i → Live H j → Env.loc? ρ i = some li → Env.loc? ρ j = some lj → ∀ p q, p < li.ext → q < lj.ext → li.at p ≠ lj.at q
/-- What belongs to the segments. -/
def InH (ρ : Env) (H : Heap) (a : Addr) : Prop := ∃ i l j, Live H i ∧ Env.loc? ρ i = some l ∧ j < l.ext ∧ a = l.at j
structure Cx where
  w0 : World
  S : Addr → Prop
  D0 : Store
  ρ0 : Env
def Cx.av (cx : Cx) (a : Addr) : Prop := cx.S a ∨ cx.w0.heap.size ≤ a.block
structure BInv (cx : Cx) (D : Store) (ρ : Env) (H : Heap) (w : World) : Prop where
  inv : Inv0 D ρ H w
  fr : Fr cx.S cx.w0 w
  av : ∀ i l, Live H i → Env.loc? ρ i = some l → ∀ j, j < l.ext → cx.av (l.at j)
  dle : Store.Le cx.D0 D
  dav : ∀ a v, D a = some v → cx.D0 a = some v ∨ cx.av a
  keep : ∀ k l, k < cx.ρ0.length → Env.loc? cx.ρ0 k = some l → Env.loc? ρ k = some l
/-- A contract: what a call does to abstract arguments and an abstract heap. -/
def CtPost (D : Store) (ρ : Env) (H : Heap) (w : World) (R : AV → Heap → Prop) (e : Ending) (w' : World) : Prop :=
  ∃ v x D' ρ' H', e = .returned x ∧ Rep D' ρ' v x ∧ R v H' ∧ BInv ⟨w, InH ρ H, D, ρ⟩ D' ρ' H' w'
def Ct (P : Program) (f : FuncId) (args : List AV) (H : Heap) (R : AV → Heap → Prop) : Prop :=
  ∀ D ρ w vs, Inv0 D ρ H w → RepL D ρ args vs → Calls P f vs.toArray w (CtPost D ρ H w R)
theorem BInv.start {D ρ H w} (h : Inv0 D ρ H w) : BInv ⟨w, InH ρ H, D, ρ⟩ D ρ H w :=
  ⟨h, Fr.refl _ _, fun i l hl hi j hj => .inl ⟨i, l, j, hl, hi, hj, rfl⟩, Store.Le.refl _, fun _ _ h => .inl h, fun _ _ _ h => h⟩
theorem Ct.mono {P f args H R R'} (h : Ct P f args H R) (hr : ∀ v H', R v H' → R' v H') : Ct P f args H R' :=
  fun D ρ w vs hi ha => (h D ρ w vs hi ha).mono fun _ _ ⟨v, x, D', ρ', H', he, hv, hR, hb⟩ => ⟨v, x, D', ρ', H', he, hv, hr _ _ hR, hb⟩
end Go.Proofs.Lite

namespace Go.Proofs.Lite
open Go
/-- Operations with their types looked up. -/
inductive LOp where
  | mv (x : Operand)
  | pick (c a b : Operand)
  | bin (op : BinOp) (x y : Operand)
  | beq (neg : Bool) (x y : Operand)
  | eqs (neg : Bool) (n : Nat) (x y : Operand)
  | un (op : UnOp) (x : Operand)
  | conv (k : IntKind) (x : Operand)
  | nilc (x : Operand)
  | alloc (z : List Value)
  | allocAt (r : Nat) (z : List Value)
  | box (x : Operand)
  | boxAt (r : Nat) (x : Operand)
  | load (ag : Bool) (n : Nat) (x : Operand)
  | store (n : Nat) (x v : Operand)
  | fad (off : Nat) (x : Operand)
  | fld (ag : Bool) (n off : Nat) (x : Operand)
  | iarr (len z : Nat) (x i : Operand)
  | isl (z : Nat) (x i : Operand)
  | aidx (ag : Bool) (len z : Nat) (x i : Operand)
  | sidx (x i : Operand)
  | sarr (len z : Nat) (x : Operand) (lo hi : Option Operand)
  | ssl (z : Nat) (x : Operand) (lo hi : Option Operand)
  | sstr (x : Operand) (lo hi : Option Operand)
  | ext (k : Nat) (x : Operand)
  | build (zero : List Value) (parts : List (Nat × Nat × Operand))
  | bsl (z len : Nat) (zero : List Value) (parts : List (Nat × Operand))
  | msl (z bytes : Nat) (zero : List Value) (l c : Operand)
  | lens (x : Operand)
  | lstr (x : Operand)
  | lenc (n : Nat)
  | app (z bytes : Nat) (s x : Operand)
  | cpy (z : Nat) (d s : Operand)
  | mm (isMin : Bool) (xs : List Operand)
  | call (f : Nat) (xs : List Operand)
  | callv (x : Operand) (xs : List Operand)
  | mkfn (f : Nat) (caps : List Operand)
  | s2a (n z : Nat) (x : Operand)
  | snil (neg : Bool) (x : Operand)
  | bslAt (r z len : Nat) (zero : List Value) (parts : List (Nat × Operand))
  deriving Inhabited
def sizeT (P : Program) (t : TypeId) : Option Nat := (P.info? t).map (·.size)
def bytesT (P : Program) (t : TypeId) : Option Nat := (P.info? t).map (·.bytes)
def zeroT (P : Program) (t : TypeId) : Option (List Value) := (P.info? t).bind fun i => i.zero.map fun v => v.cells.toList
def aggT (P : Program) (t : TypeId) : Option Bool :=
  match P.underlying t with
  | some (.struct _) | some (.array _ _) => some true
  | some _ => some false
  | none => none
/-- The number of cells of an array of whole numbers of one kind. -/
def flatA (P : Program) (t : TypeId) : Option Nat :=
  match P.underlying t with
  | some (.array n e) => match P.underlying e with
    | some (.int _) => if sizeT P e = some 1 ∧ P.eqGuardType P.depth t = false then some n else none
    | _ => none
  | _ => none
def isNilC : Operand → Bool
  | .const (.slice none _ _) => true
  | _ => false
theorem isNilC_spec {y : Operand} (h : isNilC y = true) : ∃ n k, y = .const (.slice none n k) := by
  unfold isNilC at h
  split at h
  · exact ⟨_, _, rfl⟩
  · cases h
def stripOp (P : Program) : Op → Option LOp
  | .move x | .assign x => some (.mv x)
  | .pick c a b => some (.pick c a b)
  | .binOp op t x y _ =>
    match P.underlying t with
    | some (.int _) | some .string => some (.bin op x y)
    | some .bool => match op with
      | .eql => some (.beq false x y)
      | .neq => some (.beq true x y)
      | _ => none
    | some (.array _ _) => match op with
      | .eql => (flatA P t).map fun n => .eqs false n x y
      | .neq => (flatA P t).map fun n => .eqs true n x y
      | _ => none
    | some (.slice _) => match op with
      | .eql => if isNilC y then some (.snil false x) else none
      | .neq => if isNilC y then some (.snil true x) else none
      | _ => none
    | _ => none
  | .unOp op _ x => some (.un op x)
  | .convert s d x =>
    match P.underlying s, P.underlying d with
    | some (.int _), some (.int k) => some (.conv k x)
    | _, _ => none
  | .nilCheck x => some (.nilc x)
  | .sliceToArrayPointer t x =>
    match P.underlying t with
    | some (.array n e) => (sizeT P e).bind fun z => if 0 < n ∧ 0 < z then some (.s2a n z x) else none
    | _ => none
  | .alloc t => (zeroT P t).map .alloc
  | .box _ x => some (.box x)
  | .load t x => (aggT P t).bind fun ag => (sizeT P t).map fun n => .load ag n x
  | .store t x v => (sizeT P t).map fun n => .store n x v
  | .fieldAddr t x f =>
    match P.underlying t with
    | some (.struct fs) => (fs[f]?).bind fun (fd : Field) => (sizeT P fd.type).bind fun n => if n = 0 then none else some (.fad fd.offset x)
    | _ => none
  | .field t x f =>
    match P.underlying t with
    | some (.struct fs) => (fs[f]?).bind fun (fd : Field) => (aggT P fd.type).bind fun ag => (sizeT P fd.type).map fun n => .fld ag n fd.offset x
    | _ => none
  | .indexAddr t x i =>
    match P.underlying t with
    | some (.array n e) => (sizeT P e).map fun z => .iarr n z x i
    | some (.slice e) => (sizeT P e).map fun z => .isl z x i
    | _ => none
  | .index t x i =>
    match P.underlying t with
    | some (.array n e) => (aggT P e).bind fun ag => (sizeT P e).map fun z => .aidx ag n z x i
    | some .string => some (.sidx x i)
    | _ => none
  | .slice t x lo hi none =>
    match P.underlying t with
    | some (.array n e) => (sizeT P e).map fun z => .sarr n z x lo hi
    | some (.slice e) => (sizeT P e).map fun z => .ssl z x lo hi
    | some .string => some (.sstr x lo hi)
    | _ => none
  | .extract x k => some (.ext k x)
  | .build t parts =>
    match P.underlying t with
    | some (.struct fs) => (zeroT P t).bind fun z => (fs.toList.mapM fun (f : Field) => sizeT P f.type).bind fun ns => (parts.toList.mapM fun ((i, x) : Nat × Operand) => (((fs.toList.zip ns)[i]?).map fun (q : Field × Nat) => (q.1.offset, q.2, x))).map fun ps => .build z ps
    | some (.array _ e) => (zeroT P t).bind fun z => (sizeT P e).map fun n => .build z (parts.toList.map fun (i, x) => (i * n, n, x))
    | _ => none
  | .buildSlice t len parts =>
    match P.underlying t with
    | some (.slice e) => (sizeT P e).bind fun z => (zeroT P e).bind fun zero => if zero.length = z ∧ 0 < z ∧ len * z ≤ 2 ^ 24 then some (.bsl z len zero parts.toList) else none
    | _ => none
  | .makeSlice t l c =>
    match P.underlying t with
    | some (.slice e) => (sizeT P e).bind fun z => (bytesT P e).bind fun b => (zeroT P e).bind fun zero => if zero.length = z ∧ 0 < z ∧ 0 < b then some (.msl z b zero l c) else none
    | _ => none
  | .makeFunc (.func f) first caps => if first.isEmpty then some (.mkfn f caps.toList) else none
  | .call c =>
    match c.callee with
    | .value (.func f) => match P.funcs[f]? with
      | some fn => if fn.body.isSome && fn.name != "runtime.NumGoroutine" then some (.call f c.args.toList) else none
      | none => none
    | .value x => some (.callv x c.args.toList)
    | .builtin .len =>
      match c.args.toList, c.argTypes[0]? with
      | [x], some t => match P.underlying t with
        | some .string => some (.lstr x)
        | some (.slice _) => some (.lens x)
        | some (.array n _) => some (.lenc n)
        | some (.pointer a) => match P.underlying a with
          | some (.array n _) => some (.lenc n)
          | _ => none
        | _ => none
      | _, _ => none
    | .builtin .append =>
      match c.args.toList, c.argTypes.toList with
      | [s, x], [t, u] => match P.underlying t, P.underlying u with
        | some (.slice e), some (.slice _) => (sizeT P e).bind fun z => (bytesT P e).bind fun b => (zeroT P e).bind fun zero => if zero.length = z ∧ 0 < z ∧ 0 < b then some (.app z b s x) else none
        | _, _ => none
      | _, _ => none
    | .builtin .copy =>
      match c.args.toList, c.argTypes.toList with
      | [d, s], [t, u] => match P.underlying t, P.underlying u with
        | some (.slice e), some (.slice _) => (sizeT P e).bind fun z => if 0 < z then some (.cpy z d s) else none
        | _, _ => none
      | _, _ => none
    | .builtin .min => some (.mm true c.args.toList)
    | .builtin .max => some (.mm false c.args.toList)
    | _ => none
  | _ => none
def ev (T : List AV) : Operand → AV
  | .tmp t => T.getD t .junk
  | .const v => .raw v
  | .global g => .raw (.pointer (some ⟨g, 0, none⟩))
  | .func f => .fn f []
def binR (op : BinOp) : Value → Value → Prop × Value
  | .int k a, .int k' b =>
    match op with
    | .shl => (0 ≤ b, .int k (k.wrap (a * 2 ^ (min b.toNat k.bits))))
    | .shr => (0 ≤ b, .int k (a.fdiv (2 ^ (min b.toNat k.bits))))
    | .add => (k = k', .int k (k.wrap (a + b)))
    | .sub => (k = k', .int k (k.wrap (a - b)))
    | .mul => (k = k', .int k (k.wrap (a * b)))
    | .quo => (k = k' ∧ b ≠ 0, .int k (k.wrap (a.tdiv b)))
    | .rem => (k = k' ∧ b ≠ 0, .int k (a.tmod b))
    | .and => (k = k', .int k (k.wrap (BitVec.ofInt k.bits a &&& BitVec.ofInt k.bits b).toNat))
    | .or => (k = k', .int k (k.wrap (BitVec.ofInt k.bits a ||| BitVec.ofInt k.bits b).toNat))
    | .xor => (k = k', .int k (k.wrap (BitVec.ofInt k.bits a ^^^ BitVec.ofInt k.bits b).toNat))
    | .andNot => (k = k', .int k (k.wrap (BitVec.ofInt k.bits a &&& ~~~BitVec.ofInt k.bits b).toNat))
    | .eql => (k = k', .bool (a == b))
    | .neq => (k = k', .bool (a != b))
    | .lss => (k = k', .bool (decide (a < b)))
    | .leq => (k = k', .bool (decide (a ≤ b)))
    | .gtr => (k = k', .bool (decide (a > b)))
    | .geq => (k = k', .bool (decide (a ≥ b)))
  | .string a, .string b =>
    match op with
    | .add => (a.size + b.size ≤ 9223372036854775807, .string (a ++ b))
    | .eql => (True, .bool (a.toList == b.toList))
    | .neq => (True, .bool (!(a.toList == b.toList)))
    | _ => (False, .bool false)
  | _, _ => (False, .bool false)
/-- Are the known cells of two rows of whole numbers the same? -/
def eqL : List AV → List AV → Bool
  | .raw (.int _ a) :: xs, .raw (.int _ b) :: ys => a == b && eqL xs ys
  | [], [] => true
  | _, _ => false
/-- All are whole numbers of one kind. -/
def kindL (k : IntKind) : List AV → Prop
  | .raw (.int k' _) :: xs => k' = k ∧ kindL k xs
  | [] => True
  | _ => False
def headK : List AV → IntKind
  | .raw (.int k _) :: _ => k
  | _ => .i64
def intOf : AV → Prop × Int
  | .raw (.int _ n) => (True, n)
  | _ => (False, 0)
def cellsOf : AV → List AV
  | .agg cs => cs
  | v => [v]
def wr (cs : List AV) (o : Nat) (vs : List AV) : List AV := cs.take o ++ (vs ++ cs.drop (o + vs.length))
def wrAll : List AV → List (Nat × List AV) → List AV
  | cs, [] => cs
  | cs, (o, vs) :: r => wrAll (wr cs o vs) r
def takeAg (ag : Bool) (n : Nat) (cs : List AV) : AV := if ag then .agg (cs.take n) else cs.getD 0 .junk
def isOne : Value → Bool
  | .agg _ | .tuple _ => false
  | _ => true
/-- A value of one cell. -/
def one : AV → Prop
  | .raw v => isOne v = true
  | .ptr _ _ | .sl _ _ _ _ _ | .ro _ _ _ | .rp _ | .fn _ _ | .mp _ => True
  | _ => False
def ones : List AV → Prop
  | [] => True
  | v :: vs => one v ∧ ones vs
def optInt (T : List AV) (d : Int) : Option Operand → Prop × Int
  | none => (True, d)
  | some x => intOf (ev T x)
def mmR (isMin : Bool) : AV → AV → Prop × AV
  | .raw (.int k a), .raw (.int k' b) => (k = k', .raw (.int k (if isMin then (if b < a then b else a) else (if a < b then b else a))))
  | _, _ => (False, .junk)
def mmAll (isMin : Bool) : Prop × AV → List AV → Prop × AV
  | r, [] => r
  | r, v :: vs => mmAll isMin (r.1 ∧ (mmR isMin r.2 v).1, (mmR isMin r.2 v).2) vs
def pickR : Bool → AV → AV → AV
  | c, .raw (.bool x), .raw (.bool y) => .raw (.bool (if c then x else y))
  | true, a, _ => a
  | false, _, b => b
def partsOk (T : List AV) : List (Nat × Nat × Operand) → Prop
  | [] => True
  | p :: r => ((cellsOf (ev T p.2.2)).length = p.2.1 ∧ ones (cellsOf (ev T p.2.2))) ∧ partsOk T r
/-- Operations that look at no memory that may be written and make none. -/
def pr (T : List AV) : LOp → Prop × AV
  | .mv x => (True, ev T x)
  | .pick c a b =>
    match ev T c with
    | .raw (.bool c) => (True, pickR c (ev T a) (ev T b))
    | _ => (False, .junk)
  | .bin op x y =>
    match ev T x, ev T y with
    | .raw a, .raw b => ((binR op a b).1, .raw (binR op a b).2)
    | _, _ => (False, .junk)
  | .beq neg x y =>
    match ev T x, ev T y with
    | .raw (.bool a), .raw (.bool b) => (True, .raw (.bool (if neg then !(a == b) else a == b)))
    | _, _ => (False, .junk)
  | .eqs neg n x y =>
    match ev T x, ev T y with
    | .agg cs, .agg ds => (cs.length = n ∧ ds.length = n ∧ kindL (headK cs) cs ∧ kindL (headK cs) ds, .raw (.bool (if neg then !(eqL cs ds) else eqL cs ds)))
    | _, _ => (False, .junk)
  | .un op x =>
    match op, ev T x with
    | .neg, .raw (.int k n) => (True, .raw (.int k (k.wrap (0 - n))))
    | .not, .raw (.bool b) => (True, .raw (.bool (!b)))
    | _, _ => (False, .junk)
  | .conv k x =>
    match ev T x with
    | .raw (.int _ n) => (True, .raw (.int k (k.wrap n)))
    | _ => (False, .junk)
  | .nilc x =>
    match ev T x with
    | .ptr i o => (True, .ptr i o)
    | .rp cs => (True, .rp cs)
    | _ => (False, .junk)
  | .fad off x =>
    match ev T x with
    | .ptr i o => (True, .ptr i (o + off))
    | .rp cs => (True, .rp (cs.drop off))
    | _ => (False, .junk)
  | .fld ag n off x =>
    match ev T x with
    | .agg cs => (off + n ≤ cs.length ∧ (ag = true ∨ n = 1), takeAg ag n (cs.drop off))
    | _ => (False, .junk)
  | .iarr len z x i =>
    match ev T x with
    | .ptr j o => ((intOf (ev T i)).1 ∧ 0 ≤ (intOf (ev T i)).2 ∧ (intOf (ev T i)).2 < len, .ptr j (o + (intOf (ev T i)).2.toNat * z))
    | .rp cs => ((intOf (ev T i)).1 ∧ 0 ≤ (intOf (ev T i)).2 ∧ (intOf (ev T i)).2 < len, .rp (cs.drop ((intOf (ev T i)).2.toNat * z)))
    | _ => (False, .junk)
  | .isl z x i =>
    match ev T x with
    | .sl j z' o n b => (z' = z ∧ (intOf (ev T i)).1 ∧ 0 ≤ (intOf (ev T i)).2 ∧ (intOf (ev T i)).2 < n, .ptr j (o + (intOf (ev T i)).2.toNat * z))
    | .ro z' n cs => (z' = z ∧ 0 < z ∧ (intOf (ev T i)).1 ∧ 0 ≤ (intOf (ev T i)).2 ∧ (intOf (ev T i)).2 < n, .rp ((cs.drop ((intOf (ev T i)).2.toNat * z)).take z))
    | _ => (False, .junk)
  | .aidx ag len z x i =>
    match ev T x with
    | .agg cs => ((intOf (ev T i)).1 ∧ 0 ≤ (intOf (ev T i)).2 ∧ (intOf (ev T i)).2 < len ∧ cs.length = len * z ∧ (ag = true ∨ z = 1), takeAg ag z (cs.drop ((intOf (ev T i)).2.toNat * z)))
    | _ => (False, .junk)
  | .sidx x i =>
    match ev T x with
    | .raw (.string s) => ((intOf (ev T i)).1 ∧ 0 ≤ (intOf (ev T i)).2 ∧ (intOf (ev T i)).2 < s.size, .raw (.int .u8 (s.data.getD (intOf (ev T i)).2.toNat 0).toNat))
    | _ => (False, .junk)
  | .ssl z x lo hi =>
    match ev T x with
    | .sl j z' o n b => (z' = z ∧ (optInt T 0 lo).1 ∧ (optInt T n hi).1 ∧ 0 ≤ (optInt T 0 lo).2 ∧ (optInt T 0 lo).2 ≤ (optInt T n hi).2 ∧ (optInt T n hi).2 ≤ n,
        .sl j z (o + (optInt T 0 lo).2.toNat * z) ((optInt T n hi).2 - (optInt T 0 lo).2).toNat b)
    | .ro z' n cs => (z' = z ∧ (optInt T 0 lo).1 ∧ (optInt T n hi).1 ∧ 0 ≤ (optInt T 0 lo).2 ∧ (optInt T 0 lo).2 ≤ (optInt T n hi).2 ∧ (optInt T n hi).2 ≤ n,
        .ro z ((optInt T n hi).2 - (optInt T 0 lo).2).toNat ((cs.drop ((optInt T 0 lo).2.toNat * z)).take (((optInt T n hi).2 - (optInt T 0 lo).2).toNat * z)))
    | _ => (False, .junk)
  | .sstr x lo hi =>
    match ev T x with
    | .raw (.string s) => ((optInt T 0 lo).1 ∧ (optInt T s.size hi).1 ∧ 0 ≤ (optInt T 0 lo).2 ∧ (optInt T 0 lo).2 ≤ (optInt T s.size hi).2 ∧ (optInt T s.size hi).2 ≤ s.size,
        .raw (.string (s.extract (optInt T 0 lo).2.toNat (optInt T s.size hi).2.toNat)))
    | _ => (False, .junk)
  | .ext k x =>
    match ev T x with
    | .tup vs => (k < vs.length, vs.getD k .junk)
    | _ => (False, .junk)
  | .build zero parts =>
    ((parts.all fun p => decide (p.1 + p.2.1 ≤ zero.length)) = true ∧ (partsOk T parts), .agg (wrAll (raws zero) (parts.map fun p => (p.1, cellsOf (ev T p.2.2)))))
  | .lens x =>
    match ev T x with
    | .sl _ _ _ n _ => (True, .raw (.int .i64 n))
    | .ro _ n _ => (True, .raw (.int .i64 n))
    | .raw (.slice _ n _) => (True, .raw (.int .i64 n))
    | _ => (False, .junk)
  | .lstr x =>
    match ev T x with
    | .raw (.string s) => (True, .raw (.int .i64 s.size))
    | _ => (False, .junk)
  | .lenc n => (True, .raw (.int .i64 n))
  | .mm isMin xs =>
    match xs with
    | [] => (False, .junk)
    | x :: r => mmAll isMin (True, ev T x) (r.map (ev T))
  | .mkfn f caps => (True, .fn f (caps.map (ev T)))
  | .s2a n z x =>
    match ev T x with
    | .sl i z' o k b => (z' = z ∧ n ≤ k ∧ 0 < n, .ptr i o)
    | .ro z' k cs => (z' = z ∧ n ≤ k ∧ 0 < n * z, .rp cs)
    | _ => (False, .junk)
  | .snil neg x =>
    match ev T x with
    | .raw (.slice none _ _) => (True, .raw (.bool (!neg)))
    | .sl _ _ _ n _ => (0 < n, .raw (.bool neg))
    | .ro z n cs => (0 < n * z, .raw (.bool neg))
    | _ => (False, .junk)
  | _ => (False, .junk)
/-- Operations that look at memory that may be written. -/
def lr (T : List AV) (H : Heap) : LOp → Prop × AV
  | .load ag n x =>
    match ev T x with
    | .ptr i o => match H.getD i .dead with
      | .c cs => (o + n ≤ cs.length ∧ (ag = true ∨ n = 1), takeAg ag n (cs.drop o))
      | _ => (False, .junk)
    | .rp cs => (n ≤ cs.length ∧ (ag = true ∨ n = 1), takeAg ag n cs)
    | _ => (False, .junk)
  | .sarr len z x lo hi =>
    match ev T x with
    | .ptr j o => match H.getD j .dead with
      | .c cs => (o + len * z ≤ cs.length ∧ (optInt T 0 lo).1 ∧ (optInt T len hi).1 ∧ 0 ≤ (optInt T 0 lo).2 ∧ (optInt T 0 lo).2 ≤ (optInt T len hi).2 ∧ (optInt T len hi).2 ≤ len,
        .sl j z (o + (optInt T 0 lo).2.toNat * z) ((optInt T len hi).2 - (optInt T 0 lo).2).toNat false)
      | _ => (False, .junk)
    | _ => (False, .junk)
  | _ => (False, .junk)
end Go.Proofs.Lite

namespace Go.Proofs.Lite
open Go
section
variable {P : Program} (w : World)
theorem ev_rep {T : List AV} {tmps : List Value} {D ρ} (hT : RepL D ρ T tmps) (x : Operand) : Rep D ρ (ev T x) (Act.eval ⟨tmps.toArray, []⟩ x) := by
  cases x with
  | tmp t => simpa [ev, Act.eval] using hT.getD t undef
  | const v => simp [ev, Act.eval, Rep]
  | global g => simp [ev, Act.eval, Rep]
  | func f => simp [ev, Act.eval, Rep, RepL]
theorem ev_raw {T : List AV} {tmps : List Value} {D ρ} (hT : RepL D ρ T tmps) {x : Operand} {v : Value} (h : ev T x = .raw v) : Act.eval ⟨tmps.toArray, []⟩ x = v := by
  have := ev_rep hT x
  rw [h] at this
  simpa [Rep] using this
theorem guard_scalar (op : BinOp) (t : TypeId) (x y : Operand) (a b : Value) (h : (∃ k n, a = .int k n) ∨ (∃ s, a = .string s) ∨ ∃ c, a = .bool c) : (eqGuard op t x y a b).run P w = .ok () w := by
  rcases h with ⟨k, n, rfl⟩ | ⟨s, rfl⟩ | ⟨c, rfl⟩ <;> cases op <;> simp [eqGuard]
theorem bin_run (op : BinOp) (t : TypeId) (a b : Value) (h : (binR op a b).1) : (binOp op t a b).run P w = .ok (binR op a b).2 w := by
  cases a <;> cases b <;> simp only [binR] at h
  case int.int k a k' b =>
    cases op <;> simp only [] at h ⊢
    case shl => simp [binOp, binR, Op.shift, show ¬ b < 0 by omega]
    case shr => simp [binOp, binR, Op.shift, show ¬ b < 0 by omega]
    case quo => obtain ⟨rfl, hb⟩ := h; simp [binOp, binR, Op.intDiv, hb]
    case rem => obtain ⟨rfl, hb⟩ := h; simp [binOp, binR, Op.intDiv, hb]
    all_goals (subst h; simp [binOp, binR, Op.intArith, Op.intBits, Op.intCmp])
  case string.string a b =>
    cases op <;> simp only [] at h ⊢
    case add => 
      have : ¬ (((a.size + b.size : Nat) : Int) > IntKind.i64.max) := by
        have e : IntKind.i64.max = 9223372036854775807 := by decide
        rw [e]; omega
      simp only [binOp, binR, Op.stringOp, this, if_false]
      simp
    case eql => simp [binOp, binR, Op.stringOp]
    case neq => simp [binOp, binR, Op.stringOp]
end
end Go.Proofs.Lite

namespace Go.Proofs.Lite
open Go
def isPure : LOp → Bool
  | .mv _ | .pick .. | .bin .. | .beq .. | .eqs .. | .un .. | .conv .. | .nilc _ | .fad .. | .fld .. | .iarr .. | .isl .. | .aidx .. | .sidx ..
  | .ssl .. | .sstr .. | .ext .. | .build .. | .lens _ | .lstr _ | .lenc _ | .mm .. | .mkfn .. | .s2a .. | .snil .. => true
  | _ => false
section
variable {P : Program} (w : World) {T : List AV} {tmps : List Value} {D : Store} {ρ : Env}
/-- What 'execOp' must come to. -/
def Gives (P : Program) (D : Store) (ρ : Env) (tmps : List Value) (o : Oper) (v : AV) : Prop :=
  ∃ x, (∀ w, (execOp (Act.eval ⟨tmps.toArray, []⟩) o).run P w = .ok (.value x) w) ∧ Rep D ρ v x
theorem intOf_eval (hT : RepL D ρ T tmps) {x : Operand} (h : (intOf (ev T x)).1) : ∃ k, Act.eval ⟨tmps.toArray, []⟩ x = .int k (intOf (ev T x)).2 := by
  have := ev_rep hT x
  revert h this
  cases ev T x with
  | raw v => cases v <;> simp [intOf, Rep] <;> intro h <;> exact ⟨_, h⟩
  | _ => simp [intOf]
theorem bin_gives {o : Oper} {op : BinOp} {t yt : TypeId} {x y : Operand} (ho : o.op = .binOp op t x y yt) (hT : RepL D ρ T tmps)
    (h : (pr T (.bin op x y)).1) : Gives P D ρ tmps o (pr T (.bin op x y)).2 := by
  simp only [pr] at h ⊢
  split at h
  · rename_i a b ha hb
    have ea := ev_raw hT ha
    have eb := ev_raw hT hb
    simp only [] at h
    refine ⟨(binR op a b).2, fun w => ?_, by simp [Rep]⟩
    simp only [execOp, ho, Sem.run_bind, ea, eb]
    rw [guard_scalar (P := P) w op t x y a b (by
      cases a <;> cases b <;> simp [binR] at h ⊢)]
    simp [bin_run w op t a b h]
  · exact h.elim
theorem beq_gives {o : Oper} {op : BinOp} {t yt : TypeId} {x y : Operand} {neg : Bool} (ho : o.op = .binOp op t x y yt) (hop : op = if neg then .neq else .eql)
    (ht : P.underlying t = some .bool) (hT : RepL D ρ T tmps)
    (h : (pr T (.beq neg x y)).1) : Gives P D ρ tmps o (pr T (.beq neg x y)).2 := by
  simp only [pr] at h ⊢
  split at h
  · rename_i a b ha hb
    have ea := ev_raw hT ha
    have eb := ev_raw hT hb
    refine ⟨.bool (if neg then !(a == b) else a == b), fun w => ?_, by simp only [Rep]⟩
    simp only [execOp, ho, Sem.run_bind, ea, eb]
    rw [guard_scalar (P := P) w op t x y _ _ (.inr (.inr ⟨_, rfl⟩))]
    have hq : (Op.equal t (.bool a) (.bool b)).run P w = .ok (a == b) w := by
      unfold Op.equal Op.maxDepth
      exact run_equalIn_bool' w 9999 t a b ht
    cases neg <;> subst hop <;> simp [binOp, hq]
  · exact h.elim
theorem un_gives {o : Oper} {op : UnOp} {t : TypeId} {x : Operand} (ho : o.op = .unOp op t x) (hT : RepL D ρ T tmps)
    (h : (pr T (.un op x)).1) : Gives P D ρ tmps o (pr T (.un op x)).2 := by
  simp only [pr] at h ⊢
  split at h
  · rename_i k n ha
    have ea := ev_raw hT ha
    exact ⟨_, fun w => by simp [execOp, ho, ea, Op.unary, Op.intArith]; rfl, by simp [Rep]⟩
  · rename_i b ha
    have ea := ev_raw hT ha
    exact ⟨_, fun w => by simp [execOp, ho, ea, Op.unary]; rfl, by simp [Rep]⟩
  · exact h.elim
theorem conv_gives {o : Oper} {s d : TypeId} {x : Operand} {k k' : IntKind} (ho : o.op = .convert s d x) (hs : P.underlying s = some (.int k')) (hd : P.underlying d = some (.int k)) (hT : RepL D ρ T tmps)
    (h : (pr T (.conv k x)).1) : Gives P D ρ tmps o (pr T (.conv k x)).2 := by
  simp only [pr] at h ⊢
  split at h
  · rename_i k1 n ha
    have ea := ev_raw hT ha
    refine ⟨.int k (k.wrap n), fun w => ?_, by simp [Rep]⟩
    simp only [execOp, ho, ea, convert, Sem.run_bind, run_underlying hs, run_underlying hd, Result.andThen_ok]
    simp [Conv.intToInt]
  · exact h.elim
theorem nilc_gives {o : Oper} {x : Operand} (ho : o.op = .nilCheck x) (hT : RepL D ρ T tmps)
    (h : (pr T (.nilc x)).1) : Gives P D ρ tmps o (pr T (.nilc x)).2 := by
  have hr := ev_rep hT x
  simp only [pr] at h ⊢
  split at h
  · rename_i i off ha
    rw [ha] at hr
    have hr' := hr
    simp only [Rep] at hr'
    obtain ⟨l, _, hx⟩ := hr'
    exact ⟨_, fun w => by simp only [execOp, ho, hx]; simp; rfl, by rw [hx] at hr; exact hr⟩
  · rename_i cs ha
    rw [ha] at hr
    have hr' := hr
    simp only [Rep] at hr'
    obtain ⟨a, hx, _⟩ := hr'
    exact ⟨_, fun w => by simp only [execOp, ho, hx]; simp; rfl, by rw [hx] at hr; exact hr⟩
  · exact h.elim
theorem RepRow.drop {cs : List AV} {a : Addr} (n : Nat) (h : RepRow D (some a) 0 cs) : RepRow D (some (a.add n)) 0 (cs.drop n) := by
  refine RepRow.of_get (fun i c hc => ?_)
  rw [List.getElem?_drop] at hc
  obtain ⟨ad, v, h1, h2, h3, h4⟩ := h.get hc
  injection h1 with h1; subst h1
  refine ⟨_, v, rfl, ?_, ?_, h4⟩
  · unfold Addr.add; split <;> simp_all
  · rw [← h3]
    congr 1
    unfold Addr.add
    split <;> simp_all <;> omega
theorem RepRow.take {cs : List AV} {a : Option Addr} {k : Nat} (n : Nat) (h : RepRow D a k cs) : RepRow D a k (cs.take n) := by
  refine RepRow.of_get (fun i c hc => ?_)
  rw [List.getElem?_take] at hc
  split at hc
  · exact h.get hc
  · cases hc
theorem Loc.at_add (l : Loc) (a b : Nat) : (l.at a).add b = l.at (a + b) := by
  unfold Addr.add Loc.at
  split
  · rename_i h; subst h; rfl
  · simp; omega
theorem size_run {t : TypeId} {n : Nat} (h : sizeT P t = some n) (w : World) : (sizeOf t).run P w = .ok n w := by
  unfold sizeT at h
  cases hi : P.info? t with
  | none => simp [hi] at h
  | some i =>
    simp [hi] at h
    simp [sizeOf, typeInfo, hi, h]
theorem place_run {fd : Field} (hz : ∃ n, sizeT P fd.type = some n ∧ n ≠ 0) (a : Addr) (w : World) : (fieldPlace a fd).run P w = .ok (a.add fd.offset) w := by
  obtain ⟨n, hn, h0⟩ := hz
  simp [fieldPlace, size_run hn, h0]
theorem fad_gives {o : Oper} {t : TypeId} {x : Operand} {f : Nat} {fs : Array Field} {fd : Field} (ho : o.op = .fieldAddr t x f) (ht : P.underlying t = some (.struct fs)) (hf : fs[f]? = some fd) (hT : RepL D ρ T tmps)
    (h : (pr T (.fad fd.offset x)).1) (hz : ∃ n, sizeT P fd.type = some n ∧ n ≠ 0) : Gives P D ρ tmps o (pr T (.fad fd.offset x)).2 := by
  have hr := ev_rep hT x
  have hplace := place_run hz
  simp only [pr] at h ⊢
  split at h
  · rename_i i off ha
    rw [ha] at hr
    simp only [Rep] at hr
    obtain ⟨l, hl, hx⟩ := hr
    refine ⟨.pointer (some ((l.at off).add fd.offset)), fun w => ?_, ?_⟩
    · simp only [execOp, ho, hx, Instr.fieldAt, Sem.run_bind, run_underlying ht, Result.andThen_ok]
      simp [hf, Instr.sureAddr, hplace]
    · simp only [Rep]; exact ⟨l, hl, by rw [Loc.at_add]⟩
  · rename_i cs ha
    rw [ha] at hr
    simp only [Rep] at hr
    obtain ⟨a, hx, hrow⟩ := hr
    refine ⟨.pointer (some (a.add fd.offset)), fun w => ?_, ?_⟩
    · simp only [execOp, ho, hx, Instr.fieldAt, Sem.run_bind, run_underlying ht, Result.andThen_ok]
      simp [hf, Instr.sureAddr, hplace]
    · simp only [Rep]; exact ⟨_, rfl, hrow.drop _⟩
  · exact h.elim
theorem agg_run {t : TypeId} {b : Bool} (h : aggT P t = some b) (w : World) : (isAgg t).run P w = .ok b w := by
  unfold aggT at h
  cases hu : P.underlying t with
  | none => rw [hu] at h; cases h
  | some d =>
    rw [hu] at h
    simp only [isAgg, Sem.run_bind, run_underlying hu, Result.andThen_ok]
    cases d <;> simp_all
theorem part_run {t : TypeId} {b : Bool} {n off : Nat} (ha : aggT P t = some b) (hn : sizeT P t = some n) (vs : List Value) (hl : off + n ≤ vs.length) (h1 : b = true ∨ n = 1) (w : World) :
    (part t vs.toArray off).run P w = .ok (if b then .agg ((vs.drop off).take n).toArray else vs.getD off undef) w := by
  cases b with
  | true =>
    simp only [part, Sem.run_bind, agg_run ha, Result.andThen_ok, if_true, size_run hn, Sem.run_pure]
    congr 2
    simp [List.extract_toArray, List.extract_eq_take_drop]
  | false =>
    have h1 : n = 1 := h1.resolve_left (by simp)
    have : off < vs.length := by omega
    simp only [part, Sem.run_bind, agg_run ha, Result.andThen_ok]
    simp [this]
theorem takeAg_rep {b : Bool} {n off : Nat} {cs : List AV} {vs : List Value} (h : RepL D ρ cs vs) :
    Rep D ρ (takeAg b n (cs.drop off)) (if b then .agg ((vs.drop off).take n).toArray else vs.getD off undef) := by
  cases b with
  | true => simp only [takeAg, if_true, Rep]; exact ⟨_, rfl, (h.drop off).take n⟩
  | false =>
    have := h.getD off undef
    simpa [takeAg, List.getD_eq_getElem?_getD, List.getElem?_drop] using this
theorem fld_gives {o : Oper} {t : TypeId} {x : Operand} {f : Nat} {fs : Array Field} {fd : Field} {ag : Bool} {n : Nat} (ho : o.op = .field t x f) (ht : P.underlying t = some (.struct fs)) (hf : fs[f]? = some fd) (hT : RepL D ρ T tmps)
    (ha : aggT P fd.type = some ag) (hn : sizeT P fd.type = some n) (h : (pr T (.fld ag n fd.offset x)).1) : Gives P D ρ tmps o (pr T (.fld ag n fd.offset x)).2 := by
  have hr := ev_rep hT x
  simp only [pr] at h ⊢
  split at h
  · rename_i cs hx
    rw [hx] at hr
    simp only [Rep] at hr
    obtain ⟨vs, hx, hvs⟩ := hr
    refine ⟨_, fun w => ?_, takeAg_rep hvs⟩
    have := part_run ha hn vs (by rw [← hvs.length]; exact h.1) h.2 w
    simp only [execOp, ho, hx, Instr.field, Sem.run_bind, run_underlying ht, Result.andThen_ok]
    simp [hf, asAgg, this]
  · exact h.elim
theorem iarr_gives {o : Oper} {t e : TypeId} {x i : Operand} {len z : Nat} (ho : o.op = .indexAddr t x i) (ht : P.underlying t = some (.array len e)) (hz : sizeT P e = some z) (hT : RepL D ρ T tmps)
    (h : (pr T (.iarr len z x i)).1) : Gives P D ρ tmps o (pr T (.iarr len z x i)).2 := by
  have hr := ev_rep hT x
  simp only [pr] at h ⊢
  split at h
  · rename_i j off ha
    rw [ha] at hr
    simp only [Rep] at hr
    obtain ⟨l, hl, hx⟩ := hr
    obtain ⟨h1, h2, h3⟩ := h
    obtain ⟨k, hi⟩ := intOf_eval hT h1
    refine ⟨.pointer (some ((l.at off).add ((intOf (ev T i)).2.toNat * z))), fun w => ?_, ?_⟩
    · simp only [execOp, ho, hx, hi, Instr.indexAt, asIntOf, Sem.run_bind, Sem.run_pure, run_underlying ht, Result.andThen_ok]
      simp [Instr.sureAddr, size_run hz, h2, h3]
    · simp only [Rep]; exact ⟨l, hl, by rw [Loc.at_add]⟩
  · rename_i cs ha
    rw [ha] at hr
    simp only [Rep] at hr
    obtain ⟨a, hx, hrow⟩ := hr
    obtain ⟨h1, h2, h3⟩ := h
    obtain ⟨k, hi⟩ := intOf_eval hT h1
    refine ⟨.pointer (some (a.add ((intOf (ev T i)).2.toNat * z))), fun w => ?_, ?_⟩
    · simp only [execOp, ho, hx, hi, Instr.indexAt, asIntOf, Sem.run_bind, Sem.run_pure, run_underlying ht, Result.andThen_ok]
      simp [Instr.sureAddr, size_run hz, h2, h3]
    · simp only [Rep]; exact ⟨_, rfl, hrow.drop _⟩
  · exact h.elim
theorem isl_gives {o : Oper} {t e : TypeId} {x i : Operand} {z : Nat} (ho : o.op = .indexAddr t x i) (ht : P.underlying t = some (.slice e)) (hz : sizeT P e = some z) (hT : RepL D ρ T tmps)
    (h : (pr T (.isl z x i)).1) : Gives P D ρ tmps o (pr T (.isl z x i)).2 := by
  have hr := ev_rep hT x
  simp only [pr] at h ⊢
  split at h
  · rename_i j z' off n b ha
    rw [ha] at hr
    simp only [Rep] at hr
    obtain ⟨l, a, cap, hl, hx, hc, he, ha'⟩ := hr
    obtain ⟨rfl, h1, h2, h3⟩ := h
    obtain ⟨k, hi⟩ := intOf_eval hT h1
    have ha' : a = some (l.at off) := ha'.resolve_left (by omega)
    refine ⟨.pointer (some ((l.at off).add ((intOf (ev T i)).2.toNat * z'))), fun w => ?_, ?_⟩
    · simp only [execOp, ho, hx, hi, Instr.indexAt, asIntOf, Sem.run_bind, Sem.run_pure, run_underlying ht, Result.andThen_ok]
      simp [size_run hz, h2, h3, ha']
    · simp only [Rep]; exact ⟨l, hl, by rw [Loc.at_add]⟩
  · rename_i z' n cs ha
    rw [ha] at hr
    simp only [Rep] at hr
    obtain ⟨a, cap, hx, hc, he, hrow⟩ := hr
    obtain ⟨rfl, hz0, h1, h2, h3⟩ := h
    obtain ⟨k, hi⟩ := intOf_eval hT h1
    have hnz : 0 < n * z' := Nat.mul_pos (by omega) hz0
    have hsome : ∃ ad, a = some ad := by
      obtain ⟨ad, v, e, _⟩ := hrow.get (i := 0) (c := cs[0]'(by omega)) (List.getElem?_eq_getElem _)
      exact ⟨ad, e⟩
    obtain ⟨ad, rfl⟩ := hsome
    refine ⟨.pointer (some (ad.add ((intOf (ev T i)).2.toNat * z'))), fun w => ?_, ?_⟩
    · simp only [execOp, ho, hx, hi, Instr.indexAt, asIntOf, Sem.run_bind, Sem.run_pure, run_underlying ht, Result.andThen_ok]
      simp [size_run hz, h2, h3]
    · simp only [Rep]; exact ⟨_, rfl, (hrow.drop _).take _⟩
  · exact h.elim
end
end Go.Proofs.Lite

namespace Go.Proofs.Lite
open Go
section
variable {P : Program} {T : List AV} {tmps : List Value} {D : Store} {ρ : Env}
theorem mv_gives {o : Oper} {x : Operand} (ho : o.op = .move x ∨ o.op = .assign x) (hT : RepL D ρ T tmps) : Gives P D ρ tmps o (pr T (.mv x)).2 :=
  ⟨_, fun w => by rcases ho with ho | ho <;> simp only [execOp, ho] <;> rfl, ev_rep hT x⟩
theorem pick_gives {o : Oper} {c a b : Operand} (ho : o.op = .pick c a b) (hT : RepL D ρ T tmps) (h : (pr T (.pick c a b)).1) : Gives P D ρ tmps o (pr T (.pick c a b)).2 := by
  simp only [pr] at h ⊢
  split at h
  · rename_i cb hc
    have ec := ev_raw hT hc
    have ea := ev_rep hT a
    have eb := ev_rep hT b
    refine ⟨if cb then Act.eval ⟨tmps.toArray, []⟩ a else Act.eval ⟨tmps.toArray, []⟩ b, fun w => by simp only [execOp, ho, ec, asBool]; simp, ?_⟩
    simp only []
    unfold pickR
    split
    · rename_i c' x' y' hx hy
      rw [hx] at ea; rw [hy] at eb
      simp only [Rep] at ea eb ⊢
      rw [ea, eb]
      split <;> rfl
    · simpa using ea
    · simpa using eb
  · exact h.elim
theorem aidx_gives {o : Oper} {t e : TypeId} {x i : Operand} {ag : Bool} {len z : Nat} (ho : o.op = .index t x i) (ht : P.underlying t = some (.array len e)) (ha : aggT P e = some ag) (hz : sizeT P e = some z) (hT : RepL D ρ T tmps)
    (h : (pr T (.aidx ag len z x i)).1) : Gives P D ρ tmps o (pr T (.aidx ag len z x i)).2 := by
  have hr := ev_rep hT x
  simp only [pr] at h ⊢
  split at h
  · rename_i cs hx
    rw [hx] at hr
    simp only [Rep] at hr
    obtain ⟨vs, hx, hvs⟩ := hr
    obtain ⟨h1, h2, h3, h4, h5⟩ := h
    obtain ⟨k, hi⟩ := intOf_eval hT h1
    refine ⟨_, fun w => ?_, takeAg_rep hvs⟩
    have hle : (intOf (ev T i)).2.toNat * z + z ≤ vs.length := by
      rw [← hvs.length, h4, ← Nat.succ_mul]; exact Nat.mul_le_mul_right _ (by omega)
    have := part_run ha hz vs hle h5 w
    simp only [execOp, ho, hx, hi, Instr.index, asIntOf, Sem.run_bind, Sem.run_pure, run_underlying ht, Result.andThen_ok]
    simp [size_run hz, h2, h3, this]
  · exact h.elim
theorem sidx_gives {o : Oper} {t : TypeId} {x i : Operand} (ho : o.op = .index t x i) (ht : P.underlying t = some .string) (hT : RepL D ρ T tmps)
    (h : (pr T (.sidx x i)).1) : Gives P D ρ tmps o (pr T (.sidx x i)).2 := by
  simp only [pr] at h ⊢
  split at h
  · rename_i s hx
    have ex := ev_raw hT hx
    obtain ⟨h1, h2, h3⟩ := h
    obtain ⟨k, hi⟩ := intOf_eval hT h1
    refine ⟨.int .u8 (s.data.getD (intOf (ev T i)).2.toNat 0).toNat, fun w => ?_, by simp only [Rep]⟩
    have hlt : (intOf (ev T i)).2.toNat < s.size := by omega
    simp only [execOp, ho, ex, hi, Instr.index, asIntOf, Sem.run_bind, Sem.run_pure, run_underlying ht, Result.andThen_ok]
    have e2 : s[(intOf (ev T i)).2.toNat]? = some (s.data.getD (intOf (ev T i)).2.toNat 0) := by
      rw [getElem?_pos s _ hlt]
      simp [Array.getD, hlt]; rfl
    simp [h2, e2]
  · exact h.elim
theorem bounds_run {isSlice : Bool} {len cap : Nat} {lo hi : Option Operand} (hT : RepL D ρ T tmps) (h1 : (optInt T 0 lo).1) (h2 : (optInt T len hi).1) (h3 : 0 ≤ (optInt T 0 lo).2) (h4 : (optInt T 0 lo).2 ≤ (optInt T len hi).2)
    (h5 : (optInt T len hi).2 ≤ len) (hc : len ≤ cap) (w : World) :
    (Instr.sliceBounds isSlice len cap (lo.map (Act.eval ⟨tmps.toArray, []⟩)) (hi.map (Act.eval ⟨tmps.toArray, []⟩)) none).run P w = .ok ((optInt T 0 lo).2.toNat, (optInt T len hi).2.toNat, cap) w := by
  cases hi with
  | none =>
    simp only [optInt] at h4 h5 ⊢
    cases lo with
    | none => simp [Instr.sliceBounds]
    | some x =>
      simp only [optInt] at h1 h3 h4 ⊢
      obtain ⟨k, he⟩ := intOf_eval hT h1
      simp [Instr.sliceBounds, Instr.sliceBound, he, asIntOf, h3, h4]
  | some y =>
    simp only [optInt] at h2 h4 h5 ⊢
    obtain ⟨k, he⟩ := intOf_eval hT h2
    cases lo with
    | none =>
      simp only [] at h4 ⊢
      have : (intOf (ev T y)).2 ≤ cap := by omega
      simp [Instr.sliceBounds, Instr.sliceBound, he, asIntOf, h4, this]
    | some x =>
      simp only [optInt] at h1 h3 h4 ⊢
      obtain ⟨k', he'⟩ := intOf_eval hT h1
      have : (intOf (ev T y)).2 ≤ cap := by omega
      have h0 : 0 ≤ (intOf (ev T y)).2 := by omega
      have h6 : (intOf (ev T x)).2 ≤ ((intOf (ev T y)).2.toNat : Int) := by omega
      simp [Instr.sliceBounds, Instr.sliceBound, he, he', asIntOf, h3, this, h0]
      intro hh; omega
theorem ssl_gives {o : Oper} {t e : TypeId} {x : Operand} {lo hi : Option Operand} {z : Nat} (ho : o.op = .slice t x lo hi none) (ht : P.underlying t = some (.slice e)) (hz : sizeT P e = some z) (hT : RepL D ρ T tmps)
    (h : (pr T (.ssl z x lo hi)).1) : Gives P D ρ tmps o (pr T (.ssl z x lo hi)).2 := by
  have hr := ev_rep hT x
  simp only [pr] at h ⊢
  split at h
  · rename_i j z' off n b ha
    have hr' := hr
    rw [ha] at hr'
    simp only [Rep] at hr'
    obtain ⟨l, a, cap, hl, hx, hc, he, ha'⟩ := hr'
    obtain ⟨rfl, h1, h2, h3, h4, h5⟩ := h
    have hb := fun w => bounds_run (P := P) (isSlice := true) (cap := cap) hT h1 h2 h3 h4 h5 hc w
    generalize hL : (optInt T 0 lo).2 = L at *
    generalize hH : (optInt T (n : Int) hi).2 = Hh at *
    refine ⟨.slice (if cap = L.toNat then a else a.map (·.add (L.toNat * z'))) (Hh.toNat - L.toNat) (cap - L.toNat), fun w => ?_, ?_⟩
    · simp only [execOp, ho, hx, Instr.sliceAt, Instr.slice, Sem.run_bind, run_underlying ht, Result.andThen_ok, Option.map_none]
      simp only [Sem.run_pure, Result.andThen_ok, hb, size_run hz]
    · simp only [Rep]
      by_cases e : cap = L.toNat
      · refine ⟨l, a, cap - L.toNat, hl, by rw [if_pos e, show (Hh - L).toNat = Hh.toNat - L.toNat from by omega], by omega, ?_, ?_⟩
        · intro hb
          have he := he hb
          rw [Nat.sub_mul]
          have : L.toNat * z' ≤ cap * z' := Nat.mul_le_mul_right _ (by omega)
          omega
        · left; omega
      · refine ⟨l, a.map (·.add (L.toNat * z')), cap - L.toNat, hl, by rw [if_neg e, show (Hh - L).toNat = Hh.toNat - L.toNat from by omega], by omega, ?_, ?_⟩
        · intro hb
          have he := he hb
          rw [Nat.sub_mul]
          have : L.toNat * z' ≤ cap * z' := Nat.mul_le_mul_right _ (by omega)
          omega
        · right
          rw [ha'.resolve_left (by omega), Option.map_some, Loc.at_add]
  · rename_i z' n cs ha
    have hr' := hr
    rw [ha] at hr'
    simp only [Rep] at hr'
    obtain ⟨a, cap, hx, hc, he, hrow⟩ := hr'
    obtain ⟨rfl, h1, h2, h3, h4, h5⟩ := h
    have hb := fun w => bounds_run (P := P) (isSlice := true) (cap := cap) hT h1 h2 h3 h4 h5 hc w
    generalize hL : (optInt T 0 lo).2 = L at *
    generalize hH : (optInt T (n : Int) hi).2 = Hh at *
    refine ⟨.slice (if cap = L.toNat then a else a.map (·.add (L.toNat * z'))) (Hh.toNat - L.toNat) (cap - L.toNat), fun w => ?_, ?_⟩
    · simp only [execOp, ho, hx, Instr.sliceAt, Instr.slice, Sem.run_bind, run_underlying ht, Result.andThen_ok, Option.map_none]
      simp only [Sem.run_pure, Result.andThen_ok, hb, size_run hz]
    · simp only [Rep]
      have e3 : (Hh - L).toNat = Hh.toNat - L.toNat := by omega
      refine ⟨_, cap - L.toNat, by rw [e3], by omega, ?_, ?_⟩
      · rw [List.length_take, List.length_drop, he, e3, Nat.sub_mul]
        have : Hh.toNat * z' ≤ n * z' := Nat.mul_le_mul_right _ (by omega)
        omega
      · by_cases e : cap = L.toNat
        · have : Hh.toNat - L.toNat = 0 := by omega
          rw [e3, this]; simp [RepRow]
        · rw [if_neg e]
          cases a with
          | none =>
            refine RepRow.of_get (fun i c hc => ?_)
            rw [List.getElem?_take] at hc
            split at hc
            · rw [List.getElem?_drop] at hc
              obtain ⟨ad, v, e, _⟩ := hrow.get hc
              cases e
            · cases hc
          | some a => exact (hrow.drop _).take _
  · exact h.elim
theorem sstr_gives {o : Oper} {t : TypeId} {x : Operand} {lo hi : Option Operand} (ho : o.op = .slice t x lo hi none) (ht : P.underlying t = some .string) (hT : RepL D ρ T tmps)
    (h : (pr T (.sstr x lo hi)).1) : Gives P D ρ tmps o (pr T (.sstr x lo hi)).2 := by
  simp only [pr] at h ⊢
  split at h
  · rename_i s hx
    have ex := ev_raw hT hx
    obtain ⟨h1, h2, h3, h4, h5⟩ := h
    have hb := fun w => bounds_run (P := P) (isSlice := false) (cap := s.size) hT h1 h2 h3 h4 h5 (Nat.le_refl _) w
    refine ⟨.string (s.extract (optInt T 0 lo).2.toNat (optInt T s.size hi).2.toNat), fun w => ?_, by simp only [Rep]⟩
    simp only [execOp, ho, ex, Instr.sliceAt, Instr.slice, Sem.run_bind, run_underlying ht, Result.andThen_ok, Option.map_none]
    simp [hb]
  · exact h.elim
theorem ext_gives {o : Oper} {x : Operand} {k : Nat} (ho : o.op = .extract x k) (hT : RepL D ρ T tmps) (h : (pr T (.ext k x)).1) : Gives P D ρ tmps o (pr T (.ext k x)).2 := by
  have hr := ev_rep hT x
  simp only [pr] at h ⊢
  split at h
  · rename_i vs hx
    rw [hx] at hr
    simp only [Rep] at hr
    obtain ⟨us, hx, hvs⟩ := hr
    have hk : k < us.length := by rw [← hvs.length]; exact h
    refine ⟨us.getD k undef, fun w => ?_, by simpa using hvs.getD k undef⟩
    simp only [execOp, ho, hx, Instr.extract]
    simp [hk]
  · exact h.elim
theorem lens_gives {o : Oper} {t e : TypeId} {x : Operand} {c : Call} (ho : o.op = .call c) (hc : c.callee = .builtin .len) (hargs : c.args = #[x]) (hat : c.argTypes[0]? = some t)
    (ht : P.underlying t = some (.slice e)) (hT : RepL D ρ T tmps) (h : (pr T (.lens x)).1) : Gives P D ρ tmps o (pr T (.lens x)).2 := by
  have hr := ev_rep hT x
  simp only [pr] at h ⊢
  have key : ∀ (a : Option Addr) (n c : Nat), Act.eval ⟨tmps.toArray, []⟩ x = .slice a n c → Gives P D ρ tmps o (.raw (.int .i64 n)) := by
    intro a n cc hv
    exact ⟨.int .i64 n, fun w => by simp [execOp, ho, resolve, hc, hargs, hv, invoke, builtin, Builtin.len_, hat, Sem.run_bind, run_underlying ht, goInt], by simp [Rep]⟩
  split at h
  · rename_i i z oo n b hx
    rw [hx] at hr
    simp only [Rep] at hr
    obtain ⟨l, a, cap, _, hv, _⟩ := hr
    exact key _ n _ hv
  · rename_i z n cs hx
    rw [hx] at hr
    simp only [Rep] at hr
    obtain ⟨a, cap, hv, _⟩ := hr
    exact key _ n _ hv
  · rename_i a n cc hx
    rw [hx] at hr
    simp only [Rep] at hr
    exact key _ n _ hr
  · exact h.elim
theorem lstr_gives {o : Oper} {t : TypeId} {x : Operand} {c : Call} (ho : o.op = .call c) (hc : c.callee = .builtin .len) (hargs : c.args = #[x]) (hat : c.argTypes[0]? = some t)
    (ht : P.underlying t = some .string) (hT : RepL D ρ T tmps) (h : (pr T (.lstr x)).1) : Gives P D ρ tmps o (pr T (.lstr x)).2 := by
  simp only [pr] at h ⊢
  split at h
  · rename_i s hx
    have hv := ev_raw hT hx
    exact ⟨.int .i64 s.size, fun w => by simp [execOp, ho, resolve, hc, hargs, hv, invoke, builtin, Builtin.len_, hat, Sem.run_bind, run_underlying ht, goInt], by simp [Rep]⟩
  · exact h.elim
theorem lenc_gives {o : Oper} {t : TypeId} {x : Operand} {c : Call} {n : Nat} (ho : o.op = .call c) (hc : c.callee = .builtin .len) (hargs : c.args = #[x]) (hat : c.argTypes[0]? = some t)
    (ht : (∃ e, P.underlying t = some (.array n e)) ∨ ∃ a e, P.underlying t = some (.pointer a) ∧ P.underlying a = some (.array n e)) : Gives P D ρ tmps o (pr T (.lenc n)).2 := by
  refine ⟨.int .i64 n, fun w => ?_, by simp [pr, Rep]⟩
  rcases ht with ⟨e, he⟩ | ⟨a, e, ha, he⟩
  · simp only [execOp, ho, resolve, hc, hargs]
    simp [invoke, builtin, Builtin.len_, hat, Sem.run_bind, run_underlying he, goInt]
  · simp only [execOp, ho, resolve, hc, hargs]
    simp [invoke, builtin, Builtin.len_, hat, Sem.run_bind, run_underlying ha, run_underlying he, goInt]
theorem map_evs {xs : List Operand} (hT : RepL D ρ T tmps) : RepL D ρ (xs.map (ev T)) (xs.map (Act.eval ⟨tmps.toArray, []⟩)) := by
  induction xs with
  | nil => simp [RepL]
  | cons x xs ih => simp only [List.map_cons, RepL]; exact ⟨ev_rep hT x, ih⟩
theorem mkfn_gives {o : Oper} {f : Nat} {caps : Array Operand} (ho : o.op = .makeFunc (.func f) #[] caps) (hT : RepL D ρ T tmps) : Gives P D ρ tmps o (pr T (.mkfn f caps.toList)).2 := by
  refine ⟨.func (.func f) #[] (caps.map (Act.eval ⟨tmps.toArray, []⟩)), fun w => by simp [execOp, ho, Instr.makeFunc], ?_⟩
  simp only [pr, Rep]
  refine ⟨caps.toList.map (Act.eval ⟨tmps.toArray, []⟩), by rw [← Array.toList_map], map_evs hT⟩
theorem mmAll_false {b : Bool} : ∀ (vs : List AV) (r : Prop × AV), (mmAll b r vs).1 → r.1
  | [], r, h => h
  | v :: vs, r, h => by
    simp only [mmAll] at h
    exact (mmAll_false vs _ h).1
theorem mm_step {isMin : Bool} {a b : AV} {u x : Value} (hu : Rep D ρ a u) (hx : Rep D ρ b x) (h : (mmR isMin a b).1) :
    ∃ y, (∀ w, ((if isMin then Builtin.min2 else Builtin.max2) u x).run P w = .ok y w) ∧ Rep D ρ (mmR isMin a b).2 y := by
  cases a with
  | raw a =>
    cases b with
    | raw b =>
      simp only [Rep] at hu hx
      subst hu hx
      cases u <;> cases x <;> simp only [mmR] at h ⊢ <;> try exact h.elim
      subst h
      cases isMin
      · exact ⟨_, fun w => by simp [Builtin.max2]; rfl, by simp [Rep]⟩
      · exact ⟨_, fun w => by simp [Builtin.min2]; rfl, by simp [Rep]⟩
    | _ => simp [mmR] at h
  | _ => simp [mmR] at h
theorem mm_fold {isMin : Bool} : ∀ (vs : List AV) (us : List Value) (r : Prop × AV) (u : Value), RepL D ρ vs us → Rep D ρ r.2 u → (mmAll isMin r vs).1 →
    ∃ x, (∀ w, (us.foldlM (if isMin then Builtin.min2 else Builtin.max2) u).run P w = .ok x w) ∧ Rep D ρ (mmAll isMin r vs).2 x
  | [], [], r, u, _, hu, _ => ⟨u, fun w => by simp, hu⟩
  | v :: vs, x :: us, r, u, hv, hu, h => by
    simp only [RepL] at hv
    simp only [mmAll] at h ⊢
    have h1 := (mmAll_false vs _ h).2
    obtain ⟨y, hy, hyr⟩ := mm_step (P := P) hu hv.1 h1
    obtain ⟨x', hx', hxr⟩ := mm_fold (isMin := isMin) vs us (r.1 ∧ (mmR isMin r.2 v).1, (mmR isMin r.2 v).2) y hv.2 hyr h
    exact ⟨x', fun w => by simp only [List.foldlM_cons, Sem.run_bind, hy, Result.andThen_ok]; exact hx' w, hxr⟩
  | [], _ :: _, _, _, h, _, _ => by simp [RepL] at h
  | _ :: _, [], _, _, h, _, _ => by simp [RepL] at h
end
end Go.Proofs.Lite

namespace Go.Proofs.Lite
open Go
section
variable {P : Program} {T : List AV} {tmps : List Value} {D : Store} {ρ : Env}
theorem mm_gives {o : Oper} {isMin : Bool} {c : Call} (ho : o.op = .call c) (hc : c.callee = .builtin (if isMin then .min else .max)) (hT : RepL D ρ T tmps)
    (h : (pr T (.mm isMin c.args.toList)).1) : Gives P D ρ tmps o (pr T (.mm isMin c.args.toList)).2 := by
  cases hxs : c.args.toList with
  | nil => rw [hxs] at h; exact h.elim
  | cons x r =>
    rw [hxs] at h
    simp only [pr] at h ⊢
    obtain ⟨y, hall, hyr⟩ := mm_fold (P := P) (r.map (ev T)) (r.map (Act.eval ⟨tmps.toArray, []⟩)) (True, ev T x) _ (map_evs hT) (ev_rep hT x) h
    refine ⟨y, fun w => ?_, hyr⟩
    have := hall w
    cases isMin
    · simp only [execOp, ho, resolve, hc, Sem.run_bind, Sem.run_pure, Result.andThen_ok]
      simp only [Bool.false_eq_true, if_false, invoke, builtin, Sem.run_bind, Builtin.max_]
      rw [Array.toList_map, hxs]
      simp only [List.map_cons]
      simp at this
      simp [this]
    · simp only [execOp, ho, resolve, hc, Sem.run_bind, Sem.run_pure, Result.andThen_ok]
      simp only [if_true, invoke, builtin, Sem.run_bind, Builtin.min_]
      rw [Array.toList_map, hxs]
      simp only [List.map_cons]
      simp at this
      simp [this]
/-- A composite part's cells are those of its value. -/
theorem cells_rep {v : AV} {x : Value} (h : Rep D ρ v x) (h1 : ones (cellsOf v)) : ∃ vs, x.cells = vs.toArray ∧ RepL D ρ (cellsOf v) vs := by
  cases v with
  | agg cs =>
    simp only [Rep] at h
    obtain ⟨vs, rfl, hv⟩ := h
    exact ⟨vs, rfl, hv⟩
  | junk => simp [cellsOf, ones, one] at h1
  | tup cs => simp [cellsOf, ones, one] at h1
  | raw v =>
    have hh := h
    simp only [Rep] at h
    subst h
    simp only [cellsOf, ones, one] at h1
    refine ⟨[x], ?_, by simp only [cellsOf, RepL]; exact ⟨hh, trivial⟩⟩
    cases x <;> first | rfl | simp [isOne] at h1
  | ptr i o =>
    have hh := h
    simp only [Rep] at h
    obtain ⟨l, _, rfl⟩ := h
    exact ⟨[_], rfl, by simp only [cellsOf, RepL]; exact ⟨hh, trivial⟩⟩
  | sl i z o n b =>
    have hh := h
    simp only [Rep] at h
    obtain ⟨l, a, cap, _, rfl, _⟩ := h
    exact ⟨[_], rfl, by simp only [cellsOf, RepL]; exact ⟨hh, trivial⟩⟩
  | ro z n cs =>
    have hh := h
    simp only [Rep] at h
    obtain ⟨a, cap, rfl, _⟩ := h
    exact ⟨[_], rfl, by simp only [cellsOf, RepL]; exact ⟨hh, trivial⟩⟩
  | rp cs =>
    have hh := h
    simp only [Rep] at h
    obtain ⟨a, rfl, _⟩ := h
    exact ⟨[_], rfl, by simp only [cellsOf, RepL]; exact ⟨hh, trivial⟩⟩
  | fn f cs =>
    have hh := h
    simp only [Rep] at h
    obtain ⟨vs, rfl, _⟩ := h
    exact ⟨[_], rfl, by simp only [cellsOf, RepL]; exact ⟨hh, trivial⟩⟩
  | mp i =>
    have hh := h
    simp only [Rep] at h
    obtain ⟨l, _, rfl⟩ := h
    exact ⟨[_], rfl, by simp only [cellsOf, RepL]; exact ⟨hh, trivial⟩⟩
theorem fold_set (vs : List Value) : ∀ (cells : Array Value) (off k : Nat), off + k + vs.length ≤ cells.size →
    (vs.zipIdx k).foldl (fun (cs : Array Value) (p : Value × Nat) => cs.setIfInBounds (off + p.2) p.1) cells = (cells.toList.take (off + k) ++ (vs ++ cells.toList.drop (off + k + vs.length))).toArray := by
  induction vs with
  | nil => intro cells off k h; simp
  | cons v vs ih =>
    intro cells off k h
    simp only [List.length_cons] at h
    simp only [List.zipIdx_cons, List.foldl_cons]
    rw [ih _ off (k + 1) (by simp; omega)]
    apply Array.ext'
    apply List.ext_getElem?
    intro j
    simp only [List.getElem?_append, List.length_take, Array.toList_setIfInBounds, List.length_set, List.getElem?_take, List.getElem?_set, List.getElem?_drop, List.length_cons, Array.length_toList]
    have m1 : min (off + (k + 1)) cells.size = off + k + 1 := by omega
    have m2 : min (off + k) cells.size = off + k := by omega
    rw [m1, m2]
    rcases Nat.lt_trichotomy j (off + k) with hj | hj | hj
    · rw [if_pos (by omega), if_pos (by omega), if_neg (by omega), if_pos (by omega), if_pos (by omega)]
    · subst hj
      rw [if_pos (by omega), if_pos (by omega), if_pos rfl, if_pos (by omega), if_neg (by omega), if_pos (by omega)]
      simp
    · rw [if_neg (show ¬ j < off + k + 1 by omega), if_neg (show ¬ j < off + k by omega)]
      have e2 : j - (off + k) = (j - (off + k + 1)) + 1 := by omega
      by_cases hv : j - (off + k + 1) < vs.length
      · rw [if_pos hv, if_pos (show j - (off + k) < vs.length + 1 by omega), e2]
        simp
      · rw [if_neg hv, if_neg (show ¬ j - (off + k) < vs.length + 1 by omega), if_neg (by omega)]
        congr 1; omega
theorem fill_one (cells : List Value) (off : Nat) (vs : List Value) (h : off + vs.length ≤ cells.length) :
    (vs.toArray.zipIdx).foldl (fun (cs : Array Value) (p : Value × Nat) => cs.setIfInBounds (off + p.2) p.1) cells.toArray = (cells.take off ++ (vs ++ cells.drop (off + vs.length))).toArray := by
  have := fold_set vs cells.toArray off 0 (by simpa using h)
  simpa using this
theorem wr_rep {cs : List AV} {us : List Value} {ds : List AV} {vs : List Value} (o : Nat) (h : RepL D ρ cs us) (k : RepL D ρ ds vs) : RepL D ρ (wr cs o ds) (us.take o ++ (vs ++ us.drop (o + vs.length))) := by
  unfold wr
  rw [k.length]
  exact (h.take o).append (k.append (h.drop _))
theorem wr_length {cs ds : List AV} {o : Nat} (h : o + ds.length ≤ cs.length) : (wr cs o ds).length = cs.length := by
  unfold wr; simp; omega
theorem fill_rep {place : Nat → Option (Nat × Nat)} : ∀ (ps : List (Nat × Nat × Operand)) (ks : List Nat) (cs : List AV) (us : List Value), RepL D ρ cs us → RepL D ρ T tmps →
    ks.length = ps.length → (∀ (j : Nat) (p : Nat × Nat × Operand) (k : Nat), ps[j]? = some p → ks[j]? = some k → place k = some (p.1, p.2.1)) → (∀ p ∈ ps, p.1 + p.2.1 ≤ cs.length) → partsOk T ps →
    ∃ vs, Instr.fill place us.toArray ((ks.zip ps).map fun (p : Nat × (Nat × Nat × Operand)) => (p.1, Act.eval ⟨tmps.toArray, []⟩ p.2.2.2)) = some vs.toArray ∧ RepL D ρ (wrAll cs (ps.map fun (p : Nat × Nat × Operand) => (p.1, cellsOf (ev T p.2.2)))) vs
  | [], ks, cs, us, h, _, hl, _, _, _ => by
    have : ks = [] := by simpa using hl
    subst this
    exact ⟨us, rfl, h⟩
  | p :: ps, [], _, _, _, _, hl, _, _, _ => by simp at hl
  | p :: ps, k :: ks, cs, us, h, hT, hl, hp, hb, ho => by
    simp only [partsOk] at ho
    obtain ⟨⟨hn, h1⟩, ho⟩ := ho
    obtain ⟨vs, hv, hvr⟩ := cells_rep (ev_rep hT p.2.2) h1
    have hpl := hp 0 p k rfl rfl
    have hbp := hb p (by simp)
    have hvl : vs.length = p.2.1 := by rw [← hvr.length, hn]
    have hul := h.length
    simp only [List.zip_cons_cons, List.map_cons, Instr.fill, hpl, hv]
    rw [if_neg (by simp; omega)]
    rw [fill_one us p.1 vs (by omega)]
    have := fill_rep (place := place) ps ks (wr cs p.1 (cellsOf (ev T p.2.2))) _ (wr_rep p.1 h hvr) hT (by simpa using hl) (fun j q k' hq hk => hp (j + 1) q k' (by simpa using hq) (by simpa using hk))
      (fun q hq => by rw [wr_length (by rw [hn]; exact hbp)]; exact hb q (by simp [hq])) ho
    exact this
end
end Go.Proofs.Lite

namespace Go.Proofs.Lite
open Go
section
variable {P : Program} {T : List AV} {tmps : List Value} {D : Store} {ρ : Env}
theorem places_run : ∀ (fs : List Field) (ns : List Nat), (fs.mapM fun (f : Field) => sizeT P f.type) = some ns → ∀ w,
    (fs.mapM (fun f => do pure (f.offset, ← sizeOf f.type) : Field → Sem (Nat × Nat))).run P w = .ok ((fs.zip ns).map fun q => (q.1.offset, q.2)) w
  | [], ns, h, w => by simp at h; subst h; simp
  | f :: fs, ns, h, w => by
    rw [List.mapM_cons] at h
    simp only [bind, Option.bind_eq_some_iff, pure, Option.some.injEq] at h
    obtain ⟨n, hn, ns', hns, rfl⟩ := h
    have ih := places_run fs ns' hns w
    rw [List.mapM_cons]
    simp only [Sem.run_bind, size_run hn, Result.andThen_ok, Sem.run_pure, ih, List.zip_cons_cons, List.map_cons]
theorem arr_mapM_run {α : Type} (f : α → Sem (Nat × Nat)) (xs : Array α) (r : List (Nat × Nat)) (w : World) (h : (xs.toList.mapM f).run P w = .ok r w) : (xs.mapM f).run P w = .ok r.toArray w := by
  rw [Array.mapM_eq_mapM_toList]
  simp [h]
theorem zero_run {t : TypeId} {z : List Value} (h : zeroT P t = some z) (w : World) : ∃ v, (zeroValue t).run P w = .ok v w ∧ v.cells = z.toArray := by
  unfold zeroT at h
  cases hi : P.info? t with
  | none => simp [hi] at h
  | some i =>
    rw [hi] at h
    simp only [Option.bind_some, Option.map_eq_some_iff] at h
    obtain ⟨v, hv, rfl⟩ := h
    exact ⟨v, by simp [zeroValue, typeInfo, hi, hv], by simp⟩
theorem parts_ok {T : List AV} : ∀ {ps : List (Nat × Nat × Operand)}, partsOk T ps → ∀ p ∈ ps, (cellsOf (ev T p.2.2)).length = p.2.1
  | _ :: _, h, p, hp => by
    simp only [partsOk] at h
    rcases List.mem_cons.1 hp with rfl | hp
    · exact h.1.1
    · exact parts_ok h.2 p hp
theorem build_struct_gives {o : Oper} {t : TypeId} {parts : Array (Nat × Operand)} {fs : Array Field} {z : List Value} {ns : List Nat} {ps : List (Nat × Nat × Operand)} (ho : o.op = .build t parts)
    (ht : P.underlying t = some (.struct fs)) (hz : zeroT P t = some z) (hns : (fs.toList.mapM fun (f : Field) => sizeT P f.type) = some ns)
    (hps : (parts.toList.mapM fun ((i, x) : Nat × Operand) => (((fs.toList.zip ns)[i]?).map fun (q : Field × Nat) => (q.1.offset, q.2, x))) = some ps)
    (hT : RepL D ρ T tmps) (h : (pr T (.build z ps)).1) : Gives P D ρ tmps o (pr T (.build z ps)).2 := by
  simp only [pr] at h ⊢
  obtain ⟨h1, h2⟩ := h
  -- the numbers of the fields that are given
  have hk : ∀ (l : List (Nat × Operand)) (ps : List (Nat × Nat × Operand)), (l.mapM fun ((i, x) : Nat × Operand) => (((fs.toList.zip ns)[i]?).map fun (q : Field × Nat) => (q.1.offset, q.2, x))) = some ps →
      (l.map (·.1)).length = ps.length ∧ (∀ (j : Nat) (p : Nat × Nat × Operand) (k : Nat), ps[j]? = some p → (l.map (·.1))[j]? = some k → ((fs.toList.zip ns).map fun q => (q.1.offset, q.2))[k]? = some (p.1, p.2.1)) ∧
      (((l.map (·.1)).zip ps).map fun (p : Nat × (Nat × Nat × Operand)) => (p.1, Act.eval ⟨tmps.toArray, []⟩ p.2.2.2)) = l.map fun p => (p.1, Act.eval ⟨tmps.toArray, []⟩ p.2) := by
    intro l
    induction l with
    | nil => intro ps h; simp at h; subst h; simp
    | cons q l ih =>
      intro ps h
      rw [List.mapM_cons] at h
      simp only [bind, Option.bind_eq_some_iff, pure, Option.some.injEq, Option.map_eq_some_iff] at h
      obtain ⟨a, ⟨fd, hfd, rfl⟩, ps', hps', rfl⟩ := h
      obtain ⟨i1, i2, i3⟩ := ih ps' hps'
      refine ⟨by simpa using i1, ?_, by simp [i3]⟩
      intro j p k hj hk
      cases j with
      | zero =>
        simp only [List.getElem?_cons_zero, Option.some.injEq, List.map_cons] at hj hk
        subst hj hk
        rw [List.getElem?_map, hfd]; rfl
      | succ j =>
        simp only [List.getElem?_cons_succ, List.map_cons] at hj hk
        exact i2 j p k hj hk
  obtain ⟨k1, k2, k3⟩ := hk _ _ hps
  obtain ⟨vs, hv, hvr⟩ := fill_rep (place := fun i => (((fs.toList.zip ns).map fun q => (q.1.offset, q.2)).toArray)[i]?) ps (parts.toList.map (·.1)) (raws z) z (RepL.raws z) hT k1
    (by intro j p k a b; simpa using k2 j p k a b) (by intro p hp; rw [raws, List.length_map]; have := List.all_eq_true.1 h1 p hp; simpa using this) h2
  rw [k3] at hv
  refine ⟨.agg vs.toArray, fun w => ?_, by simp only [Rep]; exact ⟨vs, rfl, hvr⟩⟩
  obtain ⟨zv, hzv, hzc⟩ := zero_run hz w
  have hpl := arr_mapM_run _ fs _ w (places_run (P := P) fs.toList ns hns w)
  simp only [execOp, ho, Instr.build, Sem.run_bind, hzv, Result.andThen_ok, run_underlying ht]
  rw [hpl]
  simp only [Result.andThen_ok, hzc, Array.toList_map, hv]
  simp
theorem build_array_gives {o : Oper} {t e : TypeId} {parts : Array (Nat × Operand)} {len n : Nat} {z : List Value} (ho : o.op = .build t parts)
    (ht : P.underlying t = some (.array len e)) (hz : zeroT P t = some z) (hn : sizeT P e = some n)
    (hT : RepL D ρ T tmps) (h : (pr T (.build z (parts.toList.map fun (i, x) => (i * n, n, x)))).1) : Gives P D ρ tmps o (pr T (.build z (parts.toList.map fun (i, x) => (i * n, n, x)))).2 := by
  simp only [pr] at h ⊢
  obtain ⟨h1, h2⟩ := h
  obtain ⟨vs, hv, hvr⟩ := fill_rep (place := fun i => some (i * n, n)) (parts.toList.map fun (i, x) => (i * n, n, x)) (parts.toList.map (·.1)) (raws z) z (RepL.raws z) hT (by simp)
    (by
      intro j p k hj hk
      rw [List.getElem?_map] at hj hk
      cases hq : parts.toList[j]? with
      | none => rw [hq] at hj; cases hj
      | some q =>
        rw [hq] at hj hk
        simp only [Option.map_some, Option.some.injEq] at hj hk
        subst hj hk
        rfl)
    (by intro p hp; rw [raws, List.length_map]; have := List.all_eq_true.1 h1 p hp; simpa using this) h2
  have k3 : (((parts.toList.map (·.1)).zip (parts.toList.map fun (i, x) => (i * n, n, x))).map fun (p : Nat × (Nat × Nat × Operand)) => (p.1, Act.eval ⟨tmps.toArray, []⟩ p.2.2.2)) = parts.toList.map fun p => (p.1, Act.eval ⟨tmps.toArray, []⟩ p.2) := by
    generalize parts.toList = l
    induction l with
    | nil => rfl
    | cons q l ih => simp [ih]
  rw [k3] at hv
  refine ⟨.agg vs.toArray, fun w => ?_, by simp only [Rep]; exact ⟨vs, rfl, hvr⟩⟩
  obtain ⟨zv, hzv, hzc⟩ := zero_run hz w
  simp only [execOp, ho, Instr.build, Sem.run_bind, hzv, Result.andThen_ok, run_underlying ht, size_run hn, hzc, Array.toList_map]
  simp [hv]
theorem eqItems_ints {e : TypeId} {k : IntKind} (he : P.underlying e = some (.int k)) (hs : P.cellsOf e = 1) (d : Nat) (w : World) :
    ∀ (n s : Nat) (xs ys : List Value) (k1 : IntKind) (as bs : List Int), xs.drop s = as.map (.int k1) → ys.drop s = bs.map (.int k1) → as.length = n → bs.length = n →
    (Op.eqItems (d + 1) e 1 xs.toArray ys.toArray (List.range' s n)).run P w = .ok (as == bs) w := by
  intro n
  induction n with
  | zero => intro s xs ys k1 as bs _ _ ha hb; rw [List.length_eq_zero_iff] at ha hb; subst ha hb; simp [Op.eqItems]
  | succ n ih =>
    intro s xs ys k1 as bs hx hy ha hb
    cases as with
    | nil => simp at ha
    | cons a as =>
      cases bs with
      | nil => simp at hb
      | cons b bs =>
        have gx : xs[s]? = some (.int k1 a) := by
          have := congrArg (·[0]?) hx; simpa [List.getElem?_drop] using this
        have gy : ys[s]? = some (.int k1 b) := by
          have := congrArg (·[0]?) hy; simpa [List.getElem?_drop] using this
        have hp : ∀ (zs : List Value) (c : Int), zs[s]? = some (.int k1 c) → (part e zs.toArray (s * 1)).run P w = .ok (.int k1 c) w := by
          intro zs c hz
          have hag : aggT P e = some false := by simp [aggT, he]
          simp only [part, Sem.run_bind, agg_run hag, Result.andThen_ok, Nat.mul_one]
          simp [hz]
        simp only [List.range'_succ, Op.eqItems, Sem.run_bind, hp xs a gx, hp ys b gy, Result.andThen_ok, run_equalIn_int w d e k1 k a b he]
        have dx : xs.drop (s + 1) = as.map (.int k1) := by rw [← List.drop_drop, hx]; rfl
        have dy : ys.drop (s + 1) = bs.map (.int k1) := by rw [← List.drop_drop, hy]; rfl
        by_cases hab : a = b
        · subst hab
          simp only [beq_self_eq_true, Bool.not_true, Bool.false_eq_true, if_false]
          rw [ih (s + 1) xs ys k1 as bs dx dy (by simpa using ha) (by simpa using hb)]
          congr 1
          simp
        · have : (a == b) = false := by simpa using hab
          simp [this, hab]
theorem kindL_ints {k : IntKind} : ∀ {cs : List AV}, kindL k cs → ∃ as : List Int, cs = as.map (fun a => .raw (.int k a))
  | [], _ => ⟨[], rfl⟩
  | c :: cs, h => by
    unfold kindL at h
    split at h
    · rename_i k' a xs heq
      injection heq with e1 e2
      subst e1 e2
      obtain ⟨rfl, h⟩ := h
      obtain ⟨as, rfl⟩ := kindL_ints h
      exact ⟨a :: as, rfl⟩
    · rename_i heq; cases heq
    · exact h.elim
theorem repL_ints {k : IntKind} : ∀ {as : List Int} {vs : List Value}, RepL D ρ (as.map (fun a => AV.raw (.int k a))) vs → vs = as.map (.int k)
  | [], [], _ => rfl
  | _ :: _, _ :: _, h => by
    simp only [List.map_cons, RepL, Rep] at h
    rw [h.1, repL_ints h.2]; rfl
  | [], _ :: _, h => by simp [RepL] at h
  | _ :: _, [], h => by simp [RepL] at h
theorem eqL_ints {k k' : IntKind} : ∀ (as bs : List Int), eqL (as.map (fun a => AV.raw (.int k a))) (bs.map (fun a => AV.raw (.int k' a))) = (as == bs)
  | [], [] => rfl
  | a :: as, b :: bs => by simp only [List.map_cons, eqL, eqL_ints as bs]; rfl
  | [], b :: bs => by simp [eqL]
  | a :: as, [] => by simp [eqL]
theorem eqs_gives {o : Oper} {op : BinOp} {t yt : TypeId} {x y : Operand} {neg : Bool} {n : Nat} (ho : o.op = .binOp op t x y yt) (hop : op = if neg then .neq else .eql)
    (ht : flatA P t = some n) (hT : RepL D ρ T tmps) (h : (pr T (.eqs neg n x y)).1) : Gives P D ρ tmps o (pr T (.eqs neg n x y)).2 := by
  have hx := ev_rep hT x
  have hy := ev_rep hT y
  unfold flatA at ht
  split at ht
  · rename_i n' e hu
    split at ht
    · rename_i k0 he
      split at ht
      · rename_i hcond
        injection ht with ht; subst ht
        obtain ⟨hs1, hguard⟩ := hcond
        simp only [pr] at h ⊢
        split at h
        · rename_i cs ds hcx hcy
          rw [hcx] at hx; rw [hcy] at hy
          simp only [Rep] at hx hy
          obtain ⟨xs, hx, hxs⟩ := hx
          obtain ⟨ys, hy, hys⟩ := hy
          obtain ⟨l1, l2, kx, ky⟩ := h
          generalize headK cs = kk at kx ky
          obtain ⟨as, rfl⟩ := kindL_ints kx
          obtain ⟨bs, rfl⟩ := kindL_ints ky
          have ex := repL_ints hxs
          have ey := repL_ints hys
          subst ex ey
          simp only [List.length_map] at l1 l2
          have hcells : P.cellsOf e = 1 := by
            unfold sizeT at hs1
            unfold Program.cellsOf
            rw [hs1]; rfl
          obtain ⟨i, hi⟩ : ∃ i, P.info? e = some i := by
            unfold sizeT at hs1
            cases hh : P.info? e with
            | none => simp [hh] at hs1
            | some i => exact ⟨i, rfl⟩
          have hq : ∀ w, (Op.equal t (.agg (as.map (.int kk)).toArray) (.agg (bs.map (.int kk)).toArray)).run P w = .ok (as == bs) w := by
            intro w
            unfold Op.equal Op.maxDepth
            rw [run_equalIn_array w 9999 _ _ hu hi, hcells, List.range_eq_range']
            exact eqItems_ints he hcells 9998 w n' 0 _ _ kk as bs rfl rfl l1 l2
          refine ⟨.bool (if neg then !(as == bs) else as == bs), fun w => ?_, by simp only [Rep, eqL_ints]⟩
          simp only [execOp, ho, hx, hy, Sem.run_bind]
          have hg : (eqGuard op t x y (.agg (as.map (.int kk)).toArray) (.agg (bs.map (.int kk)).toArray)).run P w = .ok () w := run_eqGuard_agg w op t x y _ _ hguard
          rw [hg]
          cases neg <;> subst hop <;> simp [binOp, hq]
        · exact h.elim
      · cases ht
    · cases ht
  · cases ht
end
end Go.Proofs.Lite

namespace Go.Proofs.Lite
open Go
section
variable {P : Program} {T : List AV} {tmps : List Value} {D : Store} {ρ : Env}
theorem ro_some {z k : Nat} {cs : List AV} {a : Option Addr} (hl : cs.length = k * z) (h0 : 0 < k * z) (hr : RepRow D a 0 cs) : ∃ ad, a = some ad := by
  cases cs with
  | nil => simp at hl; omega
  | cons c cs => simp only [RepRow] at hr; obtain ⟨⟨ad, v, h, _⟩, _⟩ := hr; exact ⟨ad, h⟩
theorem s2a_gives {o : Oper} {t e : TypeId} {x : Operand} {n z : Nat} (ho : o.op = .sliceToArrayPointer t x) (ht : P.underlying t = some (.array n e)) (hT : RepL D ρ T tmps)
    (h : (pr T (.s2a n z x)).1) : Gives P D ρ tmps o (pr T (.s2a n z x)).2 := by
  have hx := ev_rep hT x
  simp only [pr] at h ⊢
  split at h
  · rename_i i z' off k b he
    rw [he] at hx
    simp only [Rep] at hx
    obtain ⟨l, a, cap, h1, h2, h3, h4, h5⟩ := hx
    obtain ⟨g1, g2, g3⟩ := h
    have ha := h5.resolve_left (by omega)
    refine ⟨.pointer (some (l.at off)), fun w => ?_, by simp only [Rep]; exact ⟨l, h1, rfl⟩⟩
    simp only [execOp, ho, h2, Instr.arrayAt, Sem.run_bind, run_underlying ht, Result.andThen_ok]
    rw [if_neg (by omega), ha]
    simp only [Sem.run_pure, Result.andThen_ok]
  · rename_i z' k cs he
    rw [he] at hx
    simp only [Rep] at hx
    obtain ⟨a, cap, h2, h3, h4, h5⟩ := hx
    obtain ⟨g1, g2, g3⟩ := h
    subst g1
    obtain ⟨ad, rfl⟩ := ro_some h4 (Nat.lt_of_lt_of_le g3 (Nat.mul_le_mul_right _ g2)) h5
    refine ⟨.pointer (some ad), fun w => ?_, by simp only [Rep]; exact ⟨ad, rfl, h5⟩⟩
    simp only [execOp, ho, h2, Instr.arrayAt, Sem.run_bind, run_underlying ht, Result.andThen_ok]
    rw [if_neg (by omega)]
    simp only [Sem.run_pure, Result.andThen_ok]
  · exact h.elim
theorem snil_run' {t e : TypeId} (ht : P.underlying t = some (.slice e)) (d : Nat) (a : Option Addr) (n k n' k' : Nat) (w : World) :
    (Op.equalIn (d + 1) t (.slice a n k) (.slice none n' k')).run P w = .ok a.isNone w := by
  cases a with
  | none => simp only [Op.equalIn, Sem.run_bind, run_underlying ht, Result.andThen_ok]; rfl
  | some a => simp only [Op.equalIn, Sem.run_bind, run_underlying ht, Result.andThen_ok]; rfl
theorem snil_run {t e : TypeId} (ht : P.underlying t = some (.slice e)) (a : Option Addr) (n k n' k' : Nat) (w : World) :
    (Op.equal t (.slice a n k) (.slice none n' k')).run P w = .ok a.isNone w := by
  unfold Op.equal Op.maxDepth
  exact snil_run' ht 9999 a n k n' k' w
theorem snil_gives {o : Oper} {op : BinOp} {t e yt : TypeId} {x : Operand} {n' k' : Nat} {neg : Bool} (ho : o.op = .binOp op t x (.const (.slice none n' k')) yt) (hop : op = if neg then .neq else .eql)
    (ht : P.underlying t = some (.slice e)) (hT : RepL D ρ T tmps) (h : (pr T (.snil neg x)).1) : Gives P D ρ tmps o (pr T (.snil neg x)).2 := by
  have hx := ev_rep hT x
  have key : ∀ (a : Option Addr) (n k : Nat) (w : World), Act.eval ⟨tmps.toArray, []⟩ x = .slice a n k → (execOp (Act.eval ⟨tmps.toArray, []⟩) o).run P w = .ok (.value (.bool (if neg then !a.isNone else a.isNone))) w := by
    intro a n k w he
    have hq := snil_run (P := P) ht a n k n' k' w
    have hg : (eqGuard op t x (.const (.slice none n' k')) (.slice a n k) (.slice none n' k')).run P w = .ok () w := by
      cases neg <;> (simp only [if_true, Bool.false_eq_true, if_false] at hop; subst hop; rfl)
    have hy : Act.eval ⟨tmps.toArray, []⟩ (.const (.slice none n' k')) = .slice none n' k' := rfl
    simp only [execOp, ho, he, hy, Sem.run_bind, hg, Result.andThen_ok]
    cases neg <;> (simp only [if_true, Bool.false_eq_true, if_false] at hop; subst hop; simp [binOp, hq])
  simp only [pr] at h ⊢
  split at h
  · rename_i n k he
    rw [he] at hx; simp only [Rep] at hx
    exact ⟨_, fun w => key _ _ _ w hx, by cases neg <;> simp [Rep]⟩
  · rename_i i z' off n b he
    rw [he] at hx; simp only [Rep] at hx
    obtain ⟨l, a, cap, h1, h2, h3, h4, h5⟩ := hx
    have h' : 0 < n := h
    have ha := h5.resolve_left (by omega)
    exact ⟨_, fun w => key _ _ _ w h2, by rw [ha]; cases neg <;> simp [Rep]⟩
  · rename_i z' k cs he
    rw [he] at hx; simp only [Rep] at hx
    obtain ⟨a, cap, h2, h3, h4, h5⟩ := hx
    obtain ⟨ad, rfl⟩ := ro_some h4 h h5
    exact ⟨_, fun w => key _ _ _ w h2, by cases neg <;> simp [Rep]⟩
  · exact h.elim
theorem pr_sound {o : Oper} {lop : LOp} (hs : stripOp P o.op = some lop) (hp : isPure lop = true) (hT : RepL D ρ T tmps) (h : (pr T lop).1) : Gives P D ρ tmps o (pr T lop).2 := by
  cases hop : o.op with
  | move x => rw [hop] at hs; simp only [stripOp, Option.some.injEq] at hs; subst hs; exact mv_gives (.inl hop) hT
  | assign x => rw [hop] at hs; simp only [stripOp, Option.some.injEq] at hs; subst hs; exact mv_gives (.inr hop) hT
  | pick c a b => rw [hop] at hs; simp only [stripOp, Option.some.injEq] at hs; subst hs; exact pick_gives hop hT h
  | nilCheck x => rw [hop] at hs; simp only [stripOp, Option.some.injEq] at hs; subst hs; exact nilc_gives hop hT h
  | extract x k => rw [hop] at hs; simp only [stripOp, Option.some.injEq] at hs; subst hs; exact ext_gives hop hT h
  | unOp op t x => rw [hop] at hs; simp only [stripOp, Option.some.injEq] at hs; subst hs; exact un_gives hop hT h
  | binOp op t x y yt =>
    rw [hop] at hs; simp only [stripOp] at hs
    split at hs
    · simp only [Option.some.injEq] at hs; subst hs; exact bin_gives hop hT h
    · simp only [Option.some.injEq] at hs; subst hs; exact bin_gives hop hT h
    · rename_i hu
      split at hs
      · simp only [Option.some.injEq] at hs; subst hs; exact beq_gives (neg := false) hop rfl hu hT h
      · simp only [Option.some.injEq] at hs; subst hs; exact beq_gives (neg := true) hop rfl hu hT h
      · cases hs
    · split at hs
      · simp only [Option.map_eq_some_iff] at hs; obtain ⟨n, hn, rfl⟩ := hs; exact eqs_gives (neg := false) hop rfl hn hT h
      · simp only [Option.map_eq_some_iff] at hs; obtain ⟨n, hn, rfl⟩ := hs; exact eqs_gives (neg := true) hop rfl hn hT h
      · cases hs
    · rename_i e hu
      split at hs
      · split at hs
        · rename_i hy
          obtain ⟨n', k', rfl⟩ := isNilC_spec hy
          simp only [Option.some.injEq] at hs; subst hs; exact snil_gives (neg := false) hop rfl hu hT h
        · cases hs
      · split at hs
        · rename_i hy
          obtain ⟨n', k', rfl⟩ := isNilC_spec hy
          simp only [Option.some.injEq] at hs; subst hs; exact snil_gives (neg := true) hop rfl hu hT h
        · cases hs
      · cases hs
    · cases hs
  | sliceToArrayPointer t x =>
    rw [hop] at hs; simp only [stripOp] at hs
    split at hs
    · rename_i n e hu
      simp only [Option.bind_eq_some_iff] at hs
      obtain ⟨z, hz, hs⟩ := hs
      split at hs
      · simp only [Option.some.injEq] at hs; subst hs; exact s2a_gives hop hu hT h
      · cases hs
    · cases hs
  | convert s d x =>
    rw [hop] at hs; simp only [stripOp] at hs
    split at hs
    · rename_i h1 h2
      simp only [Option.some.injEq] at hs; subst hs; exact conv_gives hop h1 h2 hT h
    · cases hs
  | alloc t => rw [hop] at hs; simp only [stripOp, Option.map_eq_some_iff] at hs; obtain ⟨z, _, rfl⟩ := hs; simp [isPure] at hp
  | box t x => rw [hop] at hs; simp only [stripOp, Option.some.injEq] at hs; subst hs; simp [isPure] at hp
  | load t x => rw [hop] at hs; simp only [stripOp, Option.bind_eq_some_iff, Option.map_eq_some_iff] at hs; obtain ⟨ag, _, n, _, rfl⟩ := hs; simp [isPure] at hp
  | store t x v => rw [hop] at hs; simp only [stripOp, Option.map_eq_some_iff] at hs; obtain ⟨z, _, rfl⟩ := hs; simp [isPure] at hp
  | fieldAddr t x f =>
    rw [hop] at hs; simp only [stripOp] at hs
    split at hs
    · rename_i fs hu
      simp only [Option.bind_eq_some_iff] at hs
      obtain ⟨fd, hf, n, hn, hs⟩ := hs
      split at hs
      · cases hs
      · rename_i h0
        simp only [Option.some.injEq] at hs; subst hs
        exact fad_gives hop hu hf hT h ⟨n, hn, h0⟩
    · cases hs
  | field t x f =>
    rw [hop] at hs; simp only [stripOp] at hs
    split at hs
    · rename_i fs hu
      simp only [Option.bind_eq_some_iff, Option.map_eq_some_iff] at hs
      obtain ⟨fd, hf, ag, ha, n, hn, rfl⟩ := hs
      exact fld_gives hop hu hf hT ha hn h
    · cases hs
  | indexAddr t x i =>
    rw [hop] at hs; simp only [stripOp] at hs
    split at hs
    · rename_i n e hu
      simp only [Option.map_eq_some_iff] at hs
      obtain ⟨z, hz, rfl⟩ := hs
      exact iarr_gives hop hu hz hT h
    · rename_i e hu
      simp only [Option.map_eq_some_iff] at hs
      obtain ⟨z, hz, rfl⟩ := hs
      exact isl_gives hop hu hz hT h
    · cases hs
  | index t x i =>
    rw [hop] at hs; simp only [stripOp] at hs
    split at hs
    · rename_i n e hu
      simp only [Option.bind_eq_some_iff, Option.map_eq_some_iff] at hs
      obtain ⟨ag, ha, z, hz, rfl⟩ := hs
      exact aidx_gives hop hu ha hz hT h
    · rename_i hu
      simp only [Option.some.injEq] at hs; subst hs
      exact sidx_gives hop hu hT h
    · cases hs
  | slice t x lo hi mx =>
    rw [hop] at hs
    cases mx with
    | some m => simp [stripOp] at hs
    | none =>
      simp only [stripOp] at hs
      split at hs
      · rename_i n e hu
        simp only [Option.map_eq_some_iff] at hs
        obtain ⟨z, hz, rfl⟩ := hs
        simp [isPure] at hp
      · rename_i e hu
        simp only [Option.map_eq_some_iff] at hs
        obtain ⟨z, hz, rfl⟩ := hs
        exact ssl_gives hop hu hz hT h
      · rename_i hu
        simp only [Option.some.injEq] at hs; subst hs
        exact sstr_gives hop hu hT h
      · cases hs
  | build t parts =>
    rw [hop] at hs; simp only [stripOp] at hs
    split at hs
    · rename_i fs hu
      simp only [Option.bind_eq_some_iff, Option.map_eq_some_iff] at hs
      obtain ⟨z, hz, ns, hns, ps, hps, rfl⟩ := hs
      refine build_struct_gives hop hu hz hns ?_ hT h
      rw [← hps]
    · rename_i n e hu
      simp only [Option.bind_eq_some_iff, Option.map_eq_some_iff] at hs
      obtain ⟨z, hz, n', hn, rfl⟩ := hs
      exact build_array_gives hop hu hz hn hT h
    · cases hs
  | buildSlice t len parts =>
    rw [hop] at hs; simp only [stripOp] at hs
    split at hs
    · simp only [Option.bind_eq_some_iff] at hs
      obtain ⟨z, _, zero, _, hs⟩ := hs
      split at hs
      · simp only [Option.some.injEq] at hs; subst hs; simp [isPure] at hp
      · cases hs
    · cases hs
  | makeSlice t l c =>
    rw [hop] at hs; simp only [stripOp] at hs
    split at hs
    · simp only [Option.bind_eq_some_iff] at hs
      obtain ⟨z, _, b, _, zero, _, hs⟩ := hs
      split at hs
      · simp only [Option.some.injEq] at hs; subst hs; simp [isPure] at hp
      · cases hs
    · cases hs
  | makeFunc fn first caps =>
    rw [hop] at hs
    cases fn with
    | func f =>
      simp only [stripOp] at hs
      split at hs
      · rename_i hf
        simp only [Option.some.injEq] at hs; subst hs
        have : first = #[] := by simpa using hf
        subst this
        exact mkfn_gives hop hT
      · cases hs
    | _ => simp [stripOp] at hs
  | call c =>
    rw [hop] at hs; simp only [stripOp] at hs
    split at hs
    · split at hs
      · split at hs
        · simp only [Option.some.injEq] at hs; subst hs; simp [isPure] at hp
        · cases hs
      · cases hs
    · simp only [Option.some.injEq] at hs; subst hs; simp [isPure] at hp
    · rename_i hc
      split at hs
      · rename_i x t hargs hat
        have hargs : c.args = #[x] := by apply Array.ext'; simpa using hargs
        split at hs
        · rename_i hu
          simp only [Option.some.injEq] at hs; subst hs
          exact lstr_gives hop hc hargs hat hu hT h
        · rename_i e hu
          simp only [Option.some.injEq] at hs; subst hs
          exact lens_gives hop hc hargs hat hu hT h
        · rename_i n e hu
          simp only [Option.some.injEq] at hs; subst hs
          exact lenc_gives hop hc hargs hat (.inl ⟨e, hu⟩)
        · rename_i a hu
          split at hs
          · rename_i n e hu'
            simp only [Option.some.injEq] at hs; subst hs
            exact lenc_gives hop hc hargs hat (.inr ⟨a, e, hu, hu'⟩)
          · cases hs
        · cases hs
      · cases hs
    · split at hs
      · split at hs
        · simp only [Option.bind_eq_some_iff] at hs
          obtain ⟨z, _, b, _, zero, _, hs⟩ := hs
          split at hs
          · simp only [Option.some.injEq] at hs; subst hs; simp [isPure] at hp
          · cases hs
        · cases hs
      · cases hs
    · split at hs
      · split at hs
        · simp only [Option.bind_eq_some_iff] at hs
          obtain ⟨z, _, hs⟩ := hs
          split at hs
          · simp only [Option.some.injEq] at hs; subst hs; simp [isPure] at hp
          · cases hs
        · cases hs
      · cases hs
    · rename_i hc
      simp only [Option.some.injEq] at hs; subst hs
      exact mm_gives hop hc hT h
    · rename_i hc
      simp only [Option.some.injEq] at hs; subst hs
      exact mm_gives hop hc hT h
    · cases hs
  | _ => rw [hop] at hs; simp [stripOp] at hs
end
end Go.Proofs.Lite

namespace Go.Proofs.Lite
open Go
section
variable {P : Program} {cx : Cx} {D : Store} {ρ : Env} {H : Heap} {w : World}
theorem Env.loc?_append_left {ρ : Env} {i : Nat} {l : Loc} (r : Env) (h : Env.loc? ρ i = some l) : Env.loc? (ρ ++ r) i = some l := by
  unfold Env.loc? at h ⊢
  cases hi : ρ[i]? with
  | none => simp [hi] at h
  | some x => rw [List.getElem?_append_left (List.getElem?_eq_some_iff.1 hi).1, hi]; rw [hi] at h; exact h
theorem Env.le_append (ρ r : Env) : Env.Le ρ (ρ ++ r) := fun _ _ h => Env.loc?_append_left r h
theorem Env.loc?_lt {ρ : Env} {i : Nat} {l : Loc} (h : Env.loc? ρ i = some l) : i < ρ.length := by
  unfold Env.loc? at h
  cases hi : ρ[i]? with
  | none => simp [hi] at h
  | some x => exact (List.getElem?_eq_some_iff.1 hi).1
theorem Env.le_set {ρ : Env} {i : Nat} (h : Env.loc? ρ i = none) (l : Loc) : Env.Le ρ (ρ.set i (some l)) := by
  intro j m hj
  have : i ≠ j := by intro e; subst e; rw [h] at hj; cases hj
  unfold Env.loc? at hj ⊢
  rw [List.getElem?_set_ne this]; exact hj
theorem Env.loc?_set_self {ρ : Env} {i : Nat} (h : i < ρ.length) (l : Loc) : Env.loc? (ρ.set i (some l)) i = some l := by
  unfold Env.loc?; simp [h]
theorem Env.loc?_set_ne {ρ : Env} {i j : Nat} (h : i ≠ j) (x : Option Loc) : Env.loc? (ρ.set i x) j = Env.loc? ρ j := by
  unfold Env.loc?; rw [List.getElem?_set_ne h]
theorem SegOk.mono {D' : Store} {ρ' : Env} {l : Loc} {cs : List AV} (h : SegOk D ρ w l cs) (hρ : Env.Le ρ ρ') : SegOk D ρ' w l cs :=
  ⟨h.1, fun j hj => let ⟨v, h1, h2, h3, h4⟩ := h.2 j hj; ⟨v, h1, h2, h3, fun c hc => Rep.mono (Store.Le.refl _) hρ _ _ (h4 c hc)⟩⟩
theorem MapOk.mono {ρ' : Env} {b : Nat} {kvs} (h : MapOk D ρ w b kvs) (hρ : Env.Le ρ ρ') : MapOk D ρ' w b kvs := by
  obtain ⟨es, n, h1, h2, h3, h4⟩ := h
  exact ⟨es, n, h1, h2, RepL.mono (Store.Le.refl _) hρ _ _ h3, h4⟩
theorem Live.lt {H : Heap} {i : Nat} (h : Live H i) : i < H.length := by
  rcases h with ⟨cs, h⟩ | ⟨kvs, h⟩ <;> exact (List.getElem?_eq_some_iff.1 h).1
/-- A place set aside. -/
theorem BInv.reserve (h : BInv cx D ρ H w) : BInv cx D (ρ ++ [none]) (H ++ [.res]) w := by
  have hlen := h.inv.len
  have live : ∀ i, Live (H ++ [.res]) i → Live H i := by
    intro i hl
    rcases hl with ⟨cs, hl⟩ | ⟨kvs, hl⟩
    all_goals
      rw [List.getElem?_append] at hl
      split at hl
      · first | exact .inl ⟨cs, hl⟩ | exact .inr ⟨kvs, hl⟩
      · rename_i hh
        cases hk : i - H.length with
        | zero => rw [hk] at hl; cases hl
        | succ n => rw [hk] at hl; cases hl
  have loc : ∀ i l, Live H i → Env.loc? (ρ ++ [none]) i = some l → Env.loc? ρ i = some l := by
    intro i l hl hi
    unfold Env.loc? at hi ⊢
    rwa [List.getElem?_append_left (by have := hl.lt; omega)] at hi
  refine ⟨⟨by simp [hlen], h.inv.d, ?_, ?_, ?_, ?_⟩, h.fr, ?_, h.dle, h.dav, ?_⟩
  · intro i cs hi
    have hl := live i (.inl ⟨cs, hi⟩)
    rw [List.getElem?_append_left hl.lt] at hi
    obtain ⟨l, h1, h2⟩ := h.inv.seg i cs hi
    exact ⟨l, Env.loc?_append_left _ h1, SegOk.mono (D' := D) h2 (Env.le_append _ _)⟩
  · intro i kvs hi
    have hl := live i (.inr ⟨kvs, hi⟩)
    rw [List.getElem?_append_left hl.lt] at hi
    obtain ⟨l, h1, h2, h3, h4⟩ := h.inv.mpp i kvs hi
    exact ⟨l, Env.loc?_append_left _ h1, h2, h3, h4.mono (Env.le_append _ _)⟩
  · intro i hi
    by_cases hh : i < H.length
    · rw [List.getElem?_append_left hh] at hi
      have := h.inv.res i hi
      unfold Env.loc? at this ⊢
      rwa [List.getElem?_append_left (by omega)]
    · unfold Env.loc?
      rw [List.getElem?_append_right (by omega)]
      cases hk : i - ρ.length with
      | zero => rfl
      | succ n => rfl
  · intro i j li lj hij hi hj hli hlj
    exact h.inv.dis i j li lj hij (live i hi) (live j hj) (loc i li (live i hi) hli) (loc j lj (live j hj) hlj)
  · intro i l hi hl
    exact h.av i l (live i hi) (loc i l (live i hi) hl)
  · intro k l hk hl
    exact Env.loc?_append_left _ (h.keep k l hk hl)
theorem cell?_alloc_lt' {w : World} {o : Obj} {a : Addr} {v : Value} (h : w.cell? a = some v) : (w.alloc o).cell? a = some v := by
  rw [World.cell?_alloc_lt _ _ _ (World.block_lt_of_cell? w a h)]; exact h
/-- A new block in a place set aside. -/
theorem BInv.fill {i : Nat} {cs : List AV} {vs : List Value} {t : TypeId} (h : BInv cx D ρ H w) (hi : H[i]? = some .res) (hc : RepL D ρ cs vs) (extra : List Value) :
    BInv cx D (ρ.set i (some ⟨w.heap.size, 0, (vs ++ extra).length⟩)) (H.set i (.c cs)) (w.alloc (.cells (vs ++ extra).toArray t)) := by
  have hlen := h.inv.len
  have hiH : i < H.length := (List.getElem?_eq_some_iff.1 hi).1
  have hiρ : i < ρ.length := by omega
  have hnone := h.inv.res i hi
  have hle := Env.le_set hnone ⟨w.heap.size, 0, (vs ++ extra).length⟩
  have live : ∀ j, j ≠ i → Live (H.set i (.c cs)) j → Live H j := by
    intro j hj hl
    rcases hl with ⟨c, hl⟩ | ⟨kvs, hl⟩
    · rw [List.getElem?_set_ne (Ne.symm hj)] at hl; exact .inl ⟨c, hl⟩
    · rw [List.getElem?_set_ne (Ne.symm hj)] at hl; exact .inr ⟨kvs, hl⟩
  have old : ∀ j l, Live H j → Env.loc? ρ j = some l → ∀ p, p < l.ext → (l.at p).block < w.heap.size := by
    intro j l hl hj p hp
    rcases hl with ⟨c, hl⟩ | ⟨kvs, hl⟩
    · obtain ⟨l', h1, h2⟩ := h.inv.seg j c hl
      rw [hj] at h1; injection h1 with h1; subst h1
      obtain ⟨v, hv, _⟩ := h2.2 p hp
      exact World.block_lt_of_cell? w _ hv
    · obtain ⟨l', h1, h2, h3, es, n, h4, _⟩ := h.inv.mpp j kvs hl
      rw [hj] at h1; injection h1 with h1; subst h1
      have : l.blk < w.heap.size := (Array.getElem?_eq_some_iff.1 h4).1
      exact this
  refine ⟨⟨by simp [hlen], ?_, ?_, ?_, ?_, ?_⟩, h.fr.trans (Fr.alloc (S := cx.S) w _) (fun _ h => .inl h), ?_, h.dle, h.dav, ?_⟩
  · intro a v hd; exact cell?_alloc_lt' (h.inv.d a v hd)
  · intro j c hj
    by_cases hji : j = i
    · subst hji
      rw [List.getElem?_set_self hiH] at hj
      injection hj with hj; injection hj with hj; subst hj
      refine ⟨_, Env.loc?_set_self hiρ _, ?_, ?_⟩
      · have := hc.length; simp; omega
      · intro p hp
        simp only [Loc.at, Nat.zero_add]
        refine ⟨(vs ++ extra)[p]'hp, ?_, ?_, ?_, ?_⟩
        · rw [World.cell?_alloc_new]; simp [hp]
        · rw [World.frozen?_alloc_new]
        · cases hd : D ⟨w.heap.size, p, none⟩ with
          | none => rfl
          | some v => have := World.block_lt_of_cell? w _ (h.inv.d _ _ hd); simp at this
        · intro c hcp
          have hpl : p < vs.length := by rw [← hc.length]; exact (List.getElem?_eq_some_iff.1 hcp).1
          refine Rep.mono (Store.Le.refl _) hle _ _ (hc.get hcp ?_)
          rw [List.getElem?_eq_getElem hpl, List.getElem_append_left]
    · rw [List.getElem?_set_ne (Ne.symm hji)] at hj
      obtain ⟨l, h1, h2⟩ := h.inv.seg j c hj
      refine ⟨l, hle _ _ h1, h2.1, fun p hp => ?_⟩
      obtain ⟨v, g1, g2, g3, g4⟩ := h2.2 p hp
      refine ⟨v, cell?_alloc_lt' g1, ?_, g3, fun c hc => Rep.mono (Store.Le.refl _) hle _ _ (g4 c hc)⟩
      rw [World.frozen?_alloc_old _ _ _ (Nat.ne_of_lt (World.block_lt_of_cell? w _ g1))]; exact g2
  · intro j kvs hj
    by_cases hji : j = i
    · subst hji
      rw [List.getElem?_set_self hiH] at hj
      cases hj
    · rw [List.getElem?_set_ne (Ne.symm hji)] at hj
      obtain ⟨l, h1, h2, h3, es, n, h4, h5, h6, h7⟩ := h.inv.mpp j kvs hj
      refine ⟨l, hle _ _ h1, h2, h3, es, n, ?_, h5, RepL.mono (Store.Le.refl _) hle _ _ h6, h7⟩
      rw [RowKit.Below.heap_alloc w _ _ (Array.getElem?_eq_some_iff.1 h4).1]; exact h4
  · intro j hj
    by_cases hji : j = i
    · subst hji
      rw [List.getElem?_set_self hiH] at hj
      cases hj
    · rw [List.getElem?_set_ne (Ne.symm hji)] at hj
      rw [Env.loc?_set_ne (Ne.symm hji)]
      exact h.inv.res j hj
  · intro a b la lb hab ha hb hla hlb p q hp hq
    by_cases hai : a = i
    · subst hai
      rw [Env.loc?_set_self hiρ] at hla
      injection hla with hla; subst hla
      have hb' := live b (Ne.symm hab) hb
      rw [Env.loc?_set_ne hab] at hlb
      have := old b lb hb' hlb q hq
      intro e; rw [← e] at this; simp [Loc.at] at this
    · rw [Env.loc?_set_ne (Ne.symm hai)] at hla
      have ha' := live a hai ha
      by_cases hbi : b = i
      · subst hbi
        rw [Env.loc?_set_self hiρ] at hlb
        injection hlb with hlb; subst hlb
        have := old a la ha' hla p hp
        intro e; rw [e] at this; simp [Loc.at] at this
      · rw [Env.loc?_set_ne (Ne.symm hbi)] at hlb
        exact h.inv.dis a b la lb hab ha' (live b hbi hb) hla hlb p q hp hq
  · intro j l hj hl p hp
    by_cases hji : j = i
    · subst hji
      rw [Env.loc?_set_self hiρ] at hl
      injection hl with hl; subst hl
      exact .inr h.fr.size
    · rw [Env.loc?_set_ne (Ne.symm hji)] at hl
      exact h.av j l (live j hji hj) hl p hp
  · intro k l hk hl
    exact hle _ _ (h.keep k l hk hl)
/-- A new block behind the others. -/
theorem BInv.push {cs : List AV} {vs : List Value} {t : TypeId} (h : BInv cx D ρ H w) (hc : RepL D ρ cs vs) (extra : List Value) :
    BInv cx D (ρ ++ [some ⟨w.heap.size, 0, (vs ++ extra).length⟩]) (H ++ [.c cs]) (w.alloc (.cells (vs ++ extra).toArray t)) := by
  have := h.reserve.fill (i := H.length) (cs := cs) (vs := vs) (t := t) (by simp) (RepL.mono (Store.Le.refl _) (Env.le_append _ _) _ _ hc) extra
  have e1 : (ρ ++ [none]).set H.length (some ⟨w.heap.size, 0, (vs ++ extra).length⟩) = ρ ++ [some ⟨w.heap.size, 0, (vs ++ extra).length⟩] := by
    rw [← h.inv.len]; simp
  have e2 : (H ++ [Sg.res]).set H.length (.c cs) = H ++ [.c cs] := by simp
  rwa [e1, e2] at this
theorem Loc.at_inj {l : Loc} {a b : Nat} (h : l.at a = l.at b) : a = b := by
  unfold Loc.at at h; injection h with _ h; omega
/-- One cell is written. -/
theorem BInv.set1 {i j : Nat} {cs : List AV} {l : Loc} {d : AV} {v : Value} (h : BInv cx D ρ H w) (hi : H[i]? = some (.c cs)) (hl : Env.loc? ρ i = some l) (hj : j < cs.length) (hd : Rep D ρ d v) :
    BInv cx D ρ (H.set i (.c (cs.set j d))) (w.setCell (l.at j) v) := by
  have hiH : i < H.length := (List.getElem?_eq_some_iff.1 hi).1
  obtain ⟨l', h1, hseg⟩ := h.inv.seg i cs hi
  rw [hl] at h1; injection h1 with h1; subst h1
  have hjx : j < l.ext := Nat.lt_of_lt_of_le hj hseg.1
  obtain ⟨u, hu, huf, hud, _⟩ := hseg.2 j hjx
  have live : ∀ k, Live (H.set i (.c (cs.set j d))) k → Live H k := by
    intro k hk
    by_cases hki : k = i
    · subst hki; exact .inl ⟨cs, hi⟩
    · rcases hk with ⟨c, hk⟩ | ⟨kvs, hk⟩
      · rw [List.getElem?_set_ne (Ne.symm hki)] at hk; exact .inl ⟨c, hk⟩
      · rw [List.getElem?_set_ne (Ne.symm hki)] at hk; exact .inr ⟨kvs, hk⟩
  refine ⟨⟨by simp [h.inv.len], ?_, ?_, ?_, ?_, ?_⟩, h.fr.trans (Fr.setCell (S := fun a => a = l.at j) w (l.at j) v rfl (.inl rfl)) (fun a ha => ?_), ?_, h.dle, h.dav, h.keep⟩
  · intro a x ha
    rw [World.cell?_setCell_other _ _ _ _ (by intro e; subst e; rw [hud] at ha; cases ha)]
    exact h.inv.d a x ha
  · intro k c hk
    by_cases hki : k = i
    · subst hki
      rw [List.getElem?_set_self hiH] at hk
      injection hk with hk; injection hk with hk; subst hk
      refine ⟨l, hl, by simpa using hseg.1, fun p hp => ?_⟩
      obtain ⟨x, g1, g2, g3, g4⟩ := hseg.2 p hp
      by_cases hpj : p = j
      · subst hpj
        refine ⟨v, World.cell?_setCell_same _ _ _ hu, by rw [World.frozen?_setCell]; exact g2, g3, fun c hc => ?_⟩
        rw [List.getElem?_set_self hj] at hc
        injection hc with hc; subst hc; exact hd
      · refine ⟨x, ?_, by rw [World.frozen?_setCell]; exact g2, g3, fun c hc => ?_⟩
        · rw [World.cell?_setCell_other _ _ _ _ (fun e => hpj (Loc.at_inj e).symm)]; exact g1
        · rw [List.getElem?_set_ne (Ne.symm hpj)] at hc; exact g4 c hc
    · rw [List.getElem?_set_ne (Ne.symm hki)] at hk
      obtain ⟨m, g1, g2⟩ := h.inv.seg k c hk
      refine ⟨m, g1, g2.1, fun p hp => ?_⟩
      obtain ⟨x, q1, q2, q3, q4⟩ := g2.2 p hp
      refine ⟨x, ?_, by rw [World.frozen?_setCell]; exact q2, q3, q4⟩
      rw [World.cell?_setCell_other _ _ _ _ (h.inv.dis i k l m (Ne.symm hki) (.inl ⟨cs, hi⟩) (.inl ⟨c, hk⟩) hl g1 j p hjx hp)]
      exact q1
  · intro k kvs hk
    have hki : k ≠ i := by
      intro e; subst e; rw [List.getElem?_set_self hiH] at hk; cases hk
    rw [List.getElem?_set_ne (Ne.symm hki)] at hk
    obtain ⟨m, g1, g2, g3, es, n, g4, g5⟩ := h.inv.mpp k kvs hk
    refine ⟨m, g1, g2, g3, es, n, ?_, g5⟩
    have : m.blk ≠ (l.at j).block := by
      intro e
      unfold World.cell? at hu
      rw [← e, g4] at hu; cases hu
    rw [RowKit.Below.heap_setCell _ _ _ _ this]; exact g4
  · intro k hk
    have hki : k ≠ i := by
      intro e; subst e; rw [List.getElem?_set_self hiH] at hk; cases hk
    rw [List.getElem?_set_ne (Ne.symm hki)] at hk
    exact h.inv.res k hk
  · intro a b la lb hab ha hb hla hlb
    exact h.inv.dis a b la lb hab (live a ha) (live b hb) hla hlb
  · subst ha
    exact h.av i l (.inl ⟨cs, hi⟩) hl j hjx
  · intro k m hk hm
    exact h.av k m (live k hk) hm
end
end Go.Proofs.Lite

namespace Go.Proofs.Lite
open Go
section
variable {P : Program} {cx : Cx} {D : Store} {ρ : Env} {H : Heap} {w : World} {T : List AV} {tmps : List Value}
/-- An operation that does something: what it leaves. -/
def StepTo (P : Program) (cx : Cx) (D : Store) (ρ : Env) (tmps : List Value) (o : Oper) (w : World) (v : AV) (H' : Heap) : Prop :=
  ∃ n w' ρ', (execOp (Act.eval ⟨tmps.toArray, []⟩) o).run P w = .ok n w' ∧ ((n = .skip ∧ v = .junk) ∨ ∃ x, n = .value x ∧ Rep D ρ' v x) ∧ BInv cx D ρ' H' w' ∧ Env.Le ρ ρ'
theorem seg_vals {l : Loc} {cs : List AV} (h : SegOk D ρ w l cs) : ∃ vs, RepL D ρ cs vs ∧ ∀ (j : Nat) (v : Value), vs[j]? = some v → w.cell? (l.at j) = some v := by
  refine ⟨(List.range cs.length).map fun j => (w.cell? (l.at j)).getD undef, ?_, ?_⟩
  · refine RepL.of_get (by simp) (fun i c v hc hv => ?_)
    have hi : i < cs.length := (List.getElem?_eq_some_iff.1 hc).1
    rw [List.getElem?_map, List.getElem?_range hi] at hv
    simp only [Option.map_some, Option.some.injEq] at hv
    obtain ⟨x, h1, _, _, h4⟩ := h.2 i (Nat.lt_of_lt_of_le hi h.1)
    rw [h1] at hv; simp only [Option.getD_some] at hv; subst hv
    exact h4 c hc
  · intro j v hv
    have hj : j < cs.length := by
      have := (List.getElem?_eq_some_iff.1 hv).1; simpa using this
    rw [List.getElem?_map, List.getElem?_range hj] at hv
    simp only [Option.map_some, Option.some.injEq] at hv
    obtain ⟨x, h1, _⟩ := h.2 j (Nat.lt_of_lt_of_le hj h.1)
    rw [h1] at hv ⊢; simp only [Option.getD_some] at hv; rw [hv]
theorem addr_add {a : Addr} (h : a.spot = none) (j : Nat) : a.add j = ⟨a.block, a.off + j, none⟩ := by
  unfold Addr.add; split
  · rename_i e; subst e; cases a; simp_all
  · rfl
theorem row_vals (hd : ∀ a v, D a = some v → w.cell? a = some v) {a : Addr} {cs : List AV} (h : RepRow D (some a) 0 cs) : ∃ vs, RepL D ρ cs vs ∧ ∀ (j : Nat) (v : Value), vs[j]? = some v → w.cell? (a.add j) = some v := by
  refine ⟨(List.range cs.length).map fun j => (w.cell? (a.add j)).getD undef, ?_, ?_⟩
  · refine RepL.of_get (by simp) (fun i c v hc hv => ?_)
    have hi : i < cs.length := (List.getElem?_eq_some_iff.1 hc).1
    rw [List.getElem?_map, List.getElem?_range hi] at hv
    simp only [Option.map_some, Option.some.injEq] at hv
    obtain ⟨ad, x, h1, h2, h3, h4⟩ := h.get hc
    injection h1 with h1; subst h1
    rw [addr_add h2, show a.off + i = a.off + (0 + i) by omega, hd _ _ h3] at hv
    simp only [Option.getD_some] at hv; subst hv
    exact Rep.mono (Store.Le.refl _) (fun i l h => by simp [Env.loc?] at h) _ _ h4
  · intro j v hv
    have hj : j < cs.length := by
      have := (List.getElem?_eq_some_iff.1 hv).1; simpa using this
    rw [List.getElem?_map, List.getElem?_range hj] at hv
    simp only [Option.map_some, Option.some.injEq] at hv
    obtain ⟨ad, x, h1, h2, h3, h4⟩ := h.get (List.getElem?_eq_getElem hj)
    injection h1 with h1; subst h1
    rw [addr_add h2, show a.off + j = a.off + (0 + j) by omega, hd _ _ h3] at hv ⊢
    simp only [Option.getD_some] at hv; rw [hv]
theorem loadVar_run {t : TypeId} {ag : Bool} {n : Nat} (ha : aggT P t = some ag) (hn : sizeT P t = some n) (a : Addr) (vs : List Value) (hl : n ≤ vs.length) (h1 : ag = true ∨ n = 1)
    (hc : ∀ (j : Nat) (v : Value), vs[j]? = some v → w.cell? (a.add j) = some v) : (loadVar t a).run P w = .ok (if ag then .agg (vs.take n).toArray else vs.getD 0 undef) w := by
  cases ag with
  | true =>
    have := run_loadCells_list (P := P) w a (vs.take n) (fun j v hv => by
      rw [List.getElem?_take] at hv
      split at hv
      · exact hc j v hv
      · cases hv)
    have e : (vs.take n).length = n := by rw [List.length_take]; omega
    rw [e] at this
    simp only [loadVar, Sem.run_bind, agg_run ha, Result.andThen_ok, if_true, size_run hn, this, Sem.run_pure]
  | false =>
    have h1 : n = 1 := h1.resolve_left (by simp)
    subst h1
    cases vs with
    | nil => simp at hl
    | cons v vs =>
      have := hc 0 v rfl
      have e : a.add 0 = a := rfl
      rw [e] at this
      simp only [loadVar, Sem.run_bind, agg_run ha, Result.andThen_ok]
      simp [load, Sem.run, this]
theorem takeAg_rep0 {b : Bool} {n : Nat} {cs : List AV} {vs : List Value} (h : RepL D ρ cs vs) :
    Rep D ρ (takeAg b n cs) (if b then .agg (vs.take n).toArray else vs.getD 0 undef) := by
  have := takeAg_rep (b := b) (n := n) (off := 0) h
  simpa using this
theorem getD_c {i : Nat} {cs : List AV} (h : H.getD i .dead = .c cs) : H[i]? = some (.c cs) := by
  rw [List.getD_eq_getElem?_getD] at h
  cases hh : H[i]? with
  | none => rw [hh] at h; cases h
  | some s => rw [hh] at h; simp at h; rw [h]
theorem load_gives {o : Oper} {t : TypeId} {x : Operand} {ag : Bool} {n : Nat} (ho : o.op = .load t x) (ha : aggT P t = some ag) (hn : sizeT P t = some n) (hb : Inv0 D ρ H w) (hT : RepL D ρ T tmps)
    (h : (lr T H (.load ag n x)).1) : ∃ y, (execOp (Act.eval ⟨tmps.toArray, []⟩) o).run P w = .ok (.value y) w ∧ Rep D ρ (lr T H (.load ag n x)).2 y := by
  have hr := ev_rep hT x
  simp only [lr] at h ⊢
  split at h
  · rename_i i off hx
    rw [hx] at hr
    simp only [Rep] at hr
    obtain ⟨l, hl, hv⟩ := hr
    split at h
    · rename_i cs hcs
      obtain ⟨l', h1, hseg⟩ := hb.seg i cs (getD_c hcs)
      rw [hl] at h1; injection h1 with h1; subst h1
      obtain ⟨vs, hvs, hcell⟩ := seg_vals hseg
      obtain ⟨h2, h3⟩ := h
      refine ⟨_, ?_, takeAg_rep0 (hvs.drop off)⟩
      have := loadVar_run (w := w) ha hn (l.at off) (vs.drop off) (by rw [List.length_drop, ← hvs.length]; omega) h3 (fun j v hj => by
        rw [List.getElem?_drop] at hj
        rw [Loc.at_add]; exact hcell _ v hj)
      simp only [execOp, ho, hv, Instr.loadAt, Instr.sureAddr, Sem.run_bind, Sem.run_pure, Result.andThen_ok, this]
    · exact h.elim
  · rename_i cs hx
    rw [hx] at hr
    simp only [Rep] at hr
    obtain ⟨a, hv, hrow⟩ := hr
    obtain ⟨vs, hvs, hcell⟩ := row_vals (ρ := ρ) hb.d hrow
    obtain ⟨h2, h3⟩ := h
    refine ⟨_, ?_, takeAg_rep0 hvs⟩
    have := loadVar_run (w := w) ha hn a vs (by rw [← hvs.length]; exact h2) h3 hcell
    simp only [execOp, ho, hv, Instr.loadAt, Instr.sureAddr, Sem.run_bind, Sem.run_pure, Result.andThen_ok, this]
  · exact h.elim
theorem sarr_gives {o : Oper} {t e : TypeId} {x : Operand} {lo hi : Option Operand} {len z : Nat} (ho : o.op = .slice t x lo hi none) (ht : P.underlying t = some (.array len e)) (hz : sizeT P e = some z) (hT : RepL D ρ T tmps)
    (h : (lr T H (.sarr len z x lo hi)).1) : ∃ y, (∀ w, (execOp (Act.eval ⟨tmps.toArray, []⟩) o).run P w = .ok (.value y) w) ∧ Rep D ρ (lr T H (.sarr len z x lo hi)).2 y := by
  have hr := ev_rep hT x
  simp only [lr] at h ⊢
  split at h
  · rename_i j off ha
    rw [ha] at hr
    simp only [Rep] at hr
    obtain ⟨l, hl, hx⟩ := hr
    split at h
    · rename_i cs hcs
      obtain ⟨h0, h1, h2, h3, h4, h5⟩ := h
      have hb := fun w => bounds_run (P := P) (isSlice := false) (cap := len) hT h1 h2 h3 h4 h5 (Nat.le_refl _) w
      generalize hL : (optInt T 0 lo).2 = L at *
      generalize hH : (optInt T (len : Int) hi).2 = Hh at *
      refine ⟨.slice (some (if len = L.toNat then l.at off else (l.at off).add (L.toNat * z))) (Hh.toNat - L.toNat) (len - L.toNat), fun w => ?_, ?_⟩
      · simp only [execOp, ho, hx, Instr.sliceAt, Sem.run_bind, run_underlying ht, Result.andThen_ok, Option.map_none]
        simp only [Instr.sureAddr, Sem.run_pure, Result.andThen_ok, hb, size_run hz]
      · simp only [Rep]
        refine ⟨l, some _, len - L.toNat, hl, by rw [show (Hh - L).toNat = Hh.toNat - L.toNat from by omega], by omega, by simp, ?_⟩
        by_cases e : len = L.toNat
        · left; omega
        · right; rw [if_neg e, Loc.at_add]
    · exact h.elim
  · exact h.elim
theorem lr_sound {o : Oper} {lop : LOp} (hs : stripOp P o.op = some lop) (hb : Inv0 D ρ H w) (hT : RepL D ρ T tmps) (h : (lr T H lop).1) :
    ∃ y, (execOp (Act.eval ⟨tmps.toArray, []⟩) o).run P w = .ok (.value y) w ∧ Rep D ρ (lr T H lop).2 y := by
  cases lop with
  | load ag n x =>
    cases hop : o.op with
    | load t x' =>
      rw [hop] at hs; simp only [stripOp, Option.bind_eq_some_iff, Option.map_eq_some_iff] at hs
      obtain ⟨ag', ha, n', hn, he⟩ := hs
      injection he with e1 e2 e3; subst e1 e2 e3
      exact load_gives hop ha hn hb hT h
    | _ => exact absurd hs (by rw [hop]; intro hs; simp only [stripOp] at hs; (repeat' (split at hs)) <;> first | contradiction | simp [Option.bind_eq_some_iff, Option.map_eq_some_iff] at hs)
  | sarr len z x lo hi =>
    cases hop : o.op with
    | slice t x' lo' hi' mx =>
      rw [hop] at hs
      cases mx with
      | some m => simp [stripOp] at hs
      | none =>
        simp only [stripOp] at hs
        split at hs
        · rename_i n e hu
          simp only [Option.map_eq_some_iff] at hs
          obtain ⟨z', hz, he⟩ := hs
          injection he with e1 e2 e3 e4 e5; subst e1 e2 e3 e4 e5
          obtain ⟨y, hy, hyr⟩ := sarr_gives hop hu hz hT h
          exact ⟨y, hy w, hyr⟩
        · simp at hs
        · simp at hs
        · cases hs
    | _ => exact absurd hs (by rw [hop]; intro hs; simp only [stripOp] at hs; (repeat' (split at hs)) <;> first | contradiction | simp [Option.bind_eq_some_iff, Option.map_eq_some_iff] at hs)
  | _ => exact h.elim
end
end Go.Proofs.Lite

namespace Go.Proofs.Lite
open Go
def isRes : Sg → Prop
  | .res => True
  | _ => False
/-- The elements of a slice: how many, and their cells. -/
def slEl (z : Nat) (H : Heap) : AV → Prop × Nat × List AV
  | .raw (.slice none n c) => (n = 0 ∧ c = 0, 0, [])
  | .sl i z' o n _ => match H.getD i .dead with
    | .c cs => (z' = z ∧ o + n * z ≤ cs.length, n, (cs.drop o).take (n * z))
    | _ => (False, 0, [])
  | .ro z' n cs => (z' = z, n, cs)
  | _ => (False, 0, [])
def bslParts (T : List AV) (z len : Nat) : List (Nat × Operand) → Prop
  | [] => True
  | p :: r => (p.1 < len ∧ (cellsOf (ev T p.2)).length = z ∧ ones (cellsOf (ev T p.2))) ∧ bslParts T z len r
/-- Operations that write or make memory (calls aside). -/
def er (T : List AV) (H : Heap) (base : Nat) : LOp → Prop × AV × Heap
  | .alloc z => (True, .ptr H.length 0, H ++ [.c (raws z)])
  | .allocAt r z => (isRes (H.getD (base + r) .dead), .ptr (base + r) 0, H.set (base + r) (.c (raws z)))
  | .box x => (ones (cellsOf (ev T x)), .ptr H.length 0, H ++ [.c (cellsOf (ev T x))])
  | .boxAt r x => (ones (cellsOf (ev T x)) ∧ isRes (H.getD (base + r) .dead), .ptr (base + r) 0, H.set (base + r) (.c (cellsOf (ev T x))))
  | .store n x v =>
    match ev T x with
    | .ptr i o => match H.getD i .dead with
      | .c cs => ((cellsOf (ev T v)).length = n ∧ ones (cellsOf (ev T v)) ∧ o + n ≤ cs.length, .junk, H.set i (.c (wr cs o (cellsOf (ev T v)))))
      | _ => (False, .junk, H)
    | _ => (False, .junk, H)
  | .bsl z len zero parts => (bslParts T z len parts, .sl H.length z 0 len true, H ++ [.c (wrAll (raws (List.replicate len zero).flatten) (parts.map fun p => (p.1 * z, cellsOf (ev T p.2))))])
  | .bslAt r z len zero parts => (bslParts T z len parts ∧ isRes (H.getD (base + r) .dead), .sl (base + r) z 0 len true, H.set (base + r) (.c (wrAll (raws (List.replicate len zero).flatten) (parts.map fun p => (p.1 * z, cellsOf (ev T p.2))))))
  | .msl z bytes zero l c =>
    ((intOf (ev T l)).1 ∧ (intOf (ev T c)).1 ∧ 0 ≤ (intOf (ev T l)).2 ∧ (intOf (ev T l)).2 ≤ (intOf (ev T c)).2 ∧ bytes * (intOf (ev T c)).2 ≤ 2 ^ 48,
      .sl H.length z 0 (intOf (ev T l)).2.toNat true, H ++ [.c (raws (List.replicate (intOf (ev T c)).2.toNat zero).flatten)])
  | .app z bytes s x =>
    match ev T s with
    | .raw (.slice none _ _) => ((slEl z H (ev T s)).1 ∧ (slEl z H (ev T x)).1 ∧ ones (slEl z H (ev T x)).2.2 ∧ (2 * (slEl z H (ev T x)).2.1 + 192) * bytes ≤ 2 ^ 48,
        .sl H.length z 0 (slEl z H (ev T x)).2.1 true, H ++ [.c (slEl z H (ev T x)).2.2])
    | .sl i z' o n true => match H.getD i .dead with
      | .c cs => (z' = z ∧ o + n * z = cs.length ∧ (slEl z H (ev T x)).1 ∧ ones (slEl z H (ev T x)).2.2 ∧ (2 * (n + (slEl z H (ev T x)).2.1) + 192) * bytes ≤ 2 ^ 48,
          .sl H.length z 0 (n + (slEl z H (ev T x)).2.1) true, H.set i .dead ++ [.c (cs.drop o ++ (slEl z H (ev T x)).2.2)])
      | _ => (False, .junk, H)
    | _ => (False, .junk, H)
  | .cpy z d s =>
    match ev T d with
    | .sl i z' o n _ => match H.getD i .dead with
      | .c cs => (z' = z ∧ o + n * z ≤ cs.length ∧ (slEl z H (ev T s)).1 ∧ ones ((slEl z H (ev T s)).2.2.take (min (slEl z H (ev T s)).2.1 n * z)),
          .raw (.int .i64 ((min (slEl z H (ev T s)).2.1 n : Nat) : Int)), H.set i (.c (wr cs o ((slEl z H (ev T s)).2.2.take (min (slEl z H (ev T s)).2.1 n * z)))))
      | _ => (False, .junk, H)
    | _ => (False, .junk, H)
  | _ => (False, .junk, H)
section
variable {P : Program} {cx : Cx} {D : Store} {ρ : Env} {H : Heap} {w : World} {T : List AV} {tmps : List Value}
theorem newVar_run (t : TypeId) (v : Value) (w : World) : (newVar t v).run P w = .ok ⟨w.heap.size, 0, none⟩ (w.alloc (.cells v.cells t)) := by
  rfl
theorem isRes_get {i : Nat} (h : isRes (H.getD i .dead)) : H[i]? = some .res := by
  rw [List.getD_eq_getElem?_getD] at h
  cases hh : H[i]? with
  | none => rw [hh] at h; exact h.elim
  | some s => rw [hh] at h; simp only [Option.getD_some] at h; cases s <;> first | rfl | exact h.elim
theorem new_fill {i : Nat} {cs : List AV} {vs : List Value} {t : TypeId} {o : Oper} (h : BInv cx D ρ H w) (hi : H[i]? = some .res) (hc : RepL D ρ cs vs)
    (hr : (execOp (Act.eval ⟨tmps.toArray, []⟩) o).run P w = .ok (.value (.pointer (some ⟨w.heap.size, 0, none⟩))) (w.alloc (.cells vs.toArray t))) :
    StepTo P cx D ρ tmps o w (.ptr i 0) (H.set i (.c cs)) := by
  have := h.fill (t := t) hi hc []
  simp only [List.append_nil] at this
  have hiρ : i < ρ.length := by rw [h.inv.len]; exact (List.getElem?_eq_some_iff.1 hi).1
  exact ⟨_, _, _, hr, .inr ⟨_, rfl, by simp only [Rep]; exact ⟨_, Env.loc?_set_self hiρ _, rfl⟩⟩, this, Env.le_set (h.inv.res i hi) _⟩
theorem Env.loc?_snoc {ρ : Env} {n : Nat} (h : ρ.length = n) (l : Loc) : Env.loc? (ρ ++ [some l]) n = some l := by
  unfold Env.loc?; subst h; simp
theorem new_push {cs : List AV} {vs : List Value} {t : TypeId} {o : Oper} (h : BInv cx D ρ H w) (hc : RepL D ρ cs vs)
    (hr : (execOp (Act.eval ⟨tmps.toArray, []⟩) o).run P w = .ok (.value (.pointer (some ⟨w.heap.size, 0, none⟩))) (w.alloc (.cells vs.toArray t))) :
    StepTo P cx D ρ tmps o w (.ptr H.length 0) (H ++ [.c cs]) := by
  have := h.push (t := t) hc []
  simp only [List.append_nil] at this
  exact ⟨_, _, _, hr, .inr ⟨_, rfl, by simp only [Rep]; exact ⟨_, Env.loc?_snoc h.inv.len _, rfl⟩⟩, this, Env.le_append _ _⟩
theorem alloc_run {o : Oper} {t : TypeId} {z : List Value} (ho : o.op = .alloc t) (hz : zeroT P t = some z) (w : World) :
    (execOp (Act.eval ⟨tmps.toArray, []⟩) o).run P w = .ok (.value (.pointer (some ⟨w.heap.size, 0, none⟩))) (w.alloc (.cells z.toArray t)) := by
  obtain ⟨v, hv, hc⟩ := zero_run hz w
  simp only [execOp, ho, Instr.alloc, Sem.run_bind, hv, Result.andThen_ok, newVar_run, hc, Sem.run_pure]
theorem box_run {o : Oper} {t : TypeId} {x : Operand} (ho : o.op = .box t x) {vs : List Value} (hc : (Act.eval ⟨tmps.toArray, []⟩ x).cells = vs.toArray) (w : World) :
    (execOp (Act.eval ⟨tmps.toArray, []⟩) o).run P w = .ok (.value (.pointer (some ⟨w.heap.size, 0, none⟩))) (w.alloc (.cells vs.toArray t)) := by
  simp only [execOp, ho, Instr.box, Sem.run_bind, newVar_run, hc, Result.andThen_ok, Sem.run_pure]
theorem ones_isOne {d : AV} {v : Value} (h1 : one d) (h : Rep D ρ d v) : isOne v = true := by
  cases d with
  | raw v' => simp only [Rep] at h; subst h; simpa [one] using h1
  | ptr i o => simp only [Rep] at h; obtain ⟨l, _, rfl⟩ := h; rfl
  | sl i z o n b => simp only [Rep] at h; obtain ⟨l, a, cap, _, rfl, _⟩ := h; rfl
  | ro z n cs => simp only [Rep] at h; obtain ⟨a, cap, rfl, _⟩ := h; rfl
  | rp cs => simp only [Rep] at h; obtain ⟨a, rfl, _⟩ := h; rfl
  | fn f cs => simp only [Rep] at h; obtain ⟨vs, rfl, _⟩ := h; rfl
  | mp i => simp only [Rep] at h; obtain ⟨l, _, rfl⟩ := h; rfl
  | _ => exact h1.elim
theorem store_run {a : Addr} {v u : Value} (h1 : isOne v = true) (hc : w.cell? a = some u) (hf : w.frozen? a = false) : (store a v).run P w = .ok () (w.setCell a v) := by
  cases v <;> first | (simp [isOne] at h1; done) | simp [store, Sem.run, hc, hf]
theorem wr_cons {cs : List AV} {o : Nat} {d : AV} {ds : List AV} (h : o + (d :: ds).length ≤ cs.length) : wr cs o (d :: ds) = wr (cs.set o d) (o + 1) ds := by
  unfold wr
  simp only [List.length_cons] at h ⊢
  have ho : o < cs.length := by omega
  rw [show o + (ds.length + 1) = o + 1 + ds.length from by omega, List.drop_set, if_pos (by omega)]
  have hm : (List.take o cs).length = o := by rw [List.length_take]; omega
  rw [List.take_set, ← List.take_append_getElem ho, List.set_append_right _ _ (by omega), hm]
  simp
theorem storeCells_run : ∀ (ds : List AV) (vs : List Value) (k o i : Nat) (cs : List AV) (l : Loc) (H : Heap) (w : World), BInv cx D ρ H w → H[i]? = some (.c cs) → Env.loc? ρ i = some l →
    RepL D ρ ds vs → ones ds → o + k + ds.length ≤ cs.length →
    ∃ w', (storeCells (l.at o) vs k).run P w = .ok () w' ∧ BInv cx D ρ (H.set i (.c (wr cs (o + k) ds))) w'
  | [], [], k, o, i, cs, l, H, w, h, hi, hl, _, _, _ => by
    refine ⟨w, by simp [storeCells], ?_⟩
    have : wr cs (o + k) [] = cs := by simp [wr]
    rw [this]
    have : H.set i (.c cs) = H := by
      apply List.ext_getElem?; intro j
      rw [List.getElem?_set]
      split
      · rename_i e; subst e; rw [if_pos (List.getElem?_eq_some_iff.1 hi).1, hi]
      · rfl
    rw [this]; exact h
  | d :: ds, v :: vs, k, o, i, cs, l, H, w, h, hi, hl, hr, h1, hle => by
    simp only [RepL] at hr
    simp only [ones] at h1
    obtain ⟨l', g1, hseg⟩ := h.inv.seg i cs hi
    rw [hl] at g1; injection g1 with g1; subst g1
    simp only [List.length_cons] at hle
    obtain ⟨u, hu, hf, _⟩ := hseg.2 (o + k) (by have := hseg.1; omega)
    have hs := store_run (P := P) (ones_isOne h1.1 hr.1) hu hf
    have hb := h.set1 hi hl (j := o + k) (by omega) hr.1
    have hiH : i < H.length := (List.getElem?_eq_some_iff.1 hi).1
    obtain ⟨w', hw, hb'⟩ := storeCells_run ds vs (k + 1) o i (cs.set (o + k) d) l _ _ hb (List.getElem?_set_self hiH) hl hr.2 h1.2 (by simp; omega)
    refine ⟨w', ?_, ?_⟩
    · simp only [storeCells, Sem.run_bind, Loc.at_add, hs, Result.andThen_ok]
      exact hw
    · rw [List.set_set] at hb'
      rw [wr_cons (by simp only [List.length_cons]; omega)]
      exact hb'
  | [], _ :: _, _, _, _, _, _, _, _, _, _, _, h, _, _ => by simp [RepL] at h
  | _ :: _, [], _, _, _, _, _, _, _, _, _, _, h, _, _ => by simp [RepL] at h
theorem store_step {o : Oper} {t : TypeId} {x v : Operand} {n : Nat} {base : Nat} (ho : o.op = .store t x v) (hn : sizeT P t = some n) (h : BInv cx D ρ H w) (hT : RepL D ρ T tmps)
    (hs : (er T H base (.store n x v)).1) : StepTo P cx D ρ tmps o w (er T H base (.store n x v)).2.1 (er T H base (.store n x v)).2.2 := by
  have hr := ev_rep hT x
  simp only [er] at hs ⊢
  split at hs
  · rename_i i off hx
    rw [hx] at hr
    simp only [Rep] at hr
    obtain ⟨l, hl, hv⟩ := hr
    split at hs
    · rename_i cs hcs
      obtain ⟨h1, h2, h3⟩ := hs
      obtain ⟨vs, hvs, hvr⟩ := cells_rep (ev_rep hT v) h2
      obtain ⟨w', hw, hb⟩ := storeCells_run (P := P) _ vs 0 off i cs l H w h (getD_c hcs) hl hvr h2 (by omega)
      refine ⟨.skip, w', ρ, ?_, .inl ⟨rfl, rfl⟩, hb, Env.Le.refl _⟩
      have hsz : vs.length = n := by rw [← hvr.length, h1]
      simp only [execOp, ho, hv, Instr.storeAt, Instr.sureAddr, Sem.run_bind, Sem.run_pure, Result.andThen_ok, storeVar, size_run hn, hvs]
      simp [hsz, hw]
    · exact hs.elim
  · exact hs.elim
theorem range_flat (zero : List Value) (z : Nat) (hz : zero.length = z) (h0 : 0 < z) : ∀ n, (Array.range (n * z)).map (fun i => zero.toArray[i % zero.toArray.size]!) = ((List.replicate n zero).flatten).toArray := by
  intro n
  apply Array.ext'
  apply List.ext_getElem?
  intro i
  have hfl : ∀ n i, i < n * z → ((List.replicate n zero).flatten)[i]? = zero[i % z]? := by
    intro n
    induction n with
    | zero => intro i hi; simp at hi
    | succ n ih =>
      intro i hi
      rw [List.replicate_succ, List.flatten_cons, List.getElem?_append]
      split
      · rename_i hlt
        rw [Nat.mod_eq_of_lt (by omega)]
      · rename_i hge
        have e : (n + 1) * z = n * z + z := Nat.succ_mul n z
        rw [hz, ih (i - z) (by omega), ← Nat.mod_eq_sub_mod (by omega)]
  have hlen : ∀ n, ((List.replicate n zero).flatten).length = n * z := by
    intro n; simp [hz]
  by_cases hi : i < n * z
  · rw [hfl n i hi]
    have hm : i % z < z := Nat.mod_lt _ h0
    simp only [Array.toList_map, Array.toList_range, List.getElem?_map, List.getElem?_range hi, Option.map_some, List.size_toArray, hz]
    rw [List.getElem?_eq_getElem (by omega)]
    congr 1
    simp [hz, hm]
  · rw [List.getElem?_eq_none (by simp; omega), List.getElem?_eq_none (by rw [hlen]; omega)]
theorem newRow_run (t : TypeId) (cells : Array Value) (w : World) : (newRow t cells).run P w = .ok ⟨w.heap.size, 0, none⟩ (w.alloc (.cells cells t)) := by
  rfl
theorem ask_run (k : Nat) (w : World) : (askRoom k).run P w = .ok () w := by
  unfold askRoom; split <;> simp [mark, Sem.run]
theorem bsl_parts {T : List AV} {z len : Nat} {tot : Nat} (htot : tot = len * z) : ∀ {ps : List (Nat × Operand)}, bslParts T z len ps →
    partsOk T (ps.map fun p => (p.1 * z, z, p.2)) ∧ ∀ p ∈ ps.map (fun p => ((p.1 * z, z, p.2) : Nat × Nat × Operand)), p.1 + p.2.1 ≤ tot
  | [], _ => by simp [partsOk]
  | p :: ps, h => by
    simp only [bslParts] at h
    obtain ⟨⟨h1, h2, h3⟩, h4⟩ := h
    obtain ⟨i1, i2⟩ := bsl_parts htot h4
    refine ⟨by simp only [List.map_cons, partsOk]; exact ⟨⟨h2, h3⟩, i1⟩, fun q hq => ?_⟩
    rcases List.mem_cons.1 hq with rfl | hq
    · show p.1 * z + z ≤ tot
      rw [htot, ← Nat.succ_mul]; exact Nat.mul_le_mul_right _ h1
    · exact i2 q hq
theorem bsl_vals {o : Oper} {t e : TypeId} {z len : Nat} {zero : List Value} {parts : Array (Nat × Operand)} (ho : o.op = .buildSlice t len parts) (ht : P.underlying t = some (.slice e)) (hz : sizeT P e = some z) (hze : zeroT P e = some zero)
    (hzl : zero.length = z) (h0 : 0 < z) (hlim : len * z ≤ 2 ^ 24) (hT : RepL D ρ T tmps)
    (hs : bslParts T z len parts.toList) : ∃ vs, RepL D ρ (wrAll (raws (List.replicate len zero).flatten) (parts.toList.map fun p => (p.1 * z, cellsOf (ev T p.2)))) vs ∧ vs.length = len * z ∧
      ∀ w, (execOp (Act.eval ⟨tmps.toArray, []⟩) o).run P w = .ok (.value (.slice (some ⟨w.heap.size, 0, none⟩) len len)) (w.alloc (.cells vs.toArray e)) := by
  obtain ⟨p1, p2⟩ := bsl_parts (tot := len * z) rfl hs
  have hlen0 : ((List.replicate len zero).flatten).length = len * z := by simp [hzl]
  obtain ⟨vs, hv, hvr⟩ := fill_rep (T := T) (tmps := tmps) (D := D) (ρ := ρ) (place := fun i => some (i * z, z)) (parts.toList.map fun p => (p.1 * z, z, p.2)) (parts.toList.map (·.1)) (raws (List.replicate len zero).flatten) (List.replicate len zero).flatten (RepL.raws _) hT (by simp)
    (by
      intro j p k hj hk
      rw [List.getElem?_map] at hj hk
      cases hq : parts.toList[j]? with
      | none => rw [hq] at hj; cases hj
      | some q =>
        rw [hq] at hj hk
        simp only [Option.map_some, Option.some.injEq] at hj hk
        subst hj hk
        rfl)
    (by intro p hp; rw [raws, List.length_map, hlen0]; exact p2 p hp) p1
  have k3 : (((parts.toList.map (·.1)).zip (parts.toList.map fun p => (p.1 * z, z, p.2))).map fun (p : Nat × (Nat × Nat × Operand)) => (p.1, Act.eval ⟨tmps.toArray, []⟩ p.2.2.2)) = parts.toList.map fun p => (p.1, Act.eval ⟨tmps.toArray, []⟩ p.2) := by
    generalize parts.toList = l
    induction l with
    | nil => rfl
    | cons q l ih => simp [ih]
  rw [k3] at hv
  have k4 : ((parts.toList.map fun p => (p.1 * z, z, p.2)).map fun (p : Nat × Nat × Operand) => (p.1, cellsOf (ev T p.2.2))) = parts.toList.map fun p => (p.1 * z, cellsOf (ev T p.2)) := by
    simp
  rw [k4] at hvr
  have hvl : vs.length = len * z := by
    have e1 := hvr.length
    have : ∀ (ps : List (Nat × List AV)) (cs : List AV), (∀ p ∈ ps, p.1 + p.2.length ≤ cs.length) → (wrAll cs ps).length = cs.length := by
      intro ps
      induction ps with
      | nil => intro cs _; rfl
      | cons p ps ih =>
        intro cs hc
        have hp := hc p (by simp)
        simp only [wrAll]
        rw [ih _ (fun q hq => by rw [wr_length hp]; exact hc q (by simp [hq])), wr_length hp]
    rw [this] at e1
    · rw [← e1, raws, List.length_map, hlen0]
    · intro p hp'
      simp only [List.mem_map] at hp'
      obtain ⟨q, hq, rfl⟩ := hp'
      have hc := parts_ok p1 (q.1 * z, z, q.2) (by simp only [List.mem_map]; exact ⟨q, hq, rfl⟩)
      have hb := p2 (q.1 * z, z, q.2) (by simp only [List.mem_map]; exact ⟨q, hq, rfl⟩)
      simp only at hc hb ⊢
      rw [hc, raws, List.length_map, hlen0]; exact hb
  refine ⟨vs, hvr, hvl, fun w => ?_⟩
  · obtain ⟨zv, hzv, hzc⟩ := zero_run hze w
    have hnl : ¬ (len * z > 2 ^ 24) := by omega
    simp only [execOp, ho, Instr.buildSlice, Sem.run_bind, run_underlying ht, Result.andThen_ok, size_run hz]
    rw [if_neg hnl]
    by_cases hz0 : len * z = 0
    · have hl0 : len = 0 := by rcases Nat.mul_eq_zero.1 hz0 with h | h <;> omega
      have hc0 : ∀ f : Nat → Value, (Array.range (len * z)).map f = ((List.replicate len zero).flatten).toArray := by
        intro f; rw [hz0, hl0]; simp
      rw [if_pos hz0]
      simp only [Sem.run_bind, Sem.run_pure, Result.andThen_ok, hc0, Array.toList_map, hv, newRow_run]
    · have hc1 := range_flat zero z hzl h0 len
      rw [if_neg hz0]
      simp only [Sem.run_bind, Sem.run_pure, Result.andThen_ok, hzv, hzc, hc1, Array.toList_map, hv, newRow_run]
theorem bsl_step {o : Oper} {t e : TypeId} {z len base : Nat} {zero : List Value} {parts : Array (Nat × Operand)} (ho : o.op = .buildSlice t len parts) (ht : P.underlying t = some (.slice e)) (hz : sizeT P e = some z) (hze : zeroT P e = some zero)
    (hzl : zero.length = z) (h0 : 0 < z) (hlim : len * z ≤ 2 ^ 24) (h : BInv cx D ρ H w) (hT : RepL D ρ T tmps)
    (hs : (er T H base (.bsl z len zero parts.toList)).1) : StepTo P cx D ρ tmps o w (er T H base (.bsl z len zero parts.toList)).2.1 (er T H base (.bsl z len zero parts.toList)).2.2 := by
  simp only [er] at hs ⊢
  obtain ⟨vs, hvr, hvl, hrun⟩ := bsl_vals ho ht hz hze hzl h0 hlim hT hs
  have hp := h.push (t := e) hvr []
  simp only [List.append_nil] at hp
  refine ⟨.value (.slice (some ⟨w.heap.size, 0, none⟩) len len), _, _, hrun w, .inr ⟨_, rfl, ?_⟩, hp, Env.le_append _ _⟩
  simp only [Rep]
  refine ⟨_, _, len, Env.loc?_snoc h.inv.len _, rfl, Nat.le_refl _, fun _ => ?_, .inr rfl⟩
  simp [hvl]
theorem bslAt_step {o : Oper} {t e : TypeId} {r z len base : Nat} {zero : List Value} {parts : Array (Nat × Operand)} (ho : o.op = .buildSlice t len parts) (ht : P.underlying t = some (.slice e)) (hz : sizeT P e = some z) (hze : zeroT P e = some zero)
    (hzl : zero.length = z) (h0 : 0 < z) (hlim : len * z ≤ 2 ^ 24) (h : BInv cx D ρ H w) (hT : RepL D ρ T tmps)
    (hs : (er T H base (.bslAt r z len zero parts.toList)).1) : StepTo P cx D ρ tmps o w (er T H base (.bslAt r z len zero parts.toList)).2.1 (er T H base (.bslAt r z len zero parts.toList)).2.2 := by
  simp only [er] at hs ⊢
  obtain ⟨vs, hvr, hvl, hrun⟩ := bsl_vals ho ht hz hze hzl h0 hlim hT hs.1
  have hi := isRes_get hs.2
  have hp := h.fill (t := e) hi hvr []
  simp only [List.append_nil] at hp
  have hiρ : base + r < ρ.length := by rw [h.inv.len]; exact (List.getElem?_eq_some_iff.1 hi).1
  refine ⟨.value (.slice (some ⟨w.heap.size, 0, none⟩) len len), _, _, hrun w, .inr ⟨_, rfl, ?_⟩, hp, Env.le_set (h.inv.res _ hi) _⟩
  simp only [Rep]
  refine ⟨_, _, len, Env.loc?_set_self hiρ _, rfl, Nat.le_refl _, fun _ => ?_, .inr rfl⟩
  simp [hvl]
theorem msl_step {o : Oper} {t e : TypeId} {z bytes base : Nat} {zero : List Value} {l c : Operand} (ho : o.op = .makeSlice t l c) (ht : P.underlying t = some (.slice e)) (hz : sizeT P e = some z) (hb : bytesT P e = some bytes) (hze : zeroT P e = some zero)
    (hzl : zero.length = z) (h0 : 0 < z) (hb0 : 0 < bytes) (h : BInv cx D ρ H w) (hT : RepL D ρ T tmps)
    (hs : (er T H base (.msl z bytes zero l c)).1) : StepTo P cx D ρ tmps o w (er T H base (.msl z bytes zero l c)).2.1 (er T H base (.msl z bytes zero l c)).2.2 := by
  simp only [er] at hs ⊢
  obtain ⟨s1, s2, s3, s4, s5⟩ := hs
  obtain ⟨kl, hl⟩ := intOf_eval hT s1
  obtain ⟨kc, hc⟩ := intOf_eval hT s2
  generalize hL : (intOf (ev T l)).2 = L at *
  generalize hC : (intOf (ev T c)).2 = C at *
  obtain ⟨n, rfl⟩ := Int.eq_ofNat_of_zero_le (show 0 ≤ C by omega)
  have hCb : (n : Int) ≤ 2 ^ 48 := by
    have : (n : Int) ≤ bytes * n := by
      have : (1 : Int) * n ≤ bytes * n := Int.mul_le_mul_of_nonneg_right (by omega) (by omega)
      omega
    omega
  have wc : IntKind.i64.wrap (n : Int) = n := by simp [IntKind.wrap, IntKind.bits, IntKind.signed]; omega
  have wl : IntKind.i64.wrap L = L := by simp [IntKind.wrap, IntKind.bits, IntKind.signed]; omega
  obtain ⟨i, hi, hib⟩ : ∃ i, P.info? e = some i ∧ i.bytes = bytes := by
    unfold bytesT at hb
    cases hh : P.info? e with
    | none => simp [hh] at hb
    | some i => simp [hh] at hb; exact ⟨i, rfl, hb⟩
  have hp := h.push (t := e) (RepL.raws (List.replicate n zero).flatten) []
  simp only [List.append_nil] at hp
  have hlen0 : ((List.replicate n zero).flatten).length = n * z := by simp [hzl]
  refine ⟨.value (.slice (some ⟨w.heap.size, 0, none⟩) L.toNat n), _, _, ?_, .inr ⟨_, rfl, ?_⟩, hp, Env.le_append _ _⟩
  · obtain ⟨zv, hzv, hzc⟩ := zero_run hze w
    simp only [execOp, ho, Instr.makeSlice, Sem.run_bind, run_underlying ht, Result.andThen_ok, hl, hc, asInt, asIntOf, Sem.run_pure]
    have hinfo : (typeInfo e).run P w = .ok i w := by simp [typeInfo, hi]
    simp only [hinfo, Result.andThen_ok, hib, wc, wl]
    have c1 : (decide ((n : Int) < 0) || decide ((bytes : Int) * n > 2 ^ 48)) = false := by simp; omega
    have c2 : (decide (L < 0)) = false := by simp; omega
    have c3 : (decide (L > (n : Int))) = false := by simp; omega
    simp only [c1, c2, c3, Bool.or_false, Bool.false_eq_true, if_false]
    simp only [Sem.run_bind, ask_run, Result.andThen_ok, size_run hz, Int.toNat_natCast]
    by_cases hz0 : n * z = 0
    · have hl0 : n = 0 := by rcases Nat.mul_eq_zero.1 hz0 with h | h <;> omega
      have hc0 : ∀ f : Nat → Value, (Array.range (n * z)).map f = ((List.replicate n zero).flatten).toArray := by
        intro f; rw [hz0, hl0]; simp
      rw [if_pos hz0]
      simp only [Sem.run_bind, Sem.run_pure, Result.andThen_ok, hc0, newRow_run]
    · have hc1 := range_flat zero z hzl h0 n
      rw [if_neg hz0]
      simp only [Sem.run_bind, Sem.run_pure, Result.andThen_ok, hzv, hzc, hc1, newRow_run]
  · simp only [Rep]
    refine ⟨_, _, n, Env.loc?_snoc h.inv.len _, rfl, by omega, fun _ => ?_, .inr rfl⟩
    simp [hzl]
end
end Go.Proofs.Lite

namespace Go.Proofs.Lite
open Go
section
variable {P : Program} {cx : Cx} {D : Store} {ρ : Env} {H : Heap} {w : World} {T : List AV} {tmps : List Value}
theorem BInv.drew (h : BInv cx D ρ H w) : BInv cx D ρ H { w with drawn := w.drawn + 1 } :=
  ⟨⟨h.inv.len, h.inv.d, h.inv.seg, h.inv.mpp, h.inv.res, h.inv.dis⟩, h.fr.trans (Fr.drew (S := cx.S) w) (fun _ h => .inl h), h.av, h.dle, h.dav, h.keep⟩
theorem live_set_dead {i j : Nat} (h : Live (H.set i .dead) j) : j ≠ i ∧ Live H j := by
  have hne : j ≠ i := by
    intro e; subst e
    rcases h with ⟨cs, h⟩ | ⟨kvs, h⟩
    all_goals
      rw [List.getElem?_set] at h
      simp only [if_true] at h
      split at h <;> cases h
  refine ⟨hne, ?_⟩
  rcases h with ⟨cs, h⟩ | ⟨kvs, h⟩
  · rw [List.getElem?_set_ne (Ne.symm hne)] at h; exact .inl ⟨cs, h⟩
  · rw [List.getElem?_set_ne (Ne.symm hne)] at h; exact .inr ⟨kvs, h⟩
theorem BInv.kill (h : BInv cx D ρ H w) (i : Nat) : BInv cx D ρ (H.set i .dead) w := by
  refine ⟨⟨by simp [h.inv.len], h.inv.d, ?_, ?_, ?_, ?_⟩, h.fr, ?_, h.dle, h.dav, h.keep⟩
  · intro j cs hj
    have := live_set_dead (.inl ⟨cs, hj⟩)
    rw [List.getElem?_set_ne (Ne.symm this.1)] at hj
    exact h.inv.seg j cs hj
  · intro j cs hj
    have := live_set_dead (.inr ⟨cs, hj⟩)
    rw [List.getElem?_set_ne (Ne.symm this.1)] at hj
    exact h.inv.mpp j cs hj
  · intro j hj
    by_cases e : j = i
    · subst e
      rw [List.getElem?_set] at hj
      simp only [if_true] at hj
      split at hj <;> cases hj
    · rw [List.getElem?_set_ne (Ne.symm e)] at hj; exact h.inv.res j hj
  · intro a b la lb hab ha hb
    exact h.inv.dis a b la lb hab (live_set_dead ha).2 (live_set_dead hb).2
  · intro j l hj
    exact h.av j l (live_set_dead hj).2
theorem set_get_self {α : Type} {l : List α} {i : Nat} {x : α} (h : l[i]? = some x) : l.set i x = l := by
  apply List.ext_getElem?; intro j
  rw [List.getElem?_set]
  split
  · rename_i e; subst e; rw [if_pos (List.getElem?_eq_some_iff.1 h).1, h]
  · rfl
/-- What lies behind the known cells is known to be there. -/
theorem BInv.reveal {i : Nat} {cs : List AV} {l : Loc} (h : BInv cx D ρ H w) (hi : H[i]? = some (.c cs)) (hl : Env.loc? ρ i = some l) (k : Nat) (hk : cs.length + k ≤ l.ext) :
    BInv cx D ρ (H.set i (.c (cs ++ List.replicate k .junk))) w := by
  have hiH : i < H.length := (List.getElem?_eq_some_iff.1 hi).1
  have live : ∀ j, Live (H.set i (.c (cs ++ List.replicate k .junk))) j → Live H j := by
    intro j hj
    by_cases e : j = i
    · subst e; exact .inl ⟨cs, hi⟩
    · rcases hj with ⟨c, hj⟩ | ⟨kvs, hj⟩
      · rw [List.getElem?_set_ne (Ne.symm e)] at hj; exact .inl ⟨c, hj⟩
      · rw [List.getElem?_set_ne (Ne.symm e)] at hj; exact .inr ⟨kvs, hj⟩
  refine ⟨⟨by simp [h.inv.len], h.inv.d, ?_, ?_, ?_, ?_⟩, h.fr, ?_, h.dle, h.dav, h.keep⟩
  · intro j c hj
    by_cases e : j = i
    · subst e
      rw [List.getElem?_set_self hiH] at hj
      injection hj with hj; injection hj with hj; subst hj
      obtain ⟨l', g1, hseg⟩ := h.inv.seg j cs hi
      rw [hl] at g1; injection g1 with g1; subst g1
      refine ⟨l, hl, by simp; omega, fun p hp => ?_⟩
      obtain ⟨v, q1, q2, q3, q4⟩ := hseg.2 p hp
      refine ⟨v, q1, q2, q3, fun c hc => ?_⟩
      rw [List.getElem?_append] at hc
      split at hc
      · exact q4 c hc
      · rw [List.getElem?_replicate] at hc
        split at hc
        · injection hc with hc; subst hc; simp [Rep]
        · cases hc
    · rw [List.getElem?_set_ne (Ne.symm e)] at hj; exact h.inv.seg j c hj
  · intro j kvs hj
    by_cases e : j = i
    · subst e; rw [List.getElem?_set_self hiH] at hj; cases hj
    · rw [List.getElem?_set_ne (Ne.symm e)] at hj; exact h.inv.mpp j kvs hj
  · intro j hj
    by_cases e : j = i
    · subst e; rw [List.getElem?_set_self hiH] at hj; cases hj
    · rw [List.getElem?_set_ne (Ne.symm e)] at hj; exact h.inv.res j hj
  · intro a b la lb hab ha hb
    exact h.inv.dis a b la lb hab (live a ha) (live b hb)
  · intro j m hj
    exact h.av j m (live j hj)
theorem live_append {sg : Sg} {j : Nat} (h : Live (H ++ [sg]) j) : (j < H.length ∧ Live H j) ∨ (j = H.length ∧ ((∃ cs, sg = .c cs) ∨ ∃ kvs, sg = .m kvs)) := by
  by_cases hj : j < H.length
  · left; refine ⟨hj, ?_⟩
    rcases h with ⟨c, h⟩ | ⟨kvs, h⟩
    · rw [List.getElem?_append_left hj] at h; exact .inl ⟨c, h⟩
    · rw [List.getElem?_append_left hj] at h; exact .inr ⟨kvs, h⟩
  · right
    have hlt := h.lt
    simp at hlt
    have e : j = H.length := by omega
    subst e
    refine ⟨rfl, ?_⟩
    rcases h with ⟨c, h⟩ | ⟨kvs, h⟩
    · simp at h; exact .inl ⟨c, h⟩
    · simp at h; exact .inr ⟨kvs, h⟩
theorem Env.loc?_append_lt {ρ : Env} {i : Nat} (r : Env) (h : i < ρ.length) : Env.loc? (ρ ++ r) i = Env.loc? ρ i := by
  unfold Env.loc?; rw [List.getElem?_append_left h]
/-- A segment whose cells are some of those of another, which is given up. -/
theorem BInv.slide {i : Nat} {cs : List AV} {l : Loc} (h : BInv cx D ρ H w) (hi : H[i]? = some (.c cs)) (hl : Env.loc? ρ i = some l) (o e : Nat) (h1 : cs.length ≤ o + e) (h2 : o + e ≤ l.ext) :
    BInv cx D (ρ ++ [some ⟨l.blk, l.off + o, e⟩]) (H.set i .dead ++ [.c (cs.drop o)]) w := by
  have hk := h.kill i
  have hlen : ρ.length = (H.set i .dead).length := hk.inv.len
  obtain ⟨l', g1, hseg⟩ := h.inv.seg i cs hi
  rw [hl] at g1; injection g1 with g1; subst g1
  have hle := Env.le_append ρ [some ⟨l.blk, l.off + o, e⟩]
  have hnew : Env.loc? (ρ ++ [some ⟨l.blk, l.off + o, e⟩]) (H.set i .dead).length = some ⟨l.blk, l.off + o, e⟩ := Env.loc?_snoc hlen _
  have hold : ∀ j m, Live (H.set i .dead) j → Env.loc? (ρ ++ [some ⟨l.blk, l.off + o, e⟩]) j = some m → Env.loc? ρ j = some m := by
    intro j m hj hm
    rwa [Env.loc?_append_lt _ (by have := hj.lt; omega)] at hm
  have hat : ∀ p, Loc.at ⟨l.blk, l.off + o, e⟩ p = l.at (o + p) := by intro p; simp [Loc.at]; omega
  refine ⟨⟨by simp [hlen], h.inv.d, ?_, ?_, ?_, ?_⟩, h.fr, ?_, h.dle, h.dav, ?_⟩
  · intro j c hj
    rcases live_append (.inl ⟨c, hj⟩) with ⟨hlt, _⟩ | ⟨rfl, _⟩
    · rw [List.getElem?_append_left hlt] at hj
      obtain ⟨m, q1, q2⟩ := hk.inv.seg j c hj
      exact ⟨m, hle _ _ q1, q2.mono (D' := D) hle⟩
    · simp only [List.getElem?_concat_length, Option.some.injEq, Sg.c.injEq] at hj
      subst hj
      refine ⟨_, hnew, by simp; omega, fun p hp => ?_⟩
      obtain ⟨v, q1, q2, q3, q4⟩ := hseg.2 (o + p) (by simp at hp; omega)
      rw [hat]
      refine ⟨v, q1, q2, q3, fun c hc => ?_⟩
      rw [List.getElem?_drop] at hc
      exact Rep.mono (Store.Le.refl _) hle _ _ (q4 c hc)
  · intro j kvs hj
    rcases live_append (.inr ⟨kvs, hj⟩) with ⟨hlt, _⟩ | ⟨rfl, hh⟩
    · rw [List.getElem?_append_left hlt] at hj
      obtain ⟨m, q1, q2, q3, q4⟩ := hk.inv.mpp j kvs hj
      exact ⟨m, hle _ _ q1, q2, q3, q4.mono hle⟩
    · simp at hj
  · intro j hj
    by_cases hlt : j < (H.set i .dead).length
    · rw [List.getElem?_append_left hlt] at hj
      rw [Env.loc?_append_lt _ (by omega)]
      exact hk.inv.res j hj
    · rw [List.getElem?_append_right (by omega)] at hj
      cases hh : j - (H.set i .dead).length with
      | zero => rw [hh] at hj; simp at hj
      | succ n => rw [hh] at hj; simp at hj
  · intro a b la lb hab ha hb hla hlb p q hp hq
    rcases live_append ha with ⟨hal, ha'⟩ | ⟨rfl, _⟩ <;> rcases live_append hb with ⟨hbl, hb'⟩ | ⟨rfl, _⟩
    · exact hk.inv.dis a b la lb hab ha' hb' (hold a la ha' hla) (hold b lb hb' hlb) p q hp hq
    · rw [hnew] at hlb; injection hlb with hlb; subst hlb
      rw [hat]
      exact h.inv.dis a i la l (live_set_dead ha').1 (live_set_dead ha').2 (.inl ⟨cs, hi⟩) (hold a la ha' hla) hl p (o + q) hp (by simp at hq; omega)
    · rw [hnew] at hla; injection hla with hla; subst hla
      rw [hat]
      exact h.inv.dis i b l lb (Ne.symm (live_set_dead hb').1) (.inl ⟨cs, hi⟩) (live_set_dead hb').2 hl (hold b lb hb' hlb) (o + p) q (by simp at hp; omega) hq
    · exact absurd rfl hab
  · intro j m hj hm p hp
    rcases live_append hj with ⟨hlt, hj'⟩ | ⟨rfl, _⟩
    · exact hk.av j m hj' (hold j m hj' hm) p hp
    · rw [hnew] at hm; injection hm with hm; subst hm
      rw [hat]
      exact h.av i l (.inl ⟨cs, hi⟩) hl (o + p) (by simp at hp; omega)
  · intro k m hk' hm
    exact hle _ _ (h.keep k m hk' hm)
/-- A segment without cells. -/
theorem BInv.ghost (h : BInv cx D ρ H w) : BInv cx D (ρ ++ [some ⟨w.heap.size, 0, 0⟩]) (H ++ [.c []]) w := by
  have hlen := h.inv.len
  have hle := Env.le_append ρ [some ⟨w.heap.size, 0, 0⟩]
  have hnew : Env.loc? (ρ ++ [some ⟨w.heap.size, 0, 0⟩]) H.length = some ⟨w.heap.size, 0, 0⟩ := Env.loc?_snoc hlen _
  have hold : ∀ j m, Live H j → Env.loc? (ρ ++ [some ⟨w.heap.size, 0, 0⟩]) j = some m → Env.loc? ρ j = some m := by
    intro j m hj hm
    rwa [Env.loc?_append_lt _ (by have := hj.lt; omega)] at hm
  refine ⟨⟨by simp [hlen], h.inv.d, ?_, ?_, ?_, ?_⟩, h.fr, ?_, h.dle, h.dav, ?_⟩
  · intro j c hj
    rcases live_append (.inl ⟨c, hj⟩) with ⟨hlt, _⟩ | ⟨rfl, _⟩
    · rw [List.getElem?_append_left hlt] at hj
      obtain ⟨m, q1, q2⟩ := h.inv.seg j c hj
      exact ⟨m, hle _ _ q1, q2.mono (D' := D) hle⟩
    · simp only [List.getElem?_concat_length, Option.some.injEq, Sg.c.injEq] at hj
      subst hj
      exact ⟨_, hnew, by simp, fun p hp => absurd hp (by simp)⟩
  · intro j kvs hj
    rcases live_append (.inr ⟨kvs, hj⟩) with ⟨hlt, _⟩ | ⟨rfl, hh⟩
    · rw [List.getElem?_append_left hlt] at hj
      obtain ⟨m, q1, q2, q3, q4⟩ := h.inv.mpp j kvs hj
      exact ⟨m, hle _ _ q1, q2, q3, q4.mono hle⟩
    · simp at hj
  · intro j hj
    by_cases hlt : j < H.length
    · rw [List.getElem?_append_left hlt] at hj
      rw [Env.loc?_append_lt _ (by omega)]
      exact h.inv.res j hj
    · rw [List.getElem?_append_right (by omega)] at hj
      cases hh : j - H.length with
      | zero => rw [hh] at hj; simp at hj
      | succ n => rw [hh] at hj; simp at hj
  · intro a b la lb hab ha hb hla hlb p q hp hq
    rcases live_append ha with ⟨hal, ha'⟩ | ⟨rfl, _⟩ <;> rcases live_append hb with ⟨hbl, hb'⟩ | ⟨rfl, _⟩
    · exact h.inv.dis a b la lb hab ha' hb' (hold a la ha' hla) (hold b lb hb' hlb) p q hp hq
    · rw [hnew] at hlb; injection hlb with hlb; subst hlb; simp at hq
    · rw [hnew] at hla; injection hla with hla; subst hla; simp at hp
    · exact absurd rfl hab
  · intro j m hj hm p hp
    rcases live_append hj with ⟨hlt, hj'⟩ | ⟨rfl, _⟩
    · exact h.av j m hj' (hold j m hj' hm) p hp
    · rw [hnew] at hm; injection hm with hm; subst hm; simp at hp
  · intro k m hk' hm
    exact hle _ _ (h.keep k m hk' hm)
theorem slEl_sound {z : Nat} (hz : 0 < z) {a : AV} {x : Value} (h : Inv0 D ρ H w) (hr : Rep D ρ a x) (hs : (slEl z H a).1) :
    ∃ ad cap vs, x = .slice ad (slEl z H a).2.1 cap ∧ (slEl z H a).2.1 ≤ cap ∧ RepL D ρ (slEl z H a).2.2 vs ∧ vs.length = (slEl z H a).2.1 * z ∧
      ∀ (j : Nat) (v : Value), vs[j]? = some v → ∃ a', ad = some a' ∧ w.cell? (a'.add j) = some v := by
  unfold slEl at hs ⊢
  split at hs
  · obtain ⟨rfl, rfl⟩ := hs
    simp only [Rep] at hr
    exact ⟨none, 0, [], hr, Nat.le_refl _, by simp [RepL], by simp, fun j v h => by simp at h⟩
  · rename_i i z' o n b
    split at hs
    · rename_i cs hcs
      obtain ⟨rfl, hle⟩ := hs
      simp only [Rep] at hr
      obtain ⟨l, ad, cap, hl, hx, hn, _, ha⟩ := hr
      obtain ⟨l', g1, hseg⟩ := h.seg i cs (getD_c hcs)
      rw [hl] at g1; injection g1 with g1; subst g1
      obtain ⟨vs, hvs, hcell⟩ := seg_vals hseg
      have hvl := hvs.length
      refine ⟨ad, cap, (vs.drop o).take (n * z'), hx, hn, (hvs.drop o).take _, ?_, fun j v hj => ?_⟩
      · show ((vs.drop o).take (n * z')).length = n * z'
        rw [List.length_take, List.length_drop]; omega
      · rw [List.getElem?_take] at hj
        split at hj
        · rename_i hlt
          have hn0 : 0 < n := by
            rcases Nat.eq_zero_or_pos n with e | e
            · subst e; simp at hlt
            · exact e
          have ha := ha.resolve_left (by omega)
          subst ha
          refine ⟨_, rfl, ?_⟩
          rw [List.getElem?_drop] at hj
          rw [Loc.at_add]; exact hcell _ v hj
        · cases hj
    · exact hs.elim
  · rename_i z' n cs
    obtain rfl : z' = z := hs
    simp only [Rep] at hr
    obtain ⟨ad, cap, hx, hn, hl, hrow⟩ := hr
    cases ad with
    | some a' =>
      obtain ⟨vs, hvs, hcell⟩ := row_vals (ρ := ρ) h.d hrow
      exact ⟨some a', cap, vs, hx, hn, hvs, by rw [← hvs.length, hl], fun j v hj => ⟨a', rfl, hcell j v hj⟩⟩
    | none =>
      have : cs = [] := by
        cases cs with
        | nil => rfl
        | cons c cs => simp only [RepRow] at hrow; obtain ⟨⟨ad, v, e, _⟩, _⟩ := hrow; cases e
      subst this
      exact ⟨none, cap, [], hx, hn, by simp [RepL], by simpa using hl, fun j v h => by simp at h⟩
  · exact hs.elim
theorem firstCells_run {z m cap : Nat} {ad : Option Addr} {vs : List Value} (hv : ∀ (j : Nat) (v : Value), vs[j]? = some v → ∃ a', ad = some a' ∧ w.cell? (a'.add j) = some v) (k n : Nat) (hk : n * z = k) (hle : k ≤ vs.length) :
    (Builtin.firstCells z n (.slice ad m cap)).run P w = .ok (vs.take k).toArray w := by
  cases ad with
  | none =>
    have : vs = [] := by
      cases vs with
      | nil => rfl
      | cons v vs => obtain ⟨a', e, _⟩ := hv 0 v rfl; cases e
    subst this
    simp [Builtin.firstCells]
  | some a =>
    have := run_loadCells_list (P := P) w a (vs.take k) (fun j v hj => by
      rw [List.getElem?_take] at hj
      split at hj
      · obtain ⟨a', e, h⟩ := hv j v hj
        injection e with e; subst e; exact h
      · cases hj)
    have e : (vs.take k).length = n * z := by rw [List.length_take]; omega
    rw [e] at this
    simpa [Builtin.firstCells] using this
theorem growBy_le (n : Nat) : ∀ r c, c < n → Builtin.growBy n r c ≤ n + (n + 768) / 4
  | 0, c, h => by simp [Builtin.growBy]; omega
  | r + 1, c, h => by
    unfold Builtin.growBy
    rw [if_neg (by omega)]
    by_cases h2 : c + (c + 768) / 4 < n
    · exact growBy_le n r _ h2
    · cases r with
      | zero => simp [Builtin.growBy]; omega
      | succ r => unfold Builtin.growBy; rw [if_pos (by omega)]; omega
theorem nextcap_le {n c : Nat} (h : c < n) : Builtin.nextslicecap n c ≤ 2 * n + 192 := by
  unfold Builtin.nextslicecap
  split
  · omega
  · split
    · omega
    · have := growBy_le n 4 c h; omega
theorem zeroCells_size (zero : Array Value) (n : Nat) : (Builtin.zeroCells zero n).size = n * zero.size := by simp [Builtin.zeroCells]
/-- What 'append' comes to, on slices. -/
theorem append_grow {t u e : TypeId} {ty : TypeId} {z bytes : Nat} {zero : List Value} (ht : P.underlying t = some (.slice e)) (hu : ∃ e', P.underlying u = some (.slice e')) (hz : sizeT P e = some z) (hb : bytesT P e = some bytes) (hze : zeroT P e = some zero) (hb0 : 0 < bytes)
    {sb xb : Option Addr} {sn sc xn xc : Nat} {os ns : List Value} (hgt : sc < sn + xn) (hlim : (2 * (sn + xn) + 192) * bytes ≤ 2 ^ 48)
    (ho : ∀ (j : Nat) (v : Value), os[j]? = some v → ∃ a', sb = some a' ∧ w.cell? (a'.add j) = some v) (hol : os.length = sn * z)
    (hn : ∀ (j : Nat) (v : Value), ns[j]? = some v → ∃ a', xb = some a' ∧ w.cell? (a'.add j) = some v) (hnl : ns.length = xn * z) :
    ∃ cap : Nat, sn + xn ≤ cap ∧ ∃ rest : List Value, rest.length = (cap - (sn + xn)) * zero.length ∧
      (Builtin.append_ #[t, u] ty #[.slice sb sn sc, .slice xb xn xc]).run P w = .ok (.slice (some ⟨w.heap.size, 0, none⟩) (sn + xn) cap) (World.alloc { w with drawn := w.drawn + 1 } (.cells (os ++ ns ++ rest).toArray e)) := by
  obtain ⟨e', hu⟩ := hu
  obtain ⟨i, hi, hib⟩ : ∃ i, P.info? e = some i ∧ i.bytes = bytes := by
    unfold bytesT at hb
    cases hh : P.info? e with
    | none => simp [hh] at hb
    | some i => simp [hh] at hb; exact ⟨i, rfl, hb⟩
  obtain ⟨zv, hzv, hzc⟩ := zero_run hze { w with drawn := w.drawn + 1 }
  have hq : ∃ cap, sn + xn ≤ cap ∧ (choose (.appendCap (sn + xn) sc e)).run P w = .ok cap { w with drawn := w.drawn + 1 } := by
    refine ⟨_, ?_, by simp [choose, Sem.run, Question.forced]; rfl⟩
    simp [Question.cut]
  obtain ⟨cap, hcap, hch⟩ := hq
  refine ⟨cap, hcap, (Builtin.zeroCells zero.toArray (cap - (sn + xn))).toList, by simp [zeroCells_size], ?_⟩
  have hinfo : ∀ w, (typeInfo e).run P w = .ok i w := by intro w; simp [typeInfo, hi]
  have hcaple := nextcap_le hgt
  have hsmall : Builtin.nextslicecap (sn + xn) sc * bytes ≤ 2 ^ 48 := Nat.le_trans (Nat.mul_le_mul_right _ hcaple) hlim
  have h1 : ¬ (sn + xn ≤ sc) := by omega
  have h2 : sn + xn ≤ 2 ^ 48 := by
    have : (2 * (sn + xn) + 192) * 1 ≤ (2 * (sn + xn) + 192) * bytes := Nat.mul_le_mul_left _ hb0
    omega
  have hmax : IntKind.i64.max = 9223372036854775807 := by decide
  have h3 : ¬ (((sn + xn : Nat) : Int) > IntKind.i64.max ∧ (False ∨ bytes = 0)) := by rw [hmax]; omega
  have fo := firstCells_run (P := P) (w := { w with drawn := w.drawn + 1 }) (z := z) (m := sn) (cap := sc) ho (sn * z) sn rfl (by omega)
  have fn := firstCells_run (P := P) (w := { w with drawn := w.drawn + 1 }) (z := z) (m := xn) (cap := xc) hn (xn * z) xn rfl (by omega)
  rw [List.take_of_length_le (by omega)] at fo fn
  simp only [Builtin.append_, List.getElem?_toArray, List.getElem?_cons_zero, List.getElem?_cons_succ, Sem.run_bind, run_underlying ht, run_underlying hu, Result.andThen_ok, size_run hz, Sem.run_pure, Bool.false_eq_true, if_false, Builtin.lenOf]
  rw [if_neg h1]
  simp only [Sem.run_bind, hinfo, Result.andThen_ok, hib]
  rw [if_neg h3]
  simp only [Sem.run_bind, hinfo, Result.andThen_ok, hib]
  rw [if_neg (by omega)]
  simp only [Sem.run_bind, hch, Result.andThen_ok, hinfo, hib, ask_run, fo, fn, hzv, hzc, newRow_run, Sem.run_pure, Bool.not_false, if_true]
  have : (os ++ ns).toArray ++ Builtin.zeroCells zero.toArray (cap - (sn + xn)) = (os ++ (ns ++ (Builtin.zeroCells zero.toArray (cap - (sn + xn))).toList)).toArray := by
    apply Array.ext'; simp
  simp [this]
theorem append_in {t u e : TypeId} {ty : TypeId} {z : Nat} (ht : P.underlying t = some (.slice e)) (hu : ∃ e', P.underlying u = some (.slice e')) (hz : sizeT P e = some z)
    {sb xb : Option Addr} {sn sc xn xc : Nat} {ns : List Value} (hle : sn + xn ≤ sc)
    (hn : ∀ (j : Nat) (v : Value), ns[j]? = some v → ∃ a', xb = some a' ∧ w.cell? (a'.add j) = some v) (hnl : ns.length = xn * z) {w' : World}
    (hst : match sb with | some a => (storeCells (a.add (sn * z)) ns).run P w = .ok () w' | none => w' = w) :
      (Builtin.append_ #[t, u] ty #[.slice sb sn sc, .slice xb xn xc]).run P w = .ok (.slice sb (sn + xn) sc) w' := by
  obtain ⟨e', hu⟩ := hu
  have fn := firstCells_run (P := P) (w := w) (z := z) (m := xn) (cap := xc) hn (xn * z) xn rfl (by omega)
  rw [List.take_of_length_le (by omega)] at fn
  simp only [Builtin.append_, List.getElem?_toArray, List.getElem?_cons_zero, List.getElem?_cons_succ, Sem.run_bind, run_underlying ht, run_underlying hu, Result.andThen_ok, size_run hz, Sem.run_pure, Bool.false_eq_true, if_false, Builtin.lenOf]
  rw [if_pos hle]
  cases sb with
  | none => subst hst; simp [Sem.run_bind, fn]
  | some a => simp only at hst; simp [Sem.run_bind, fn, hst]
theorem wr_junk (cs ds : List AV) : wr (cs ++ List.replicate ds.length .junk) cs.length ds = cs ++ ds := by
  unfold wr
  rw [List.take_left' rfl, List.drop_of_length_le (by simp), List.append_nil]
theorem app_step {o : Oper} {c : Call} {t u e : TypeId} {z bytes base : Nat} {zero : List Value} {s x : Operand} (ho : o.op = .call c) (hc : c.callee = .builtin .append) (hargs : c.args = #[s, x]) (hat : c.argTypes = #[t, u])
    (ht : P.underlying t = some (.slice e)) (hu : ∃ e', P.underlying u = some (.slice e')) (hz : sizeT P e = some z) (hb : bytesT P e = some bytes) (hze : zeroT P e = some zero)
    (hzl : zero.length = z) (h0 : 0 < z) (hb0 : 0 < bytes) (h : BInv cx D ρ H w) (hT : RepL D ρ T tmps)
    (hs : (er T H base (.app z bytes s x)).1) : StepTo P cx D ρ tmps o w (er T H base (.app z bytes s x)).2.1 (er T H base (.app z bytes s x)).2.2 := by
  have hE : ∀ (S X : Value), Act.eval ⟨tmps.toArray, []⟩ s = S → Act.eval ⟨tmps.toArray, []⟩ x = X → ∀ w, (execOp (Act.eval ⟨tmps.toArray, []⟩) o).run P w = ((Builtin.append_ #[t, u] o.type #[S, X]).run P w).andThen fun v w' => .ok (.value v) w' := by
    intro S X hS hX w
    simp [execOp, ho, resolve, hc, hargs, hat, invoke, builtin, hS, hX, Sem.run_bind]
  have hrs := ev_rep hT s
  have hrx := ev_rep hT x
  simp only [er] at hs ⊢
  split at hs
  · -- onto nil
    rename_i n0 c0 hsv
    obtain ⟨hs1, hs2, hs3, hs4⟩ := hs
    rw [hsv] at hrs hs1
    simp only [Rep] at hrs
    simp only [slEl] at hs1
    obtain ⟨rfl, rfl⟩ := hs1
    obtain ⟨xb, xc, ns, hxv, hxle, hns, hnsl, hnc⟩ := slEl_sound h0 h.inv hrx hs2
    generalize hm : (slEl z H (ev T x)).2.1 = m at *
    generalize hxs : (slEl z H (ev T x)).2.2 = xs at *
    rcases Nat.eq_zero_or_pos m with rfl | hmp
    · have hx0 : xs = [] := by
        have := hns.length; rw [hnsl] at this; simpa using this
      subst hx0
      have := append_in (P := P) (w := w) (ty := o.type) (sb := none) (sn := 0) (sc := 0) (xb := xb) (xn := 0) (xc := xc) ht hu hz (Nat.le_refl _) hnc hnsl (w' := w) rfl
      refine ⟨.value (.slice none 0 0), w, _, by rw [hE _ _ hrs hxv, this]; rfl, .inr ⟨_, rfl, ?_⟩, h.ghost, Env.le_append _ _⟩
      simp only [Rep]
      exact ⟨_, none, 0, Env.loc?_snoc h.inv.len _, rfl, Nat.le_refl _, fun _ => by simp, .inl rfl⟩
    · obtain ⟨cap, hcap, rest, hrest, hrun⟩ := append_grow (P := P) (w := w) (ty := o.type) (os := []) (sb := none) (sn := 0) (sc := 0) (xb := xb) (xn := m) (xc := xc) ht hu hz hb hze hb0 (by omega) (by simpa using hs4) (fun j v h => by simp at h) (by simp) hnc hnsl
      have hpush := h.drew.push (t := e) hns rest
      refine ⟨.value (.slice (some ⟨w.heap.size, 0, none⟩) (0 + m) cap), _, _, by rw [hE _ _ hrs hxv, hrun]; rfl, .inr ⟨_, rfl, ?_⟩, by simpa using hpush, Env.le_append _ _⟩
      simp only [Rep]
      refine ⟨_, _, cap, Env.loc?_snoc h.inv.len _, by rw [Nat.zero_add]; rfl, by omega, fun _ => ?_, .inr rfl⟩
      simp only [List.length_append, hnsl, hrest, hzl, Nat.zero_add]
      rw [Nat.sub_mul]
      have : (0 + m) * z ≤ cap * z := Nat.mul_le_mul_right _ hcap
      simp only [Nat.zero_add] at this ⊢
      omega
  · -- onto a slice of one's own
    rename_i i z' off n hsv
    split at hs
    · rename_i cs hcs
      obtain ⟨rfl, hend, hs2, hs3, hs4⟩ := hs
      rw [hsv] at hrs
      simp only [Rep] at hrs
      obtain ⟨l, sb, sc, hl, hS, hnsc, hext, hsb⟩ := hrs
      have hext := hext trivial
      have hi := getD_c hcs
      obtain ⟨l', g1, hseg⟩ := h.inv.seg i cs hi
      rw [hl] at g1; injection g1 with g1; subst g1
      obtain ⟨us, hus, hucell⟩ := seg_vals hseg
      obtain ⟨xb, xc, ns, hxv, hxle, hns, hnsl, hnc⟩ := slEl_sound h0 h.inv hrx hs2
      generalize hm : (slEl z' H (ev T x)).2.1 = m at *
      generalize hxs : (slEl z' H (ev T x)).2.2 = xs at *
      have hxl : xs.length = m * z' := by rw [hns.length, hnsl]
      by_cases hfit : n + m ≤ sc
      · -- in place
        have hcap : n * z' + m * z' ≤ sc * z' := by rw [← Nat.add_mul]; exact Nat.mul_le_mul_right _ hfit
        have hrev := h.reveal hi hl (m * z') (by omega)
        have hiH : i < H.length := (List.getElem?_eq_some_iff.1 hi).1
        have hi1 := List.getElem?_set_self (a := Sg.c (cs ++ List.replicate (m * z') .junk)) hiH
        obtain ⟨w', hw', hb'⟩ := storeCells_run (P := P) xs ns 0 (off + n * z') i _ l _ w hrev hi1 hl hns hs3 (by simp; omega)
        rw [List.set_set, Nat.add_zero, hend, ← hxl, wr_junk] at hb'
        have hi2 : (H.set i (.c (cs ++ xs)))[i]? = some (.c (cs ++ xs)) := List.getElem?_set_self hiH
        have hsl := hb'.slide hi2 hl off (sc * z') (by simp; omega) hext
        rw [List.set_set, List.drop_append_of_le_length (by omega)] at hsl
        have hrun := append_in (P := P) (w := w) (ty := o.type) (sb := sb) (sn := n) (sc := sc) (xb := xb) (xn := m) (xc := xc) ht hu hz hfit hnc hnsl (w' := w') (by
          rcases hsb with h00 | hsb
          · have : m = 0 := by omega
            subst this
            have : ns = [] := by rw [Nat.zero_mul] at hnsl; exact List.length_eq_zero_iff.1 hnsl
            subst this
            have hww : w' = w := by simp [storeCells] at hw'; exact hw'.symm
            subst hww
            cases sb with
            | none => rfl
            | some a => simp [storeCells]
          · subst hsb
            simp only
            rw [Loc.at_add]; exact hw')
        refine ⟨.value (.slice sb (n + m) sc), w', _, by rw [hE _ _ hS hxv, hrun]; rfl, .inr ⟨_, rfl, ?_⟩, hsl, Env.le_append _ _⟩
        simp only [Rep]
        refine ⟨⟨l.blk, l.off + off, sc * z'⟩, sb, sc, Env.loc?_snoc h.inv.len _, rfl, hfit, fun _ => by simp, ?_⟩
        · rcases hsb with h00 | hsb
          · exact .inl h00
          · right; rw [hsb]; simp [Loc.at]
      · -- a new row
        obtain ⟨cap, hcap, rest, hrest, hrun⟩ := append_grow (P := P) (w := w) (ty := o.type) (os := us.drop off) (sb := sb) (sn := n) (sc := sc) (xb := xb) (xn := m) (xc := xc) ht hu hz hb hze hb0 (by omega) (by simpa using hs4)
          (fun j v hj => by
            rw [List.getElem?_drop] at hj
            have hlt : off + j < us.length := (List.getElem?_eq_some_iff.1 hj).1
            rw [← hus.length, ← hend] at hlt
            have hn0 : 0 < n := by
              rcases Nat.eq_zero_or_pos n with e0 | e0
              · subst e0; rw [Nat.zero_mul] at hlt; omega
              · exact e0
            have hsb := hsb.resolve_left (by omega)
            subst hsb
            exact ⟨_, rfl, by rw [Loc.at_add]; exact hucell _ v hj⟩) (by rw [List.length_drop, ← hus.length]; omega) hnc hnsl
        have hpush := (h.kill i).drew.push (t := e) ((hus.drop off).append hns) rest
        have hHl : (H.set i .dead).length = H.length := by simp
        refine ⟨.value (.slice (some ⟨w.heap.size, 0, none⟩) (n + m) cap), _, _, by rw [hE _ _ hS hxv, hrun]; rfl, .inr ⟨_, rfl, ?_⟩, by simpa using hpush, Env.le_append _ _⟩
        simp only [Rep]
        refine ⟨_, _, cap, Env.loc?_snoc h.inv.len _, rfl, hcap, fun _ => ?_, .inr rfl⟩
        simp only [List.length_append, List.length_drop, hnsl, hrest, hzl, ← hus.length]
        rw [Nat.sub_mul, Nat.add_mul]
        have : (n + m) * z' ≤ cap * z' := Nat.mul_le_mul_right _ hcap
        rw [Nat.add_mul] at this
        omega
    · exact hs.elim
  · exact hs.elim
theorem cpy_step {o : Oper} {c : Call} {t u e : TypeId} {z base : Nat} {d s : Operand} (ho : o.op = .call c) (hc : c.callee = .builtin .copy) (hargs : c.args = #[d, s]) (hat : c.argTypes = #[t, u])
    (ht : P.underlying t = some (.slice e)) (hz : sizeT P e = some z) (h0 : 0 < z) (h : BInv cx D ρ H w) (hT : RepL D ρ T tmps)
    (hs : (er T H base (.cpy z d s)).1) : StepTo P cx D ρ tmps o w (er T H base (.cpy z d s)).2.1 (er T H base (.cpy z d s)).2.2 := by
  have hrd := ev_rep hT d
  have hrs := ev_rep hT s
  simp only [er] at hs ⊢
  split at hs
  · rename_i i z' off n b hdv
    split at hs
    · rename_i cs hcs
      obtain ⟨rfl, hle, hs2, hs3⟩ := hs
      rw [hdv] at hrd
      simp only [Rep] at hrd
      obtain ⟨l, db, dc, hl, hD, hnc, _, hdb⟩ := hrd
      have hi := getD_c hcs
      obtain ⟨xb, xc, ns, hxv, hxle, hns, hnsl, hncell⟩ := slEl_sound h0 h.inv hrs hs2
      generalize hm : (slEl z' H (ev T s)).2.1 = m at *
      generalize hxs : (slEl z' H (ev T s)).2.2 = xs at *
      have hkle : min m n * z' ≤ m * z' := Nat.mul_le_mul_right _ (Nat.min_le_left _ _)
      have hkle2 : min m n * z' ≤ n * z' := Nat.mul_le_mul_right _ (Nat.min_le_right _ _)
      have fc := firstCells_run (P := P) (w := w) (z := z') (m := m) (cap := xc) hncell (min m n * z') (min m n) rfl (by omega)
      have hxl : xs.length = m * z' := by rw [hns.length, hnsl]
      obtain ⟨w', hw', hb'⟩ := storeCells_run (P := P) (xs.take (min m n * z')) (ns.take (min m n * z')) 0 off i cs l H w h hi hl (hns.take _) hs3 (by rw [List.length_take]; omega)
      refine ⟨.value (.int .i64 (min m n : Nat)), w', ρ, ?_, .inr ⟨_, rfl, by simp [Rep]⟩, by simpa using hb', Env.Le.refl _⟩
      have hmin : Nat.min m n = min m n := rfl
      simp only [execOp, ho, resolve, hc, hargs, hat, invoke, builtin, Sem.run_bind, Sem.run_pure, Result.andThen_ok]
      simp only [List.map_toArray, List.map_cons, List.map_nil, hD, hxv, Builtin.copy_, List.getElem?_toArray, List.getElem?_cons_zero, List.getElem?_cons_succ, Sem.run_bind, run_underlying ht, Result.andThen_ok, Builtin.lenOf, Sem.run_pure, size_run hz, hmin, fc]
      rcases hdb with h00 | hdb
      · have hn0 : n = 0 := by omega
        subst hn0
        have hww : w' = w := by simp [storeCells] at hw'; exact hw'.symm
        subst hww
        have e0 : min m 0 = 0 := by omega
        cases db with
        | none => simp [goInt, e0]
        | some a => simp [goInt, storeCells, e0]
      · subst hdb
        simp [Sem.run_bind, hw', goInt]
    · exact hs.elim
  · exact hs.elim
end
end Go.Proofs.Lite

namespace Go.Proofs.Lite
open Go
def unAt : LOp → LOp
  | .allocAt _ z => .alloc z
  | .boxAt _ x => .box x
  | .bslAt _ z len zero parts => .bsl z len zero parts
  | l => l
/-- The operation from which a stripped one comes. -/
theorem strip_alloc {P : Program} {op : Op} {z : List Value} (h : stripOp P op = some (.alloc z)) : ∃ t, op = .alloc t ∧ zeroT P t = some z := by
  cases op with
  | alloc t => simp only [stripOp, Option.map_eq_some_iff] at h; obtain ⟨z', hz, e⟩ := h; injection e with e; subst e; exact ⟨t, rfl, hz⟩
  | _ => exact absurd h (by intro hs; simp only [stripOp] at hs; (repeat' (split at hs)) <;> first | contradiction | simp [Option.bind_eq_some_iff, Option.map_eq_some_iff] at hs)
theorem strip_box {P : Program} {op : Op} {x : Operand} (h : stripOp P op = some (.box x)) : ∃ t, op = .box t x := by
  cases op with
  | box t x' => simp only [stripOp, Option.some.injEq] at h; injection h with e; subst e; exact ⟨t, rfl⟩
  | _ => exact absurd h (by intro hs; simp only [stripOp] at hs; (repeat' (split at hs)) <;> first | contradiction | simp [Option.bind_eq_some_iff, Option.map_eq_some_iff] at hs)
theorem strip_store {P : Program} {op : Op} {n : Nat} {x v : Operand} (h : stripOp P op = some (.store n x v)) : ∃ t, op = .store t x v ∧ sizeT P t = some n := by
  cases op with
  | store t x' v' => simp only [stripOp, Option.map_eq_some_iff] at h; obtain ⟨n', hn, e⟩ := h; injection e with e1 e2 e3; subst e1 e2 e3; exact ⟨t, rfl, hn⟩
  | _ => exact absurd h (by intro hs; simp only [stripOp] at hs; (repeat' (split at hs)) <;> first | contradiction | simp [Option.bind_eq_some_iff, Option.map_eq_some_iff] at hs)
theorem strip_bsl {P : Program} {op : Op} {z len : Nat} {zero : List Value} {parts : List (Nat × Operand)} (h : stripOp P op = some (.bsl z len zero parts)) :
    ∃ t e ps, op = .buildSlice t len ps ∧ parts = ps.toList ∧ P.underlying t = some (.slice e) ∧ sizeT P e = some z ∧ zeroT P e = some zero ∧ zero.length = z ∧ 0 < z ∧ len * z ≤ 2 ^ 24 := by
  cases op with
  | buildSlice t len' ps =>
    simp only [stripOp] at h
    split at h
    · rename_i e hu
      simp only [Option.bind_eq_some_iff] at h
      obtain ⟨z', hz, zero', hze, h⟩ := h
      split at h
      · rename_i hc
        simp only [Option.some.injEq] at h
        injection h with e1 e2 e3 e4; subst e1 e2 e3 e4
        exact ⟨t, e, ps, rfl, rfl, hu, hz, hze, hc.1, hc.2.1, hc.2.2⟩
      · cases h
    · cases h
  | _ => exact absurd h (by intro hs; simp only [stripOp] at hs; (repeat' (split at hs)) <;> first | contradiction | simp [Option.bind_eq_some_iff, Option.map_eq_some_iff] at hs)
theorem strip_msl {P : Program} {op : Op} {z b : Nat} {zero : List Value} {l c : Operand} (h : stripOp P op = some (.msl z b zero l c)) :
    ∃ t e, op = .makeSlice t l c ∧ P.underlying t = some (.slice e) ∧ sizeT P e = some z ∧ bytesT P e = some b ∧ zeroT P e = some zero ∧ zero.length = z ∧ 0 < z ∧ 0 < b := by
  cases op with
  | makeSlice t l' c' =>
    simp only [stripOp] at h
    split at h
    · rename_i e hu
      simp only [Option.bind_eq_some_iff] at h
      obtain ⟨z', hz, b', hb, zero', hze, h⟩ := h
      split at h
      · rename_i hc
        simp only [Option.some.injEq] at h
        injection h with e1 e2 e3 e4 e5; subst e1 e2 e3 e4 e5
        exact ⟨t, e, rfl, hu, hz, hb, hze, hc.1, hc.2.1, hc.2.2⟩
      · cases h
    · cases h
  | _ => exact absurd h (by intro hs; simp only [stripOp] at hs; (repeat' (split at hs)) <;> first | contradiction | simp [Option.bind_eq_some_iff, Option.map_eq_some_iff] at hs)
theorem strip_app {P : Program} {op : Op} {z b : Nat} {s x : Operand} (h : stripOp P op = some (.app z b s x)) :
    ∃ c t u e e' zero, op = .call c ∧ c.callee = .builtin .append ∧ c.args = #[s, x] ∧ c.argTypes = #[t, u] ∧ P.underlying t = some (.slice e) ∧ P.underlying u = some (.slice e') ∧
      sizeT P e = some z ∧ bytesT P e = some b ∧ zeroT P e = some zero ∧ zero.length = z ∧ 0 < z ∧ 0 < b := by
  cases op with
  | call c =>
    simp only [stripOp] at h
    split at h
    · (repeat' (split at h)) <;> simp at h
    · simp at h
    · (repeat' (split at h)) <;> simp at h
    · rename_i hc
      split at h
      · rename_i s' x' t u hargs hat
        split at h
        · rename_i e e' hu hu'
          simp only [Option.bind_eq_some_iff] at h
          obtain ⟨z', hz, b', hb, zero', hze, h⟩ := h
          split at h
          · rename_i hcond
            simp only [Option.some.injEq] at h
            injection h with e1 e2 e3 e4; subst e1 e2 e3 e4
            exact ⟨c, t, u, e, e', zero', rfl, hc, by apply Array.ext'; simpa using hargs, by apply Array.ext'; simpa using hat, hu, hu', hz, hb, hze, hcond.1, hcond.2.1, hcond.2.2⟩
          · cases h
        · cases h
      · cases h
    · (repeat' (split at h)) <;> simp [Option.bind_eq_some_iff] at h
    · simp at h
    · simp at h
    · cases h
  | _ => exact absurd h (by intro hs; simp only [stripOp] at hs; (repeat' (split at hs)) <;> first | contradiction | simp [Option.bind_eq_some_iff, Option.map_eq_some_iff] at hs)
theorem strip_cpy {P : Program} {op : Op} {z : Nat} {d s : Operand} (h : stripOp P op = some (.cpy z d s)) :
    ∃ c t u e e', op = .call c ∧ c.callee = .builtin .copy ∧ c.args = #[d, s] ∧ c.argTypes = #[t, u] ∧ P.underlying t = some (.slice e) ∧ P.underlying u = some (.slice e') ∧ sizeT P e = some z ∧ 0 < z := by
  cases op with
  | call c =>
    simp only [stripOp] at h
    split at h
    · (repeat' (split at h)) <;> simp at h
    · simp at h
    · (repeat' (split at h)) <;> simp at h
    · (repeat' (split at h)) <;> simp [Option.bind_eq_some_iff] at h
    · rename_i hc
      split at h
      · rename_i s' x' t u hargs hat
        split at h
        · rename_i e e' hu hu'
          simp only [Option.bind_eq_some_iff] at h
          obtain ⟨z', hz, h⟩ := h
          split at h
          · rename_i hcond
            simp only [Option.some.injEq] at h
            injection h with e1 e2 e3; subst e1 e2 e3
            exact ⟨c, t, u, e, e', rfl, hc, by apply Array.ext'; simpa using hargs, by apply Array.ext'; simpa using hat, hu, hu', hz, hcond⟩
          · cases h
        · cases h
      · cases h
    · simp at h
    · simp at h
    · cases h
  | _ => exact absurd h (by intro hs; simp only [stripOp] at hs; (repeat' (split at hs)) <;> first | contradiction | simp [Option.bind_eq_some_iff, Option.map_eq_some_iff] at hs)
section
variable {P : Program} {cx : Cx} {D : Store} {ρ : Env} {H : Heap} {w : World} {T : List AV} {tmps : List Value}
theorem er_sound {o : Oper} {lop : LOp} {base : Nat} (hs : stripOp P o.op = some (unAt lop)) (h : BInv cx D ρ H w) (hT : RepL D ρ T tmps) (hside : (er T H base lop).1) :
    StepTo P cx D ρ tmps o w (er T H base lop).2.1 (er T H base lop).2.2 := by
  cases lop with
  | alloc z =>
    obtain ⟨t, ho, hz⟩ := strip_alloc hs
    exact new_push h (RepL.raws z) (alloc_run ho hz w)
  | allocAt r z =>
    obtain ⟨t, ho, hz⟩ := strip_alloc hs
    exact new_fill h (isRes_get hside) (RepL.raws z) (alloc_run ho hz w)
  | box x =>
    obtain ⟨t, ho⟩ := strip_box hs
    obtain ⟨vs, hvs, hvr⟩ := cells_rep (ev_rep hT x) hside
    exact new_push h hvr (box_run ho hvs w)
  | boxAt r x =>
    obtain ⟨t, ho⟩ := strip_box hs
    obtain ⟨vs, hvs, hvr⟩ := cells_rep (ev_rep hT x) hside.1
    exact new_fill h (isRes_get hside.2) hvr (box_run ho hvs w)
  | store n x v =>
    obtain ⟨t, ho, hn⟩ := strip_store hs
    exact store_step ho hn h hT hside
  | bsl z len zero parts =>
    obtain ⟨t, e, ps, ho, rfl, hu, hz, hze, h1, h2, h3⟩ := strip_bsl hs
    exact bsl_step ho hu hz hze h1 h2 h3 h hT hside
  | bslAt r z len zero parts =>
    obtain ⟨t, e, ps, ho, rfl, hu, hz, hze, h1, h2, h3⟩ := strip_bsl hs
    exact bslAt_step ho hu hz hze h1 h2 h3 h hT hside
  | msl z b zero l c =>
    obtain ⟨t, e, ho, hu, hz, hb, hze, h1, h2, h3⟩ := strip_msl hs
    exact msl_step ho hu hz hb hze h1 h2 h3 h hT hside
  | app z b s x =>
    obtain ⟨c, t, u, e, e', zero, ho, hc, hargs, hat, hu, hu', hz, hb, hze, h1, h2, h3⟩ := strip_app hs
    exact app_step ho hc hargs hat hu ⟨e', hu'⟩ hz hb hze h1 h2 h3 h hT hside
  | cpy z d s =>
    obtain ⟨c, t, u, e, e', ho, hc, hargs, hat, hu, hu', hz, h1⟩ := strip_cpy hs
    exact cpy_step ho hc hargs hat hu hz h1 h hT hside
  | _ => exact hside.elim
end
end Go.Proofs.Lite

namespace Go.Proofs.Lite
open Go
/-- Where the callee's segment number k lies with the caller. -/
def rix (e : List (Nat × Nat)) (m k : Nat) : Nat × Nat := (e[k]?).getD (m + (k - e.length), 0)
mutual
def ren (e : List (Nat × Nat)) (m : Nat) : AV → AV
  | .ptr k o => .ptr (rix e m k).1 ((rix e m k).2 + o)
  | .sl k z o n b => .sl (rix e m k).1 z ((rix e m k).2 + o) n b
  | .agg cs => .agg (renL e m cs)
  | .tup cs => .tup (renL e m cs)
  | .fn f cs => .fn f (renL e m cs)
  | .mp k => .mp (rix e m k).1
  | .junk => .junk
  | .raw v => .raw v
  | .ro z n cs => .ro z n cs
  | .rp cs => .rp cs
def renL (e : List (Nat × Nat)) (m : Nat) : List AV → List AV
  | [] => []
  | c :: cs => ren e m c :: renL e m cs
end
theorem renL_length (e m) : ∀ cs, (renL e m cs).length = cs.length
  | [] => rfl
  | c :: cs => by simp only [renL, List.length_cons, renL_length e m cs]
theorem renL_get (e : List (Nat × Nat)) (m : Nat) : ∀ (cs : List AV) (j : Nat), (renL e m cs)[j]? = (cs[j]?).map (ren e m)
  | [], j => by simp [renL]
  | c :: cs, 0 => by simp [renL]
  | c :: cs, j + 1 => by simp [renL, renL_get e m cs j]
mutual
/-- No reference to memory of one's own; nothing that stays for ever either. -/
def clean : AV → Prop
  | .ptr _ _ | .sl _ _ _ _ _ | .mp _ | .ro _ _ _ | .rp _ => False
  | .agg cs | .tup cs | .fn _ cs => cleanL cs
  | .junk | .raw _ => True
def cleanL : List AV → Prop
  | [] => True
  | c :: cs => clean c ∧ cleanL cs
end
mutual
theorem clean_rep {D D' : Store} {ρ ρ' : Env} : ∀ (a : AV) (x : Value), clean a → Rep D ρ a x → Rep D' ρ' a x
  | .junk, _, _, _ => by simp [Rep]
  | .raw _, _, _, h => by simpa [Rep] using h
  | .agg cs, _, hc, h => by
    simp only [Rep] at h ⊢; obtain ⟨vs, h1, h2⟩ := h; exact ⟨vs, h1, cleanL_rep cs vs (by simpa [clean] using hc) h2⟩
  | .tup cs, _, hc, h => by
    simp only [Rep] at h ⊢; obtain ⟨vs, h1, h2⟩ := h; exact ⟨vs, h1, cleanL_rep cs vs (by simpa [clean] using hc) h2⟩
  | .fn f cs, _, hc, h => by
    simp only [Rep] at h ⊢; obtain ⟨vs, h1, h2⟩ := h; exact ⟨vs, h1, cleanL_rep cs vs (by simpa [clean] using hc) h2⟩
  | .ptr _ _, _, hc, _ => by simp [clean] at hc
  | .sl _ _ _ _ _, _, hc, _ => by simp [clean] at hc
  | .mp _, _, hc, _ => by simp [clean] at hc
  | .ro _ _ _, _, hc, _ => by simp [clean] at hc
  | .rp _, _, hc, _ => by simp [clean] at hc
theorem cleanL_rep {D D' : Store} {ρ ρ' : Env} : ∀ (cs : List AV) (vs : List Value), cleanL cs → RepL D ρ cs vs → RepL D' ρ' cs vs
  | [], [], _, _ => by simp [RepL]
  | c :: cs, v :: vs, hc, h => by
    simp only [cleanL] at hc
    simp only [RepL] at h ⊢
    exact ⟨clean_rep c v hc.1 h.1, cleanL_rep cs vs hc.2 h.2⟩
  | [], _ :: _, _, h => by simp [RepL] at h
  | _ :: _, [], _, h => by simp [RepL] at h
end
theorem cleanL_get : ∀ {cs : List AV} {j : Nat} {c : AV}, cleanL cs → cs[j]? = some c → clean c
  | _ :: _, 0, _, h, hc => by simp only [cleanL] at h; simp at hc; subst hc; exact h.1
  | _ :: _, j + 1, _, h, hc => by simp only [cleanL] at h; exact cleanL_get h.2 (by simpa using hc)
  | [], _, _, _, hc => by simp at hc
mutual
/-- Nothing that stays for ever. -/
def noro : AV → Prop
  | .ro _ _ _ | .rp _ => False
  | .agg cs | .tup cs | .fn _ cs => noroL cs
  | .junk | .raw _ | .ptr _ _ | .sl _ _ _ _ _ | .mp _ => True
def noroL : List AV → Prop
  | [] => True
  | c :: cs => noro c ∧ noroL cs
end
mutual
theorem noro_rep {D D' : Store} {ρ : Env} : ∀ (a : AV) (x : Value), noro a → Rep D ρ a x → Rep D' ρ a x
  | .junk, _, _, _ => by simp [Rep]
  | .raw _, _, _, h => by simpa [Rep] using h
  | .ptr _ _, _, _, h => by simpa [Rep] using h
  | .sl _ _ _ _ _, _, _, h => by simpa [Rep] using h
  | .mp _, _, _, h => by simpa [Rep] using h
  | .agg cs, _, hc, h => by
    simp only [Rep] at h ⊢; obtain ⟨vs, h1, h2⟩ := h; exact ⟨vs, h1, noroL_rep cs vs (by simpa [noro] using hc) h2⟩
  | .tup cs, _, hc, h => by
    simp only [Rep] at h ⊢; obtain ⟨vs, h1, h2⟩ := h; exact ⟨vs, h1, noroL_rep cs vs (by simpa [noro] using hc) h2⟩
  | .fn f cs, _, hc, h => by
    simp only [Rep] at h ⊢; obtain ⟨vs, h1, h2⟩ := h; exact ⟨vs, h1, noroL_rep cs vs (by simpa [noro] using hc) h2⟩
  | .ro _ _ _, _, hc, _ => by simp [noro] at hc
  | .rp _, _, hc, _ => by simp [noro] at hc
theorem noroL_rep {D D' : Store} {ρ : Env} : ∀ (cs : List AV) (vs : List Value), noroL cs → RepL D ρ cs vs → RepL D' ρ cs vs
  | [], [], _, _ => by simp [RepL]
  | c :: cs, v :: vs, hc, h => by
    simp only [noroL] at hc
    simp only [RepL] at h ⊢
    exact ⟨noro_rep c v hc.1 h.1, noroL_rep cs vs hc.2 h.2⟩
  | [], _ :: _, _, h => by simp [RepL] at h
  | _ :: _, [], _, h => by simp [RepL] at h
end
mutual
theorem noro_clean : ∀ a : AV, clean a → noro a
  | .agg cs, h => by simp only [noro]; exact noroL_clean cs (by simpa [clean] using h)
  | .tup cs, h => by simp only [noro]; exact noroL_clean cs (by simpa [clean] using h)
  | .fn f cs, h => by simp only [noro]; exact noroL_clean cs (by simpa [clean] using h)
  | .junk, _ => by simp [noro]
  | .raw _, _ => by simp [noro]
  | .ro .., h => by simp [clean] at h
  | .rp .., h => by simp [clean] at h
  | .ptr _ _, h => by simp [noro]
  | .sl _ _ _ _ _, h => by simp [noro]
  | .mp _, h => by simp [noro]
theorem noroL_clean : ∀ cs : List AV, cleanL cs → noroL cs
  | [], _ => by simp [noroL]
  | c :: cs, h => by simp only [cleanL] at h; simp only [noroL]; exact ⟨noro_clean c h.1, noroL_clean cs h.2⟩
end
theorem noroL_get : ∀ {cs : List AV} {j : Nat} {c : AV}, noroL cs → cs[j]? = some c → noro c
  | _ :: _, 0, _, h, hc => by simp only [noroL] at h; simp at hc; subst hc; exact h.1
  | _ :: _, j + 1, _, h, hc => by simp only [noroL] at h; exact noroL_get h.2 (by simpa using hc)
  | [], _, _, _, hc => by simp at hc
/-- How an argument is handed over: as it is, or lent to be read alone. -/
def argOk (e : List (Nat × Nat)) (m : Nat) (H : Heap) (bs : List Nat) (a ac : AV) : Prop :=
  a = ren e m ac ∨
  (∃ i o cs seg, a = .ptr i o ∧ ac = .rp cs ∧ H[i]? = some (.c seg) ∧ i ∈ bs ∧ o + cs.length ≤ seg.length ∧ (seg.drop o).take cs.length = cs ∧ cleanL cs) ∨
  (∃ i z o n b cs seg, a = .sl i z o n b ∧ ac = .ro z n cs ∧ H[i]? = some (.c seg) ∧ i ∈ bs ∧ cs.length = n * z ∧ o + cs.length ≤ seg.length ∧ (seg.drop o).take cs.length = cs ∧ cleanL cs)
def argsOk (e : List (Nat × Nat)) (m : Nat) (H : Heap) (bs : List Nat) : List AV → List AV → Prop
  | [], [] => True
  | a :: as, c :: cs => argOk e m H bs a c ∧ argsOk e m H bs as cs
  | _, _ => False
/-- The callee's segments lie with the caller's. -/
def embOk (e : List (Nat × Nat)) (m : Nat) (H : Heap) (bs : List Nat) : List (Nat × Nat) → Heap → Prop
  | [], [] => True
  | (i, o) :: r, .c cs :: Hc => (i ∉ bs ∧ ∃ seg, H[i]? = some (.c seg) ∧ o + cs.length ≤ seg.length ∧ (seg.drop o).take cs.length = renL e m cs) ∧ embOk e m H bs r Hc
  | _, _ => False
mutual
/-- Slices that may be appended to reach to their segment's end. -/
def slOk (tail : Nat → Bool) : AV → Prop
  | .sl k _ _ _ b => b = true → tail k = true
  | .agg cs | .tup cs | .fn _ cs => slOkL tail cs
  | _ => True
def slOkL (tail : Nat → Bool) : List AV → Prop
  | [] => True
  | c :: cs => slOk tail c ∧ slOkL tail cs
end
def slOkH (tail : Nat → Bool) : Heap → Prop
  | [] => True
  | .c cs :: H => slOkL tail cs ∧ slOkH tail H
  | _ :: H => slOkH tail H
theorem slOkL_get {tail : Nat → Bool} : ∀ {cs : List AV} {j : Nat} {c : AV}, slOkL tail cs → cs[j]? = some c → slOk tail c
  | _ :: _, 0, _, h, hc => by simp only [slOkL] at h; simp at hc; subst hc; exact h.1
  | _ :: _, j + 1, _, h, hc => by simp only [slOkL] at h; exact slOkL_get h.2 (by simpa using hc)
  | [], _, _, _, hc => by simp at hc
theorem slOkH_get {tail : Nat → Bool} : ∀ {H : Heap} {j : Nat} {cs : List AV}, slOkH tail H → H[j]? = some (.c cs) → slOkL tail cs
  | .c _ :: _, 0, _, h, hc => by simp only [slOkH] at h; simp at hc; subst hc; exact h.1
  | .c _ :: _, j + 1, _, h, hc => by simp only [slOkH] at h; exact slOkH_get h.2 (by simpa using hc)
  | .m _ :: _, j + 1, _, h, hc => by simp only [slOkH] at h; exact slOkH_get h (by simpa using hc)
  | .dead :: _, j + 1, _, h, hc => by simp only [slOkH] at h; exact slOkH_get h (by simpa using hc)
  | .res :: _, j + 1, _, h, hc => by simp only [slOkH] at h; exact slOkH_get h (by simpa using hc)
  | .m _ :: _, 0, _, _, hc => by simp at hc
  | .dead :: _, 0, _, _, hc => by simp at hc
  | .res :: _, 0, _, _, hc => by simp at hc
  | [], _, _, _, hc => by simp at hc
def segLen : Sg → Nat
  | .c cs => cs.length
  | _ => 0
/-- Does the callee's segment number k reach to the end of the caller's? -/
def tailB (e : List (Nat × Nat)) (H Hc : Heap) (k : Nat) : Bool :=
  match e[k]? with
  | some (i, o) => o + segLen (Hc.getD k .dead) == segLen (H.getD i .dead)
  | none => false
def renSg (e : List (Nat × Nat)) (m : Nat) : Sg → Sg
  | .c cs => .c (renL e m cs)
  | .m _ => .dead
  | .dead => .dead
  | .res => .dead
def back1 (e : List (Nat × Nat)) (m : Nat) (H : Heap) (i o : Nat) : Sg → Sg → Heap
  | .c cs, .c cs' => match H.getD i .dead with
    | .c seg => if cs'.length = cs.length ∨ o + cs.length = seg.length then H.set i (.c (seg.take o ++ (renL e m cs' ++ seg.drop (o + cs.length)))) else H.set i .dead
    | _ => H.set i .dead
  | _, _ => H.set i .dead
def backs (e : List (Nat × Nat)) (m : Nat) : List (Nat × Nat) → Heap → Heap → Heap → Heap
  | (i, o) :: r, sg :: Hc, sg' :: Hc', H => backs e m r Hc Hc' (back1 e m H i o sg sg')
  | _, _, _, H => H
def back (e : List (Nat × Nat)) (m : Nat) (H Hc Hc' : Heap) : Heap := backs e m e Hc Hc' H ++ (Hc'.drop e.length).map (renSg e m)
def cleanH : Heap → Prop
  | [] => True
  | .c cs :: H => noroL cs ∧ cleanH H
  | .dead :: H => cleanH H
  | _ :: _ => False
theorem cleanH_get : ∀ {H : Heap} {j : Nat} {cs : List AV}, cleanH H → H[j]? = some (.c cs) → noroL cs
  | .c _ :: _, 0, _, h, hc => by simp only [cleanH] at h; simp at hc; subst hc; exact h.1
  | .c _ :: _, j + 1, _, h, hc => by simp only [cleanH] at h; exact cleanH_get h.2 (by simpa using hc)
  | .dead :: _, j + 1, _, h, hc => by simp only [cleanH] at h; exact cleanH_get h (by simpa using hc)
  | .dead :: _, 0, _, _, hc => by simp at hc
  | .m _ :: _, _, _, h, _ => by simp [cleanH] at h
  | .res :: _, _, _, h, _ => by simp [cleanH] at h
  | [], _, _, _, hc => by simp at hc
/-- A call, by a contract. -/
def CallStep (P : Program) (f : FuncId) (args : List AV) (H : Heap) (K : AV → Heap → Prop) : Prop :=
  ∃ (e : List (Nat × Nat)) (bs : List Nat) (argsc : List AV) (Hc : Heap) (R : AV → Heap → Prop),
    Ct P f argsc Hc R ∧ argsOk e H.length H bs args argsc ∧ embOk e H.length H bs e Hc ∧ (e.map (·.1)).Nodup ∧
    slOkL (tailB e H Hc) argsc ∧ slOkH (tailB e H Hc) Hc ∧
    ∀ v Hc', R v Hc' → (bs ≠ [] → noro v ∧ cleanH Hc') ∧ K (ren e H.length v) (back e H.length H Hc Hc')
section
variable {P : Program} {cx : Cx} {D : Store} {ρ : Env} {H : Heap} {w : World}
def mkEnv (ρ : Env) (H Hc : Heap) (e : List (Nat × Nat)) : Env :=
  (List.range e.length).map fun k =>
    let i := (e.getD k (0, 0)).1
    let o := (e.getD k (0, 0)).2
    (Env.loc? ρ i).map fun l => ⟨l.blk, l.off + o, if tailB e H Hc k then l.ext - o else segLen (Hc.getD k .dead)⟩
theorem mkEnv_length (ρ H Hc e) : (mkEnv ρ H Hc e).length = e.length := by simp [mkEnv]
theorem mkEnv_loc {Hc : Heap} {e : List (Nat × Nat)} {k i o : Nat} {l : Loc} (hk : e[k]? = some (i, o)) (hl : Env.loc? ρ i = some l) :
    Env.loc? (mkEnv ρ H Hc e) k = some ⟨l.blk, l.off + o, if tailB e H Hc k then l.ext - o else segLen (Hc.getD k .dead)⟩ := by
  have hlt : k < e.length := (List.getElem?_eq_some_iff.1 hk).1
  unfold Env.loc? mkEnv
  rw [List.getElem?_map, List.getElem?_range hlt]
  simp only [Option.map_some, Option.bind_some, id_eq]
  have : e.getD k (0, 0) = (i, o) := by rw [List.getD_eq_getElem?_getD, hk]; rfl
  rw [this]
  simp only [hl, Option.map_some]
theorem embOk_get {e0 : List (Nat × Nat)} {m : Nat} {bs : List Nat} : ∀ {e : List (Nat × Nat)} {Hc : Heap}, embOk e0 m H bs e Hc → e.length = Hc.length ∧
    ∀ (k i o : Nat), e[k]? = some (i, o) → i ∉ bs ∧ ∃ cs seg, Hc[k]? = some (.c cs) ∧ H[i]? = some (.c seg) ∧ o + cs.length ≤ seg.length ∧ (seg.drop o).take cs.length = renL e0 m cs
  | [], [], _ => ⟨rfl, fun k i o h => by simp at h⟩
  | (i, o) :: r, .c cs :: Hc, h => by
    simp only [embOk] at h
    obtain ⟨⟨hb, seg, h1, h2, h3⟩, h4⟩ := h
    obtain ⟨g1, g2⟩ := embOk_get h4
    refine ⟨by simp [g1], fun k j p hk => ?_⟩
    cases k with
    | zero => simp at hk; obtain ⟨rfl, rfl⟩ := hk; exact ⟨hb, cs, seg, rfl, h1, h2, h3⟩
    | succ k => exact g2 k j p (by simpa using hk)
  | [], _ :: _, h => by simp [embOk] at h
  | _ :: _, [], h => by simp [embOk] at h
  | _ :: _, .dead :: _, h => by simp [embOk] at h
  | _ :: _, .res :: _, h => by simp [embOk] at h
  | _ :: _, .m _ :: _, h => by simp [embOk] at h
mutual
theorem rep_unren {Hc : Heap} {e : List (Nat × Nat)} {m : Nat} (hm : ρ.length ≤ m) : ∀ (a : AV) (x : Value), slOk (tailB e H Hc) a → Rep D ρ (ren e m a) x → Rep D (mkEnv ρ H Hc e) a x
  | .junk, _, _, _ => by simp [Rep]
  | .raw _, _, _, h => by simpa [Rep, ren] using h
  | .ro .., _, _, h => by simpa [Rep, ren] using h
  | .rp _, _, _, h => by simpa [Rep, ren] using h
  | .ptr k o, _, _, h => by
    simp only [ren, Rep] at h ⊢
    obtain ⟨l, h1, h2⟩ := h
    cases hk : e[k]? with
    | none =>
      simp only [rix, hk, Option.getD_none] at h1
      have := Env.loc?_lt h1; omega
    | some q =>
      obtain ⟨i, p⟩ := q
      simp only [rix, hk, Option.getD_some] at h1 h2
      exact ⟨_, mkEnv_loc hk h1, by rw [h2]; simp [Loc.at, Nat.add_assoc]⟩
  | .sl k z o n b, _, hs, h => by
    simp only [ren, Rep] at h ⊢
    simp only [slOk] at hs
    obtain ⟨l, a, cap, h1, h2, h3, h4, h5⟩ := h
    cases hk : e[k]? with
    | none =>
      simp only [rix, hk, Option.getD_none] at h1
      have := Env.loc?_lt h1; omega
    | some q =>
      obtain ⟨i, p⟩ := q
      simp only [rix, hk, Option.getD_some] at h1 h4 h5
      refine ⟨_, a, cap, mkEnv_loc hk h1, h2, h3, fun hb => ?_, ?_⟩
      · have := h4 hb
        simp only [hs hb, if_true]; omega
      · rcases h5 with h5 | h5
        · exact .inl h5
        · right; rw [h5]; simp [Loc.at, Nat.add_assoc]
  | .agg cs, _, hs, h => by
    simp only [ren, Rep] at h ⊢; obtain ⟨vs, h1, h2⟩ := h; exact ⟨vs, h1, repL_unren hm cs vs (by simpa [slOk] using hs) h2⟩
  | .tup cs, _, hs, h => by
    simp only [ren, Rep] at h ⊢; obtain ⟨vs, h1, h2⟩ := h; exact ⟨vs, h1, repL_unren hm cs vs (by simpa [slOk] using hs) h2⟩
  | .fn f cs, _, hs, h => by
    simp only [ren, Rep] at h ⊢; obtain ⟨vs, h1, h2⟩ := h; exact ⟨vs, h1, repL_unren hm cs vs (by simpa [slOk] using hs) h2⟩
  | .mp k, _, _, h => by
    simp only [ren, Rep] at h ⊢
    obtain ⟨l, h1, h2⟩ := h
    cases hk : e[k]? with
    | none =>
      simp only [rix, hk, Option.getD_none] at h1
      have := Env.loc?_lt h1; omega
    | some q =>
      obtain ⟨i, p⟩ := q
      simp only [rix, hk, Option.getD_some] at h1
      exact ⟨_, mkEnv_loc hk h1, by rw [h2]⟩
theorem repL_unren {Hc : Heap} {e : List (Nat × Nat)} {m : Nat} (hm : ρ.length ≤ m) : ∀ (cs : List AV) (vs : List Value), slOkL (tailB e H Hc) cs → RepL D ρ (renL e m cs) vs → RepL D (mkEnv ρ H Hc e) cs vs
  | [], [], _, _ => by simp [RepL]
  | c :: cs, v :: vs, hs, h => by
    simp only [slOkL] at hs
    simp only [renL, RepL] at h ⊢
    exact ⟨rep_unren hm c v hs.1 h.1, repL_unren hm cs vs hs.2 h.2⟩
  | [], _ :: _, _, h => by simp [renL, RepL] at h
  | _ :: _, [], _, h => by simp [renL, RepL] at h
end
mutual
/-- What the callee knows of a value, the caller knows. -/
theorem rep_ren {Hc : Heap} {e : List (Nat × Nat)} {m : Nat} {ρc' ρ' : Env} (hold : ∀ k i o, e[k]? = some (i, o) → ∀ lc, Env.loc? ρc' k = some lc → ∃ l, Env.loc? ρ' i = some l ∧ lc.blk = l.blk ∧ lc.off = l.off + o ∧ o + lc.ext ≤ l.ext)
    (hnew : ∀ k, e.length ≤ k → ∀ lc, Env.loc? ρc' k = some lc → Env.loc? ρ' (m + (k - e.length)) = some lc) : ∀ (a : AV) (x : Value), Rep D ρc' a x → Rep D ρ' (ren e m a) x
  | .junk, _, _ => by simp [Rep, ren]
  | .raw _, _, h => by simpa [Rep, ren] using h
  | .ro .., _, h => by simpa [Rep, ren] using h
  | .rp _, _, h => by simpa [Rep, ren] using h
  | .ptr k o, _, h => by
    simp only [ren, Rep] at h ⊢
    obtain ⟨lc, h1, h2⟩ := h
    cases hk : e[k]? with
    | none =>
      have := hnew k (by rw [List.getElem?_eq_none_iff] at hk; exact hk) lc h1
      simp only [rix, hk, Option.getD_none]
      exact ⟨lc, this, by rw [h2]; simp⟩
    | some q =>
      obtain ⟨i, p⟩ := q
      obtain ⟨l, g1, g2, g3, g4⟩ := hold k i p hk lc h1
      simp only [rix, hk, Option.getD_some]
      exact ⟨l, g1, by rw [h2]; simp [Loc.at, g2, g3, Nat.add_assoc]⟩
  | .sl k z o n b, _, h => by
    simp only [ren, Rep] at h ⊢
    obtain ⟨lc, a, cap, h1, h2, h3, h4, h5⟩ := h
    cases hk : e[k]? with
    | none =>
      have := hnew k (by rw [List.getElem?_eq_none_iff] at hk; exact hk) lc h1
      simp only [rix, hk, Option.getD_none]
      exact ⟨lc, a, cap, this, h2, h3, by simpa using h4, by simpa using h5⟩
    | some q =>
      obtain ⟨i, p⟩ := q
      obtain ⟨l, g1, g2, g3, g4⟩ := hold k i p hk lc h1
      simp only [rix, hk, Option.getD_some]
      refine ⟨l, a, cap, g1, h2, h3, fun hb => by have := h4 hb; omega, ?_⟩
      rcases h5 with h5 | h5
      · exact .inl h5
      · right; rw [h5]; simp [Loc.at, g2, g3, Nat.add_assoc]
  | .agg cs, _, h => by
    simp only [ren, Rep] at h ⊢; obtain ⟨vs, h1, h2⟩ := h; exact ⟨vs, h1, repL_ren (Hc := Hc) hold hnew cs vs h2⟩
  | .tup cs, _, h => by
    simp only [ren, Rep] at h ⊢; obtain ⟨vs, h1, h2⟩ := h; exact ⟨vs, h1, repL_ren (Hc := Hc) hold hnew cs vs h2⟩
  | .fn f cs, _, h => by
    simp only [ren, Rep] at h ⊢; obtain ⟨vs, h1, h2⟩ := h; exact ⟨vs, h1, repL_ren (Hc := Hc) hold hnew cs vs h2⟩
  | .mp k, _, h => by
    simp only [ren, Rep] at h ⊢
    obtain ⟨lc, h1, h2⟩ := h
    cases hk : e[k]? with
    | none =>
      have := hnew k (by rw [List.getElem?_eq_none_iff] at hk; exact hk) lc h1
      simp only [rix, hk, Option.getD_none]
      exact ⟨lc, this, h2⟩
    | some q =>
      obtain ⟨i, p⟩ := q
      obtain ⟨l, g1, g2, g3, g4⟩ := hold k i p hk lc h1
      simp only [rix, hk, Option.getD_some]
      exact ⟨l, g1, by rw [h2, g2]⟩
theorem repL_ren {Hc : Heap} {e : List (Nat × Nat)} {m : Nat} {ρc' ρ' : Env} (hold : ∀ k i o, e[k]? = some (i, o) → ∀ lc, Env.loc? ρc' k = some lc → ∃ l, Env.loc? ρ' i = some l ∧ lc.blk = l.blk ∧ lc.off = l.off + o ∧ o + lc.ext ≤ l.ext)
    (hnew : ∀ k, e.length ≤ k → ∀ lc, Env.loc? ρc' k = some lc → Env.loc? ρ' (m + (k - e.length)) = some lc) : ∀ (cs : List AV) (vs : List Value), RepL D ρc' cs vs → RepL D ρ' (renL e m cs) vs
  | [], [], _ => by simp [RepL, renL]
  | c :: cs, v :: vs, h => by
    simp only [renL, RepL] at h ⊢
    exact ⟨rep_ren (Hc := Hc) hold hnew c v h.1, repL_ren (Hc := Hc) hold hnew cs vs h.2⟩
  | [], _ :: _, h => by simp [RepL] at h
  | _ :: _, [], h => by simp [RepL] at h
end
end
end Go.Proofs.Lite

namespace Go.Proofs.Lite
open Go
section
variable {P : Program} {cx : Cx} {D : Store} {ρ : Env} {H : Heap} {w : World}
theorem back1_length {e m i o sg sg'} : (back1 e m H i o sg sg').length = H.length := by
  unfold back1
  split
  · split
    · split <;> simp
    · simp
  · simp
theorem back1_get_ne {e m i o sg sg'} {j : Nat} (h : i ≠ j) : (back1 e m H i o sg sg')[j]? = H[j]? := by
  unfold back1
  split
  · split
    · split <;> rw [List.getElem?_set_ne h]
    · rw [List.getElem?_set_ne h]
  · rw [List.getElem?_set_ne h]
theorem back1_congr {e m i o sg sg'} {H2 : Heap} (hl : H.length = H2.length) (hi : H[i]? = H2[i]?) : (back1 e m H i o sg sg')[i]? = (back1 e m H2 i o sg sg')[i]? := by
  have hd : H.getD i .dead = H2.getD i .dead := by rw [List.getD_eq_getElem?_getD, List.getD_eq_getElem?_getD, hi]
  unfold back1
  rw [hd]
  split
  · split
    · split <;> simp [List.getElem?_set, hl]
    · simp [List.getElem?_set, hl]
  · simp [List.getElem?_set, hl]
theorem back1_out {e m i o cs sg' sg} (h : (back1 e m H i o (.c cs) sg')[i]? = some sg) :
    sg = .dead ∨ ∃ cs' seg, sg' = .c cs' ∧ H[i]? = some (.c seg) ∧ (cs'.length = cs.length ∨ o + cs.length = seg.length) ∧ sg = .c (seg.take o ++ (renL e m cs' ++ seg.drop (o + cs.length))) := by
  have key : ∀ x : Sg, (H.set i x)[i]? = some sg → sg = x := by
    intro x hx
    rw [List.getElem?_set] at hx
    simp at hx; exact hx.2.symm
  unfold back1 at h
  split at h
  · rename_i c1 c2 hc1
    cases hc1
    split at h
    · rename_i seg hseg
      split at h
      · rename_i hlen
        exact .inr ⟨c2, seg, rfl, getD_c hseg, hlen, key _ h⟩
      · exact .inl (key _ h)
    · exact .inl (key _ h)
  · exact .inl (key _ h)
theorem backs_length {e m} : ∀ {es : List (Nat × Nat)} {Hc Hc' H : Heap}, (backs e m es Hc Hc' H).length = H.length
  | [], _, _, _ => by simp [backs]
  | (i, o) :: r, sg :: Hc, sg' :: Hc', H => by simp only [backs]; rw [backs_length, back1_length]
  | (i, o) :: r, [], _, H => by simp [backs]
  | (i, o) :: r, _ :: _, [], H => by simp [backs]
theorem backs_get_ne {e m} {j : Nat} : ∀ {es : List (Nat × Nat)} {Hc Hc' H : Heap}, j ∉ es.map (·.1) → (backs e m es Hc Hc' H)[j]? = H[j]?
  | [], _, _, _, _ => by simp [backs]
  | (i, o) :: r, sg :: Hc, sg' :: Hc', H, h => by
    simp only [List.map_cons, List.mem_cons, not_or] at h
    simp only [backs]; rw [backs_get_ne h.2, back1_get_ne (Ne.symm h.1)]
  | (i, o) :: r, [], _, H, _ => by simp [backs]
  | (i, o) :: r, _ :: _, [], H, _ => by simp [backs]
theorem backs_get {e m} {i o : Nat} {sg sg' : Sg} : ∀ {es : List (Nat × Nat)} {Hc Hc' H : Heap} {k : Nat}, (es.map (·.1)).Nodup → es[k]? = some (i, o) → Hc[k]? = some sg → Hc'[k]? = some sg' →
    (backs e m es Hc Hc' H)[i]? = (back1 e m H i o sg sg')[i]?
  | (i0, o0) :: r, s :: Hc, s' :: Hc', H, 0, hn, h1, h2, h3 => by
    simp at h1 h2 h3
    obtain ⟨rfl, rfl⟩ := h1
    subst h2 h3
    simp only [List.map_cons, List.nodup_cons] at hn
    simp only [backs]; rw [backs_get_ne hn.1]
  | (i0, o0) :: r, s :: Hc, s' :: Hc', H, k + 1, hn, h1, h2, h3 => by
    simp only [List.getElem?_cons_succ] at h1 h2 h3
    simp only [List.map_cons, List.nodup_cons] at hn
    simp only [backs]; rw [backs_get hn.2 h1 h2 h3]
    have hne : i0 ≠ i := by
      intro e; subst e; exact hn.1 (List.mem_map.2 ⟨_, List.mem_of_getElem? h1, rfl⟩)
    exact back1_congr back1_length (back1_get_ne hne)
  | [], _, _, _, _, _, h, _, _ => by simp at h
  | _ :: _, [], _, _, _, _, _, h, _ => by simp at h
  | _ :: _, _ :: _, [], _, _, _, _, _, h => by simp at h
/-- What is lent. -/
def lent (ρ : Env) (H : Heap) (bs : List Nat) (a : Addr) : Prop := ∃ i l seg j, i ∈ bs ∧ H[i]? = some (.c seg) ∧ Env.loc? ρ i = some l ∧ j < l.ext ∧ a = l.at j
open Classical in
noncomputable def lend (D : Store) (ρ : Env) (H : Heap) (w : World) (bs : List Nat) : Store := fun a => if lent ρ H bs a then w.cell? a else D a
theorem lend_nil : lend D ρ H w [] = D := by
  funext a; unfold lend; rw [if_neg]; rintro ⟨i, l, seg, j, h, _⟩; simp at h
theorem lend_lent {bs : List Nat} {a : Addr} (h : lent ρ H bs a) : lend D ρ H w bs a = w.cell? a := by unfold lend; rw [if_pos h]
theorem lend_not {bs : List Nat} {a : Addr} (h : ¬ lent ρ H bs a) : lend D ρ H w bs a = D a := by unfold lend; rw [if_neg h]
theorem live_c {H : Heap} {i : Nat} {cs : List AV} (h : H[i]? = some (.c cs)) : Live H i := .inl ⟨cs, h⟩
theorem lend_le {bs : List Nat} (hb : Inv0 D ρ H w) : Store.Le D (lend D ρ H w bs) := by
  intro a v ha
  by_cases hl : lent ρ H bs a
  · obtain ⟨i, l, seg, j, h1, h2, h3, h4, rfl⟩ := hl
    obtain ⟨l', h5, h6⟩ := hb.seg _ _ h2
    rw [h3] at h5; cases h5
    obtain ⟨u, _, _, h7, _⟩ := h6.2 j h4
    rw [h7] at ha; cases ha
  · rw [lend_not hl]; exact ha
theorem nodup_inj {α : Type} {l : List α} (h : l.Nodup) {i j : Nat} {x : α} (hi : l[i]? = some x) (hj : l[j]? = some x) : i = j := by
  have a := List.getElem?_eq_some_iff.1 hi
  have b := List.getElem?_eq_some_iff.1 hj
  have hp := List.pairwise_iff_getElem.1 h
  rcases Nat.lt_trichotomy i j with c | c | c
  · exact (hp i j a.1 b.1 c (by rw [a.2, b.2])).elim
  · exact c
  · exact (hp j i b.1 a.1 c (by rw [a.2, b.2])).elim
/-- The callee finds its world in order. -/
theorem call_inv {e : List (Nat × Nat)} {bs : List Nat} {Hc : Heap} (hb : Inv0 D ρ H w) (he : embOk e H.length H bs e Hc) (hn : (e.map (·.1)).Nodup) (hs : slOkH (tailB e H Hc) Hc) :
    Inv0 (lend D ρ H w bs) (mkEnv ρ H Hc e) Hc w := by
  obtain ⟨hel, hg⟩ := embOk_get he
  have get : ∀ (k : Nat) (sg : Sg), Hc[k]? = some sg → ∃ (i o : Nat) (cs seg : List AV) (l : Loc), e[k]? = some (i, o) ∧ i ∉ bs ∧ sg = Sg.c cs ∧ H[i]? = some (.c seg) ∧ o + cs.length ≤ seg.length ∧ (seg.drop o).take cs.length = renL e H.length cs ∧ Env.loc? ρ i = some l ∧ SegOk D ρ w l seg := by
    intro k sg hk
    have hlt : k < e.length := by have := (List.getElem?_eq_some_iff.1 hk).1; omega
    obtain ⟨⟨i, o⟩, hek⟩ : ∃ q, e[k]? = some q := ⟨_, List.getElem?_eq_getElem hlt⟩
    obtain ⟨h1, cs, seg, h2, h3, h4, h5⟩ := hg k i o hek
    rw [hk] at h2; cases h2
    obtain ⟨l, h6, h7⟩ := hb.seg _ _ h3
    exact ⟨i, o, cs, seg, l, hek, h1, rfl, h3, h4, h5, h6, h7⟩
  refine ⟨by rw [mkEnv_length, hel], ?_, ?_, ?_, ?_, ?_⟩
  · intro a v ha
    by_cases hl : lent ρ H bs a
    · rw [lend_lent hl] at ha; exact ha
    · rw [lend_not hl] at ha; exact hb.d _ _ ha
  · intro k cs hk
    obtain ⟨i, o, cs', seg, l, h1, h2, h3, h4, h5, h6, h7, h8⟩ := get k _ hk
    cases h3
    have hgd : segLen (Hc.getD k .dead) = cs.length := by rw [List.getD_eq_getElem?_getD, hk]; rfl
    have hgi : segLen (H.getD i .dead) = seg.length := by rw [List.getD_eq_getElem?_getD, h4]; rfl
    refine ⟨_, mkEnv_loc h1 h7, ?_, ?_⟩
    · simp only []
      have := h8.1
      rw [hgd]
      split <;> omega
    · intro j hj
      have hj' : o + j < l.ext := by
        simp only [] at hj
        rw [hgd] at hj
        have := h8.1
        split at hj <;> omega
      obtain ⟨v, g1, g2, g3, g4⟩ := h8.2 (o + j) hj'
      have hat : Loc.at ⟨l.blk, l.off + o, if tailB e H Hc k then l.ext - o else segLen (Hc.getD k .dead)⟩ j = l.at (o + j) := by simp [Loc.at, Nat.add_assoc]
      rw [hat]
      refine ⟨v, g1, g2, ?_, ?_⟩
      · rw [lend_not, g3]
        rintro ⟨i', l', seg', j', q1, q2, q3, q4, q5⟩
        have : i' ≠ i := fun e => h2 (e ▸ q1)
        exact hb.dis i i' l l' (Ne.symm this) (live_c h4) (live_c q2) h7 q3 (o + j) j' hj' q4 q5
      · intro c hc
        have hcl : j < cs.length := (List.getElem?_eq_some_iff.1 hc).1
        have : (renL e H.length cs)[j]? = some (ren e H.length c) := by rw [renL_get, hc]; rfl
        rw [← h6, List.getElem?_take_of_lt hcl, List.getElem?_drop] at this
        have hr := g4 _ this
        exact rep_unren (by rw [hb.len]; exact Nat.le_refl _) c v (slOkL_get (slOkH_get hs hk) hc) (Rep.mono (lend_le hb) (Env.Le.refl _) _ _ hr)
  · intro k kvs hk
    obtain ⟨i, o, cs', seg, l, h1, h2, h3, _⟩ := get k _ hk
    cases h3
  · intro k hk
    obtain ⟨i, o, cs', seg, l, h1, h2, h3, _⟩ := get k _ hk
    cases h3
  · intro k k' lk lk' hne h1 h2 h3 h4 p q hp hq heq
    obtain ⟨s1, hs1⟩ : ∃ s, Hc[k]? = some s := ⟨_, List.getElem?_eq_getElem h1.lt⟩
    obtain ⟨s2, hs2⟩ : ∃ s, Hc[k']? = some s := ⟨_, List.getElem?_eq_getElem h2.lt⟩
    obtain ⟨i, o, cs, seg, l, a1, a2, a3, a4, a5, a6, a7, a8⟩ := get k _ hs1
    obtain ⟨i', o', cs', seg', l', b1, b2, b3, b4, b5, b6, b7, b8⟩ := get k' _ hs2
    subst a3 b3
    rw [mkEnv_loc a1 a7] at h3
    rw [mkEnv_loc b1 b7] at h4
    injection h3 with h3; injection h4 with h4
    subst h3 h4
    have hii : i ≠ i' := by
      intro h
      apply hne
      have ha : (e.map (·.1))[k]? = some i := by simp [a1]
      have hb' : (e.map (·.1))[k']? = some i := by simp [b1, h]
      exact nodup_inj hn ha hb'
    have hgd : segLen (Hc.getD k .dead) = cs.length := by rw [List.getD_eq_getElem?_getD, hs1]; rfl
    have hgd' : segLen (Hc.getD k' .dead) = cs'.length := by rw [List.getD_eq_getElem?_getD, hs2]; rfl
    simp only [hgd, hgd'] at hp hq
    have ha8 := a8.1
    have hb8 := b8.1
    refine hb.dis i i' l l' hii (live_c a4) (live_c b4) a7 b7 (o + p) (o' + q) (by split at hp <;> omega) (by split at hq <;> omega) ?_
    simp only [Loc.at] at heq ⊢
    simp only [Nat.add_assoc] at heq
    exact heq
end
end Go.Proofs.Lite

namespace Go.Proofs.Lite
open Go
section
variable {P : Program} {cx : Cx} {D : Store} {ρ : Env} {H : Heap} {w : World}
theorem back_lt {e : List (Nat × Nat)} {Hc Hc' : Heap} {j : Nat} (h : j < H.length) : (back e H.length H Hc Hc')[j]? = (backs e H.length e Hc Hc' H)[j]? := by
  unfold back; rw [List.getElem?_append_left (by rw [backs_length]; exact h)]
theorem back_ge {e : List (Nat × Nat)} {Hc Hc' : Heap} {j : Nat} (h : H.length ≤ j) : (back e H.length H Hc Hc')[j]? = (Hc'[e.length + (j - H.length)]?).map (renSg e H.length) := by
  unfold back
  rw [List.getElem?_append_right (by rw [backs_length]; exact h), List.getElem?_map, List.getElem?_drop, backs_length]
theorem loc_ge {ρc : Env} {n j : Nat} (h : ρ.length ≤ j) : Env.loc? (ρ ++ ρc.drop n) j = Env.loc? ρc (n + (j - ρ.length)) := by
  unfold Env.loc?; rw [List.getElem?_append_right h, List.getElem?_drop]
/-- Where the callee's argument segments lie. -/
structure EmbAt (D : Store) (ρ : Env) (H : Heap) (w : World) (bs : List Nat) (e : List (Nat × Nat)) (Hc : Heap) (ρc' : Env) (k i o : Nat) (l lc : Loc) (cs seg : List AV) : Prop where
  ek : e[k]? = some (i, o)
  nb : i ∉ bs
  hc : Hc[k]? = some (.c cs)
  h : H[i]? = some (.c seg)
  li : Env.loc? ρ i = some l
  lk : Env.loc? (mkEnv ρ H Hc e) k = some lc
  lk' : Env.loc? ρc' k = some lc
  ok : SegOk D ρ w l seg
  blk : lc.blk = l.blk
  off : lc.off = l.off + o
  ext : o + lc.ext ≤ l.ext
  len : o + cs.length ≤ seg.length
  tl : lc.ext = cs.length ∨ (o + lc.ext = l.ext ∧ o + cs.length = seg.length)
theorem EmbAt.at {bs e Hc ρc' k i o l lc cs seg} (h : EmbAt D ρ H w bs e Hc ρc' k i o l lc cs seg) (p : Nat) : lc.at p = l.at (o + p) := by
  simp [Loc.at, h.blk, h.off, Nat.add_assoc]
theorem emb_at {e : List (Nat × Nat)} {bs : List Nat} {Hc : Heap} {ρc' : Env} (hb : Inv0 D ρ H w) (he : embOk e H.length H bs e Hc)
    (hk : ∀ k l, k < (mkEnv ρ H Hc e).length → Env.loc? (mkEnv ρ H Hc e) k = some l → Env.loc? ρc' k = some l) {k i o : Nat} (h : e[k]? = some (i, o)) :
    ∃ l lc cs seg, EmbAt D ρ H w bs e Hc ρc' k i o l lc cs seg := by
  obtain ⟨hel, hg⟩ := embOk_get he
  obtain ⟨h1, cs, seg, h2, h3, h4, h5⟩ := hg k i o h
  obtain ⟨l, h6, h7⟩ := hb.seg _ _ h3
  have hgd : segLen (Hc.getD k .dead) = cs.length := by rw [List.getD_eq_getElem?_getD, h2]; rfl
  have hgi : segLen (H.getD i .dead) = seg.length := by rw [List.getD_eq_getElem?_getD, h3]; rfl
  have hloc := mkEnv_loc (H := H) (Hc := Hc) h h6
  have h71 := h7.1
  refine ⟨l, _, cs, seg, h, h1, h2, h3, h6, hloc, hk _ _ (Env.loc?_lt hloc) hloc, h7, rfl, rfl, ?_, h4, ?_⟩
  · simp only [hgd]; split <;> omega
  · simp only [hgd]; split
    · rename_i ht
      right
      refine ⟨by omega, ?_⟩
      simp only [tailB, h, hgd, hgi, beq_iff_eq] at ht
      exact ht
    · exact .inl rfl
theorem inH_emb {e : List (Nat × Nat)} {bs : List Nat} {Hc : Heap} {ρc' : Env} (hb : Inv0 D ρ H w) (he : embOk e H.length H bs e Hc)
    (hk : ∀ k l, k < (mkEnv ρ H Hc e).length → Env.loc? (mkEnv ρ H Hc e) k = some l → Env.loc? ρc' k = some l) {a : Addr} (h : InH (mkEnv ρ H Hc e) Hc a) :
    ∃ k i o l lc cs seg p, EmbAt D ρ H w bs e Hc ρc' k i o l lc cs seg ∧ p < lc.ext ∧ a = lc.at p := by
  obtain ⟨k, lc, p, h1, h2, h3, h4⟩ := h
  have hlt : k < e.length := by have := Env.loc?_lt h2; rwa [mkEnv_length] at this
  obtain ⟨⟨i, o⟩, hek⟩ : ∃ q, e[k]? = some q := ⟨_, List.getElem?_eq_getElem hlt⟩
  obtain ⟨l, lc', cs, seg, hE⟩ := emb_at (bs := bs) (ρc' := ρc') hb he hk hek
  have := hE.lk
  rw [h2] at this; cases this
  exact ⟨k, i, o, l, lc, cs, seg, p, hE, h3, h4⟩
theorem call_back {e : List (Nat × Nat)} {bs : List Nat} {Hc Hc' : Heap} {Dc' : Store} {ρc' : Env} {w' : World} {v : AV} {x : Value}
    (hb : BInv cx D ρ H w) (he : embOk e H.length H bs e Hc) (hn : (e.map (·.1)).Nodup)
    (hk : BInv ⟨w, InH (mkEnv ρ H Hc e) Hc, lend D ρ H w bs, mkEnv ρ H Hc e⟩ Dc' ρc' Hc' w') (hc : bs ≠ [] → noro v ∧ cleanH Hc') (hv : Rep Dc' ρc' v x) :
    ∃ D' ρ', Rep D' ρ' (ren e H.length v) x ∧ BInv cx D' ρ' (back e H.length H Hc Hc') w' ∧ Env.Le ρ ρ' ∧ Store.Le D D' := by
  have hlen : ρ.length = H.length := hb.inv.len
  have hkeep : ∀ k l, k < (mkEnv ρ H Hc e).length → Env.loc? (mkEnv ρ H Hc e) k = some l → Env.loc? ρc' k = some l := hk.keep
  have emb : ∀ {k i o : Nat}, e[k]? = some (i, o) → ∃ l lc cs seg, EmbAt D ρ H w bs e Hc ρc' k i o l lc cs seg := fun h => emb_at hb.inv he hkeep h
  have inh : ∀ {a : Addr}, InH (mkEnv ρ H Hc e) Hc a → ∃ k i o l lc cs seg p, EmbAt D ρ H w bs e Hc ρc' k i o l lc cs seg ∧ p < lc.ext ∧ a = lc.at p := fun h => inH_emb hb.inv he hkeep h
  -- what belongs to the callee belongs to the caller
  have inh2 : ∀ {a : Addr}, InH (mkEnv ρ H Hc e) Hc a → cx.av a := by
    intro a ha
    obtain ⟨k, i, o, l, lc, cs, seg, p, hE, hp, rfl⟩ := inh ha
    rw [hE.at]
    exact hb.av i l (live_c hE.h) hE.li _ (by have := hE.ext; omega)
  have kav : ∀ {a : Addr}, Cx.av ⟨w, InH (mkEnv ρ H Hc e) Hc, lend D ρ H w bs, mkEnv ρ H Hc e⟩ a → cx.av a := by
    intro a ha
    rcases ha with ha | ha
    · exact inh2 ha
    · exact .inr (Nat.le_trans hb.fr.size ha)
  have hlend : Store.Le D (lend D ρ H w bs) := lend_le hb.inv
  obtain ⟨D', F1, F2, F3, F4, F5⟩ : ∃ D' : Store, Store.Le D D' ∧ Store.Le D' Dc' ∧ (∀ a x, (bs ≠ [] → noro a) → Rep Dc' ρc' a x → Rep D' ρc' a x) ∧
      (∀ a v, D' a = some v → cx.D0 a = some v ∨ cx.av a) ∧ (∀ a, D a = none → (w.cell? a).isSome = true → ¬ InH (mkEnv ρ H Hc e) Hc a → D' a = none) := by
    by_cases hbs : bs = []
    · subst hbs
      rw [lend_nil] at hk
      refine ⟨Dc', hk.dle, Store.Le.refl _, fun a x _ h => h, ?_, ?_⟩
      · intro a v ha
        rcases hk.dav a v ha with h | h
        · exact hb.dav a v h
        · rw [← lend_nil (D := D) (ρ := ρ) (H := H) (w := w)] at h; exact .inr (kav h)
      · intro a ha hs hi
        cases hd : Dc' a with
        | none => rfl
        | some u =>
          rcases hk.dav a u hd with h | h | h
          · simp only [] at h; rw [ha] at h; cases h
          · exact (hi h).elim
          · obtain ⟨y, hy⟩ := Option.isSome_iff_exists.1 hs
            have := World.block_lt_of_cell? w a hy
            simp only [] at h; omega
    · exact ⟨D, Store.Le.refl _, hlend.trans hk.dle, fun a x h1 h2 => noro_rep a x (h1 hbs) h2, hb.dav, fun a h _ _ => h⟩
  have L3 : ∀ {j : Nat}, j < H.length → Env.loc? (ρ ++ ρc'.drop e.length) j = Env.loc? ρ j := fun h => Env.loc?_append_lt _ (by omega)
  have L2 : ∀ {j : Nat}, H.length ≤ j → Env.loc? (ρ ++ ρc'.drop e.length) j = Env.loc? ρc' (e.length + (j - H.length)) := fun h => by rw [loc_ge (by omega), hlen]
  have hold : ∀ k i o, e[k]? = some (i, o) → ∀ lc, Env.loc? ρc' k = some lc → ∃ l, Env.loc? (ρ ++ ρc'.drop e.length) i = some l ∧ lc.blk = l.blk ∧ lc.off = l.off + o ∧ o + lc.ext ≤ l.ext := by
    intro k i o h lc hl
    obtain ⟨l, lc', cs, seg, hE⟩ := emb h
    have := hE.lk'
    rw [hl] at this; cases this
    exact ⟨l, by rw [L3 (live_c hE.h).lt]; exact hE.li, hE.blk, hE.off, hE.ext⟩
  have hnew : ∀ k, e.length ≤ k → ∀ lc, Env.loc? ρc' k = some lc → Env.loc? (ρ ++ ρc'.drop e.length) (H.length + (k - e.length)) = some lc := by
    intro k h lc hl
    rw [L2 (by omega), show e.length + (H.length + (k - e.length) - H.length) = k from by omega]; exact hl
  have tr : ∀ a x, (bs ≠ [] → noro a) → Rep Dc' ρc' a x → Rep D' (ρ ++ ρc'.drop e.length) (ren e H.length a) x :=
    fun a x h1 h2 => rep_ren (Hc := Hc) hold hnew a x (F3 a x h1 h2)
  have hel : e.length = Hc.length := (embOk_get he).1
  have hlc' : ρc'.length = Hc'.length := hk.inv.len
  have hge : e.length ≤ Hc'.length := by
    rcases Nat.eq_zero_or_pos e.length with h | h
    · omega
    · obtain ⟨⟨i, o⟩, hek⟩ : ∃ q, e[e.length - 1]? = some q := ⟨_, List.getElem?_eq_getElem (by omega)⟩
      obtain ⟨l, lc, cs, seg, hE⟩ := emb hek
      have := Env.loc?_lt hE.lk'
      omega
  -- cells that the callee could not write
  have same : ∀ {i : Nat} {l : Loc} {seg : List AV} {j : Nat}, SegOk D ρ w l seg → j < l.ext → ¬ InH (mkEnv ρ H Hc e) Hc (l.at j) →
      ∃ v, w'.cell? (l.at j) = some v ∧ w'.frozen? (l.at j) = false ∧ D' (l.at j) = none ∧ ∀ c, seg[j]? = some c → Rep D' (ρ ++ ρc'.drop e.length) c v := by
    intro i l seg j hs hj hi
    obtain ⟨v, g1, g2, g3, g4⟩ := hs.2 j hj
    refine ⟨v, hk.fr.cell hi rfl g1, ?_, F5 _ g3 (by rw [g1]; rfl) hi, fun c hc => Rep.mono F1 (Env.le_append _ _) _ _ (g4 c hc)⟩
    rw [hk.fr.frozen (by show (w.cell? _).isSome = true; rw [g1]; rfl)]; exact g2
  -- the old segments
  have oldOut : ∀ {i : Nat} {sg : Sg}, i < H.length → (back e H.length H Hc Hc')[i]? = some sg → (i ∉ e.map (·.1) ∧ H[i]? = some sg) ∨
      ∃ k o, e[k]? = some (i, o) ∧ (sg = .dead ∨ ∃ l lc cs seg cs', EmbAt D ρ H w bs e Hc ρc' k i o l lc cs seg ∧ Hc'[k]? = some (.c cs') ∧ (cs'.length = cs.length ∨ o + cs.length = seg.length) ∧ sg = .c (seg.take o ++ (renL e H.length cs' ++ seg.drop (o + cs.length)))) := by
    intro i sg hi h
    rw [back_lt hi] at h
    by_cases hm : i ∈ e.map (·.1)
    · right
      obtain ⟨⟨i', o⟩, hq, rfl⟩ := List.mem_map.1 hm
      obtain ⟨k, hkk⟩ := List.getElem?_of_mem hq
      refine ⟨k, o, hkk, ?_⟩
      obtain ⟨l, lc, cs, seg, hE⟩ := emb hkk
      obtain ⟨sg', hsg'⟩ : ∃ s, Hc'[k]? = some s := ⟨_, List.getElem?_eq_getElem (by have := (List.getElem?_eq_some_iff.1 hkk).1; omega)⟩
      rw [backs_get hn hkk hE.hc hsg'] at h
      rcases back1_out h with h | ⟨cs', seg', h1, h2, h3, h4⟩
      · exact .inl h
      · subst h1
        have := hE.h
        rw [h2] at this; cases this
        exact .inr ⟨l, lc, cs, seg, cs', hE, hsg', h3, h4⟩
    · left; rw [backs_get_ne hm] at h; exact ⟨hm, h⟩
  have oldLive : ∀ {i : Nat}, i < H.length → Live (back e H.length H Hc Hc') i → Live H i := by
    intro i hi hl
    rcases hl with ⟨cs, hl⟩ | ⟨kvs, hl⟩
    · rcases oldOut hi hl with ⟨_, h⟩ | ⟨k, o, _, h | ⟨l, lc, cs, seg, cs', hE, _⟩⟩
      · exact .inl ⟨_, h⟩
      · cases h
      · exact live_c hE.h
    · rcases oldOut hi hl with ⟨_, h⟩ | ⟨k, o, _, h | ⟨l, lc, cs, seg, cs', hE, _⟩⟩
      · exact .inr ⟨_, h⟩
      · cases h
      · exact live_c hE.h
  have newOut : ∀ {j : Nat} {sg : Sg}, H.length ≤ j → (back e H.length H Hc Hc')[j]? = some sg → sg = .dead ∨ ∃ cs', Hc'[e.length + (j - H.length)]? = some (.c cs') ∧ sg = .c (renL e H.length cs') := by
    intro j sg hj h
    rw [back_ge hj] at h
    cases hq : Hc'[e.length + (j - H.length)]? with
    | none => rw [hq] at h; cases h
    | some s =>
      rw [hq] at h
      cases s with
      | c cs' => simp only [Option.map_some, renSg] at h; injection h with h; exact .inr ⟨cs', rfl, h.symm⟩
      | _ => simp only [Option.map_some, renSg] at h; injection h with h; exact .inl h.symm
  have newLive : ∀ {j : Nat}, H.length ≤ j → Live (back e H.length H Hc Hc') j → Live Hc' (e.length + (j - H.length)) := by
    intro j hj hl
    rcases hl with ⟨cs, hl⟩ | ⟨kvs, hl⟩
    · rcases newOut hj hl with h | ⟨cs', h, _⟩
      · cases h
      · exact live_c h
    · rcases newOut hj hl with h | ⟨cs', h, h'⟩
      · cases h
      · cases h'
  -- an old segment that lives, beside a new one
  have oldNew : ∀ {i j : Nat} {li lj : Loc}, i < H.length → H.length ≤ j → Live (back e H.length H Hc Hc') i → Live (back e H.length H Hc Hc') j → Env.loc? ρ i = some li →
      Env.loc? ρc' (e.length + (j - H.length)) = some lj → ∀ p q, p < li.ext → q < lj.ext → li.at p ≠ lj.at q := by
    intro i j li lj hi hj hli hlj hpi hpj p q hp hq heq
    have hLi := oldLive hi hli
    have hLj := newLive hj hlj
    have hexist : ∃ y, w.cell? (li.at p) = some y ∨ (li.at p).block < w.heap.size := by
      rcases hLi with ⟨cs, h⟩ | ⟨kvs, h⟩
      · obtain ⟨l, h1, h2⟩ := hb.inv.seg _ _ h
        rw [hpi] at h1; cases h1
        obtain ⟨y, hy, _⟩ := h2.2 p hp
        exact ⟨y, .inl hy⟩
      · obtain ⟨l, h1, _, _, es, n, h2, _⟩ := hb.inv.mpp _ _ h
        rw [hpi] at h1; cases h1
        refine ⟨.bool true, .inr ?_⟩
        show li.blk < _
        by_cases hlt : li.blk < w.heap.size
        · exact hlt
        · rw [Array.getElem?_eq_none (by omega)] at h2; cases h2
    have hlt : (li.at p).block < w.heap.size := by
      obtain ⟨y, h | h⟩ := hexist
      · exact World.block_lt_of_cell? w _ h
      · exact h
    rcases hk.av _ lj hLj hpj q hq with hS | hS
    · obtain ⟨k, i', o, l, lc, cs, seg, p', hE, hp', ha⟩ := inh hS
      by_cases hii : i = i'
      · subst hii
        rcases hli with ⟨cs1, hl1⟩ | ⟨kvs1, hl1⟩
        · rcases oldOut hi hl1 with ⟨hnm, _⟩ | ⟨k', o', hk', h | ⟨l', lc', cs', seg', cs2, hE', hHc', _⟩⟩
          · exact hnm (List.mem_map.2 ⟨_, List.mem_of_getElem? hE.ek, rfl⟩)
          · cases h
          · have hkk : k = k' := nodup_inj hn (by rw [List.getElem?_map, hE.ek]; rfl) (by rw [List.getElem?_map, hE'.ek]; rfl)
            subst hkk
            have hkl : k < e.length := (List.getElem?_eq_some_iff.1 hE.ek).1
            exact hk.inv.dis k _ lc lj (by omega) (live_c hHc') hLj hE.lk' hpj p' q hp' hq ha.symm
        · rcases oldOut hi hl1 with ⟨hnm, _⟩ | ⟨k', o', hk', h | ⟨l', lc', cs', seg', cs2, hE', hHc', _, h⟩⟩
          · exact hnm (List.mem_map.2 ⟨_, List.mem_of_getElem? hE.ek, rfl⟩)
          · cases h
          · cases h
      · refine hb.inv.dis i i' li l hii hLi (live_c hE.h) hpi hE.li p (o + p') hp (by have := hE.ext; omega) ?_
        rw [← hE.at, ← ha]; exact heq
    · rw [← heq] at hS; simp only [] at hS; omega
  refine ⟨D', ρ ++ ρc'.drop e.length, tr v x (fun h => (hc h).1) hv, ⟨⟨?_, ?_, ?_, ?_, ?_, ?_⟩, ?_, ?_, hb.dle.trans F1, F4, ?_⟩, Env.le_append _ _, F1⟩
  · unfold back; rw [List.length_append, List.length_append, backs_length, List.length_map, List.length_drop, List.length_drop]; omega
  · exact fun a v ha => hk.inv.d a v (F2 a v ha)
  · intro i cs hi
    by_cases hlt : i < H.length
    · rcases oldOut hlt hi with ⟨hnm, h⟩ | ⟨k, o, _, h | ⟨l, lc, cs0, seg, cs', hE, hHc', hle, h⟩⟩
      · obtain ⟨l, h1, h2⟩ := hb.inv.seg _ _ h
        refine ⟨l, by rw [L3 hlt]; exact h1, h2.1, fun j hj => ?_⟩
        refine same (i := i) h2 hj ?_
        intro hin
        obtain ⟨k, i', o, l', lc, cs1, seg, p', hE, hp', ha⟩ := inh hin
        have hne : i ≠ i' := by intro e'; subst e'; exact hnm (List.mem_map.2 ⟨_, List.mem_of_getElem? hE.ek, rfl⟩)
        refine hb.inv.dis i i' l l' hne (live_c h) (live_c hE.h) h1 hE.li j (o + p') hj (by have := hE.ext; omega) ?_
        rw [← hE.at, ← ha]
      · cases h
      · injection h with h
        obtain ⟨lc2, g1, g2⟩ := hk.inv.seg _ _ hHc'
        have := hE.lk'; rw [g1] at this; cases this
        have hext := hE.ext
        have hsl := hE.ok.1
        have hl0 := hE.len
        have hkl := g2.1
        have htl := hE.tl
        refine ⟨l, by rw [L3 hlt]; exact hE.li, ?_, fun j hj => ?_⟩
        · rw [h]
          simp only [List.length_append, List.length_take, List.length_drop, renL_length]
          omega
        · by_cases hj1 : j < o
          · have hni : ¬ InH (mkEnv ρ H Hc e) Hc (l.at j) := by
              intro hin
              obtain ⟨k2, i', o', l', lc', cs1, seg', p', hE', hp', ha⟩ := inh hin
              by_cases hne : i = i'
              · subst hne
                have hkk : k = k2 := nodup_inj hn (by rw [List.getElem?_map, hE.ek]; rfl) (by rw [List.getElem?_map, hE'.ek]; rfl)
                subst hkk
                have := hE.ek; rw [hE'.ek] at this; cases this
                have := hE.li; rw [hE'.li] at this; cases this
                rw [hE'.at] at ha
                have := Loc.at_inj ha; omega
              · refine hb.inv.dis i i' l l' hne (live_c hE.h) (live_c hE'.h) hE.li hE'.li j (o' + p') hj (by have := hE'.ext; omega) ?_
                rw [← hE'.at, ← ha]
            obtain ⟨u, q1, q2, q3, q4⟩ := same (i := i) hE.ok hj hni
            refine ⟨u, q1, q2, q3, fun c hcc => q4 c ?_⟩
            rw [h, List.getElem?_append_left (by rw [List.length_take]; omega), List.getElem?_take_of_lt hj1] at hcc
            exact hcc
          · by_cases hj2 : j < o + lc.ext
            · obtain ⟨u, q1, q2, q3, q4⟩ := g2.2 (j - o) (by omega)
              rw [hE.at, show o + (j - o) = j from by omega] at q1 q2 q3
              refine ⟨u, q1, q2, ?_, fun c hcc => ?_⟩
              · cases hd : D' (l.at j) with
                | none => rfl
                | some z => have := F2 _ _ hd; rw [q3] at this; cases this
              · rw [h, List.getElem?_append_right (by rw [List.length_take]; omega), List.length_take, show min o seg.length = o from by omega] at hcc
                by_cases hj3 : j - o < cs'.length
                · rw [List.getElem?_append_left (by rw [renL_length]; exact hj3), renL_get] at hcc
                  cases hcj : cs'[j - o]? with
                  | none => rw [hcj] at hcc; cases hcc
                  | some c' =>
                    rw [hcj] at hcc; injection hcc with hcc; subst hcc
                    exact tr c' u (fun hb' => noroL_get (cleanH_get (hc hb').2 hHc') hcj) (q4 c' hcj)
                · exfalso
                  rw [List.getElem?_append_right (by rw [renL_length]; omega), List.getElem?_drop, renL_length] at hcc
                  have := (List.getElem?_eq_some_iff.1 hcc).1
                  omega
            · have hni : ¬ InH (mkEnv ρ H Hc e) Hc (l.at j) := by
                intro hin
                obtain ⟨k2, i', o', l', lc', cs1, seg', p', hE', hp', ha⟩ := inh hin
                by_cases hne : i = i'
                · subst hne
                  have hkk : k = k2 := nodup_inj hn (by rw [List.getElem?_map, hE.ek]; rfl) (by rw [List.getElem?_map, hE'.ek]; rfl)
                  subst hkk
                  have := hE.lk'; rw [hE'.lk'] at this; cases this
                  have := hE.ek; rw [hE'.ek] at this; cases this
                  have := hE.li; rw [hE'.li] at this; cases this
                  rw [hE'.at] at ha
                  have := Loc.at_inj ha; omega
                · refine hb.inv.dis i i' l l' hne (live_c hE.h) (live_c hE'.h) hE.li hE'.li j (o' + p') hj (by have := hE'.ext; omega) ?_
                  rw [← hE'.at, ← ha]
              obtain ⟨u, q1, q2, q3, q4⟩ := same (i := i) hE.ok hj hni
              refine ⟨u, q1, q2, q3, fun c hcc => q4 c ?_⟩
              have hlen1 : lc.ext = cs0.length := by
                rcases htl with h | h
                · exact h
                · omega
              rw [h, List.getElem?_append_right (by rw [List.length_take]; omega), List.length_take, show min o seg.length = o from by omega] at hcc
              rw [List.getElem?_append_right (by rw [renL_length]; omega), List.getElem?_drop, renL_length] at hcc
              rcases hle with hle | hle
              · rw [show o + cs0.length + (j - o - cs'.length) = j from by omega] at hcc; exact hcc
              · exfalso
                have := (List.getElem?_eq_some_iff.1 hcc).1
                omega
    · have hge' : H.length ≤ i := by omega
      rcases newOut hge' hi with h | ⟨cs', h1, h2⟩
      · cases h
      · injection h2 with h2
        obtain ⟨lc, g1, g2⟩ := hk.inv.seg _ _ h1
        refine ⟨lc, by rw [L2 hge']; exact g1, by rw [h2, renL_length]; exact g2.1, fun j hj => ?_⟩
        obtain ⟨u, q1, q2, q3, q4⟩ := g2.2 j hj
        refine ⟨u, q1, q2, ?_, fun c hcc => ?_⟩
        · cases hd : D' (lc.at j) with
          | none => rfl
          | some z => have := F2 _ _ hd; rw [q3] at this; cases this
        · rw [h2, renL_get] at hcc
          cases hcj : cs'[j]? with
          | none => rw [hcj] at hcc; cases hcc
          | some c' =>
            rw [hcj] at hcc; injection hcc with hcc; subst hcc
            exact tr c' u (fun hb' => noroL_get (cleanH_get (hc hb').2 h1) hcj) (q4 c' hcj)
  · intro i kvs hi
    by_cases hlt : i < H.length
    · rcases oldOut hlt hi with ⟨hnm, h⟩ | ⟨k, o, _, h | ⟨l, lc, cs0, seg, cs', hE, hHc', hle, h⟩⟩
      · obtain ⟨l, h1, h2, h3, es, n, h4, h5, h6, h7⟩ := hb.inv.mpp _ _ h
        refine ⟨l, by rw [L3 hlt]; exact h1, h2, h3, es, n, ?_, h5, RepL.mono F1 (Env.le_append _ _) _ _ h6, h7⟩
        have hbl : l.blk < w.heap.size := by
          by_cases hlt : l.blk < w.heap.size
          · exact hlt
          · rw [Array.getElem?_eq_none (by omega)] at h4; cases h4
        rcases hk.fr.blk l.blk hbl with e1 | ⟨c, c', T, fz, e1, _⟩ | ⟨hS, _⟩
        · rw [e1]; exact h4
        · simp only [] at e1; rw [h4] at e1; cases e1
        · obtain ⟨k, i', o, l', lc, cs1, seg, p', hE, hp', ha⟩ := inh hS
          obtain ⟨y, hy, _⟩ := hE.ok.2 (o + p') (by have := hE.ext; omega)
          rw [← hE.at, ← ha] at hy
          unfold World.cell? at hy
          simp only [h4] at hy
          cases hy
      · cases h
      · cases h
    · rcases newOut (by omega) hi with h | ⟨cs', h1, h2⟩
      · cases h
      · cases h2
  · intro i hi
    by_cases hlt : i < H.length
    · rcases oldOut hlt hi with ⟨hnm, h⟩ | ⟨k, o, _, h | ⟨l, lc, cs0, seg, cs', hE, hHc', hle, h⟩⟩
      · rw [L3 hlt]; exact hb.inv.res _ h
      · cases h
      · cases h
    · rcases newOut (by omega) hi with h | ⟨cs', h1, h2⟩
      · cases h
      · cases h2
  · intro i j li lj hij hLi hLj hpi hpj p q hp hq
    by_cases hlt : i < H.length <;> by_cases hlt' : j < H.length
    · rw [L3 hlt] at hpi; rw [L3 hlt'] at hpj
      exact hb.inv.dis i j li lj hij (oldLive hlt hLi) (oldLive hlt' hLj) hpi hpj p q hp hq
    · rw [L3 hlt] at hpi; rw [L2 (by omega)] at hpj
      exact oldNew hlt (by omega) hLi hLj hpi hpj p q hp hq
    · rw [L2 (by omega)] at hpi; rw [L3 hlt'] at hpj
      exact fun h => oldNew hlt' (by omega) hLj hLi hpj hpi q p hq hp h.symm
    · rw [L2 (by omega)] at hpi hpj
      exact hk.inv.dis _ _ li lj (by omega) (newLive (by omega) hLi) (newLive (by omega) hLj) hpi hpj p q hp hq
  · exact hb.fr.trans hk.fr (fun a ha => by
      rcases inh2 ha with h | h
      · exact .inl h
      · exact .inr h)
  · intro i l hL hl j hj
    by_cases hlt : i < H.length
    · rw [L3 hlt] at hl; exact hb.av i l (oldLive hlt hL) hl j hj
    · rw [L2 (by omega)] at hl
      exact kav (hk.av _ l (newLive (by omega) hL) hl j hj)
  · intro k l hkl hl
    exact Env.loc?_append_left _ (hb.keep k l hkl hl)
theorem argOk_rep {e : List (Nat × Nat)} {bs : List Nat} {Hc : Heap} (hb : Inv0 D ρ H w) (a ac : AV) (x : Value) (h : argOk e H.length H bs a ac) (hs : slOk (tailB e H Hc) ac) (hx : Rep D ρ a x) :
    Rep (lend D ρ H w bs) (mkEnv ρ H Hc e) ac x := by
  have row : ∀ (i o : Nat) (l : Loc) (cs seg : List AV), Env.loc? ρ i = some l → H[i]? = some (.c seg) → i ∈ bs → o + cs.length ≤ seg.length → (seg.drop o).take cs.length = cs → cleanL cs →
      RepRow (lend D ρ H w bs) (some (l.at o)) 0 cs := by
    intro i o l cs seg hl hi hm h1 h2 h3
    obtain ⟨l', g1, g2⟩ := hb.seg _ _ hi
    rw [hl] at g1; cases g1
    refine RepRow.of_get (fun j c hc => ⟨l.at o, ?_⟩)
    have hj : j < cs.length := (List.getElem?_eq_some_iff.1 hc).1
    have hext := g2.1
    obtain ⟨v, q1, q2, q3, q4⟩ := g2.2 (o + j) (by omega)
    have hcj : seg[o + j]? = some c := by
      rw [← List.getElem?_drop, ← List.getElem?_take_of_lt hj, h2]; exact hc
    refine ⟨v, rfl, rfl, ?_, clean_rep c v (cleanL_get h3 hc) (q4 c hcj)⟩
    have hat : (⟨(l.at o).block, (l.at o).off + (0 + j), none⟩ : Addr) = l.at (o + j) := by simp [Loc.at, Nat.add_assoc]
    rw [hat, lend_lent ⟨i, l, seg, o + j, hm, hi, hl, by omega, rfl⟩]
    exact q1
  rcases h with h | ⟨i, o, cs, seg, rfl, rfl, h1, h2, h3, h4, h5⟩ | ⟨i, z, o, n, b, cs, seg, rfl, rfl, h1, h2, h3, h4, h5, h6⟩
  · subst h
    exact rep_unren (by rw [hb.len]; exact Nat.le_refl _) ac x hs (Rep.mono (lend_le hb) (Env.Le.refl _) _ _ hx)
  · simp only [Rep] at hx ⊢
    obtain ⟨l, g1, g2⟩ := hx
    exact ⟨_, g2, row i o l cs seg g1 h1 h2 h3 h4 h5⟩
  · simp only [Rep] at hx ⊢
    obtain ⟨l, a, cap, g1, g2, g3, g4, g5⟩ := hx
    refine ⟨a, cap, g2, g3, h3, ?_⟩
    rcases g5 with g5 | g5
    · have : cs = [] := by
        apply List.eq_nil_of_length_eq_zero
        rw [h3, show n = 0 from by omega, Nat.zero_mul]
      subst this
      simp [RepRow]
    · rw [g5]; exact row i o l cs seg g1 h1 h2 h4 h5 h6
theorem argsOk_rep {e : List (Nat × Nat)} {bs : List Nat} {Hc : Heap} (hb : Inv0 D ρ H w) : ∀ (as acs : List AV) (xs : List Value), argsOk e H.length H bs as acs → slOkL (tailB e H Hc) acs → RepL D ρ as xs →
    RepL (lend D ρ H w bs) (mkEnv ρ H Hc e) acs xs
  | [], [], [], _, _, _ => by simp [RepL]
  | a :: as, c :: cs, x :: xs, h, hs, hx => by
    simp only [argsOk] at h
    simp only [slOkL] at hs
    simp only [RepL] at hx ⊢
    exact ⟨argOk_rep hb a c x h.1 hs.1 hx.1, argsOk_rep hb as cs xs h.2 hs.2 hx.2⟩
  | [], _ :: _, _, h, _, _ => by simp [argsOk] at h
  | _ :: _, [], _, h, _, _ => by simp [argsOk] at h
  | [], [], _ :: _, _, _, h => by simp [RepL] at h
  | _ :: _, _ :: _, [], _, _, h => by simp [RepL] at h
def CallPost (cx : Cx) (D : Store) (ρ : Env) (K : AV → Heap → Prop) (e : Ending) (w' : World) : Prop :=
  ∃ v x D' ρ' H', e = .returned x ∧ Rep D' ρ' v x ∧ K v H' ∧ BInv cx D' ρ' H' w' ∧ Env.Le ρ ρ' ∧ Store.Le D D'
theorem call_sound {f : FuncId} {args : List AV} {K : AV → Heap → Prop} {vs : List Value} (hb : BInv cx D ρ H w) (hr : RepL D ρ args vs) (h : CallStep P f args H K) :
    Calls P f vs.toArray w (CallPost cx D ρ K) := by
  obtain ⟨e, bs, argsc, Hc, R, h1, h2, h3, h4, h5, h6, h7⟩ := h
  refine (h1 _ _ w vs (call_inv hb.inv h3 h4 h6) (argsOk_rep hb.inv _ _ _ h2 h5 hr)).mono ?_
  rintro en w' ⟨v, x, Dc', ρc', Hc', g1, g2, g3, g4⟩
  obtain ⟨q1, q2⟩ := h7 _ _ g3
  obtain ⟨D', ρ', r1, r2, r3, r4⟩ := call_back hb h3 h4 g4 q1 g2
  exact ⟨_, x, D', ρ', _, g1, r1, q2, r2, r3, r4⟩
end
end Go.Proofs.Lite

namespace Go.Proofs.Lite
open Go
/-- An operation of a region, stripped. -/
structure LO where
  dst : Option Nat
  g : Option (Nat × Bool)
  op : LOp
  deriving Inhabited
def putA (T : List AV) : Option Nat → AV → List AV
  | none, _ => T
  | some d, v => T.set d v
def callable (P : Program) (f : Nat) : Bool :=
  match P.funcs[f]? with
  | some fn => fn.body.isSome && fn.name != "runtime.NumGoroutine"
  | none => false
def isLr : LOp → Bool
  | .load .. | .sarr .. => true
  | _ => false
def isEr : LOp → Bool
  | .alloc .. | .allocAt .. | .box .. | .boxAt .. | .bslAt .. | .store .. | .bsl .. | .msl .. | .app .. | .cpy .. => true
  | _ => false
/-- One operation, on abstract values. -/
def astep (P : Program) (base : Nat) (T : List AV) (H : Heap) (K : AV → Heap → Prop) : LOp → Prop
  | .call f xs => CallStep P f (xs.map (ev T)) H K
  | .callv x xs =>
    match ev T x with
    | .fn f caps => callable P f = true ∧ CallStep P f (xs.map (ev T) ++ caps) H K
    | _ => False
  | .load ag n x => (lr T H (.load ag n x)).1 ∧ K (lr T H (.load ag n x)).2 H
  | .sarr len z x lo hi => (lr T H (.sarr len z x lo hi)).1 ∧ K (lr T H (.sarr len z x lo hi)).2 H
  | .alloc z => (er T H base (.alloc z)).1 ∧ K (er T H base (.alloc z)).2.1 (er T H base (.alloc z)).2.2
  | .allocAt r z => (er T H base (.allocAt r z)).1 ∧ K (er T H base (.allocAt r z)).2.1 (er T H base (.allocAt r z)).2.2
  | .box x => (er T H base (.box x)).1 ∧ K (er T H base (.box x)).2.1 (er T H base (.box x)).2.2
  | .boxAt r x => (er T H base (.boxAt r x)).1 ∧ K (er T H base (.boxAt r x)).2.1 (er T H base (.boxAt r x)).2.2
  | .store n x v => (er T H base (.store n x v)).1 ∧ K (er T H base (.store n x v)).2.1 (er T H base (.store n x v)).2.2
  | .bsl z len zero parts => (er T H base (.bsl z len zero parts)).1 ∧ K (er T H base (.bsl z len zero parts)).2.1 (er T H base (.bsl z len zero parts)).2.2
  | .msl z b zero l c => (er T H base (.msl z b zero l c)).1 ∧ K (er T H base (.msl z b zero l c)).2.1 (er T H base (.msl z b zero l c)).2.2
  | .app z b s x => (er T H base (.app z b s x)).1 ∧ K (er T H base (.app z b s x)).2.1 (er T H base (.app z b s x)).2.2
  | .cpy z d s => (er T H base (.cpy z d s)).1 ∧ K (er T H base (.cpy z d s)).2.1 (er T H base (.cpy z d s)).2.2
  | .mv x => (pr T (.mv x)).1 ∧ K (pr T (.mv x)).2 H
  | .pick c a b => (pr T (.pick c a b)).1 ∧ K (pr T (.pick c a b)).2 H
  | .bin op x y => (pr T (.bin op x y)).1 ∧ K (pr T (.bin op x y)).2 H
  | .beq n x y => (pr T (.beq n x y)).1 ∧ K (pr T (.beq n x y)).2 H
  | .eqs n k x y => (pr T (.eqs n k x y)).1 ∧ K (pr T (.eqs n k x y)).2 H
  | .un op x => (pr T (.un op x)).1 ∧ K (pr T (.un op x)).2 H
  | .conv k x => (pr T (.conv k x)).1 ∧ K (pr T (.conv k x)).2 H
  | .nilc x => (pr T (.nilc x)).1 ∧ K (pr T (.nilc x)).2 H
  | .fad o x => (pr T (.fad o x)).1 ∧ K (pr T (.fad o x)).2 H
  | .fld a n o x => (pr T (.fld a n o x)).1 ∧ K (pr T (.fld a n o x)).2 H
  | .iarr l z x i => (pr T (.iarr l z x i)).1 ∧ K (pr T (.iarr l z x i)).2 H
  | .isl z x i => (pr T (.isl z x i)).1 ∧ K (pr T (.isl z x i)).2 H
  | .aidx a l z x i => (pr T (.aidx a l z x i)).1 ∧ K (pr T (.aidx a l z x i)).2 H
  | .sidx x i => (pr T (.sidx x i)).1 ∧ K (pr T (.sidx x i)).2 H
  | .ssl z x lo hi => (pr T (.ssl z x lo hi)).1 ∧ K (pr T (.ssl z x lo hi)).2 H
  | .sstr x lo hi => (pr T (.sstr x lo hi)).1 ∧ K (pr T (.sstr x lo hi)).2 H
  | .ext k x => (pr T (.ext k x)).1 ∧ K (pr T (.ext k x)).2 H
  | .build z ps => (pr T (.build z ps)).1 ∧ K (pr T (.build z ps)).2 H
  | .lens x => (pr T (.lens x)).1 ∧ K (pr T (.lens x)).2 H
  | .lstr x => (pr T (.lstr x)).1 ∧ K (pr T (.lstr x)).2 H
  | .lenc n => (pr T (.lenc n)).1 ∧ K (pr T (.lenc n)).2 H
  | .mm b xs => (pr T (.mm b xs)).1 ∧ K (pr T (.mm b xs)).2 H
  | .mkfn f cs => (pr T (.mkfn f cs)).1 ∧ K (pr T (.mkfn f cs)).2 H
  | .s2a n z x => (pr T (.s2a n z x)).1 ∧ K (pr T (.s2a n z x)).2 H
  | .snil b x => (pr T (.snil b x)).1 ∧ K (pr T (.snil b x)).2 H
  | .bslAt r z len zero parts => (er T H base (.bslAt r z len zero parts)).1 ∧ K (er T H base (.bslAt r z len zero parts)).2.1 (er T H base (.bslAt r z len zero parts)).2.2
/-- Which of the ways an operation goes. -/
theorem astep_cases {P : Program} {base : Nat} {T : List AV} {H : Heap} {K : AV → Heap → Prop} (lop : LOp) :
    (isPure lop = true ∧ (astep P base T H K lop ↔ (pr T lop).1 ∧ K (pr T lop).2 H)) ∨
    (isLr lop = true ∧ (astep P base T H K lop ↔ (lr T H lop).1 ∧ K (lr T H lop).2 H)) ∨
    (isEr lop = true ∧ (astep P base T H K lop ↔ (er T H base lop).1 ∧ K (er T H base lop).2.1 (er T H base lop).2.2)) ∨
    (∃ f xs, lop = .call f xs) ∨ (∃ x xs, lop = .callv x xs) := by
  cases lop
  case call f xs => exact .inr (.inr (.inr (.inl ⟨f, xs, rfl⟩)))
  case callv x xs => exact .inr (.inr (.inr (.inr ⟨x, xs, rfl⟩)))
  all_goals first
    | exact .inl ⟨rfl, Iff.rfl⟩
    | exact .inr (.inl ⟨rfl, Iff.rfl⟩)
    | exact .inr (.inr (.inl ⟨rfl, Iff.rfl⟩))
theorem CallStep.mono {P : Program} {f : FuncId} {args : List AV} {H : Heap} {K K' : AV → Heap → Prop} (h : CallStep P f args H K) (hk : ∀ v H', K v H' → K' v H') : CallStep P f args H K' := by
  obtain ⟨e, bs, argsc, Hc, R, h1, h2, h3, h4, h5, h6, h7⟩ := h
  exact ⟨e, bs, argsc, Hc, R, h1, h2, h3, h4, h5, h6, fun v Hc' hR => ⟨(h7 v Hc' hR).1, hk _ _ (h7 v Hc' hR).2⟩⟩
theorem astep_mono {P : Program} {base : Nat} {T : List AV} {H : Heap} {K K' : AV → Heap → Prop} {lop : LOp} (hk : ∀ v H', K v H' → K' v H') (h : astep P base T H K lop) : astep P base T H K' lop := by
  rcases astep_cases (P := P) (base := base) (T := T) (H := H) (K := K) lop with ⟨hp, hi⟩ | ⟨hp, hi⟩ | ⟨hp, hi⟩ | ⟨f, xs, rfl⟩ | ⟨x, xs, rfl⟩
  · rcases astep_cases (P := P) (base := base) (T := T) (H := H) (K := K') lop with ⟨_, hi'⟩ | ⟨hp', _⟩ | ⟨hp', _⟩ | ⟨f, xs, rfl⟩ | ⟨x, xs, rfl⟩
    · exact hi'.2 ⟨(hi.1 h).1, hk _ _ (hi.1 h).2⟩
    all_goals (first | (cases lop <;> simp_all [isPure, isLr, isEr]; done) | (simp [isPure] at hp; done))
  · rcases astep_cases (P := P) (base := base) (T := T) (H := H) (K := K') lop with ⟨hp', _⟩ | ⟨_, hi'⟩ | ⟨hp', _⟩ | ⟨f, xs, rfl⟩ | ⟨x, xs, rfl⟩
    · cases lop <;> simp_all [isPure, isLr, isEr]
    · exact hi'.2 ⟨(hi.1 h).1, hk _ _ (hi.1 h).2⟩
    all_goals (first | (cases lop <;> simp_all [isPure, isLr, isEr]; done) | (simp [isLr] at hp; done))
  · rcases astep_cases (P := P) (base := base) (T := T) (H := H) (K := K') lop with ⟨hp', _⟩ | ⟨hp', _⟩ | ⟨_, hi'⟩ | ⟨f, xs, rfl⟩ | ⟨x, xs, rfl⟩
    · cases lop <;> simp_all [isPure, isLr, isEr]
    · cases lop <;> simp_all [isPure, isLr, isEr]
    · exact hi'.2 ⟨(hi.1 h).1, hk _ _ (hi.1 h).2⟩
    all_goals (simp [isEr] at hp; done)
  · exact CallStep.mono h hk
  · simp only [astep] at h ⊢
    split at h
    · exact ⟨h.1, h.2.mono hk⟩
    · exact h
def aop (P : Program) (base : Nat) (o : LO) (T : List AV) (H : Heap) (K : List AV → Heap → Prop) : Prop :=
  match o.g with
  | none => astep P base T H (fun v H' => K (putA T o.dst v) H') o.op
  | some (t, want) =>
    match T.getD t .junk with
    | .raw (.bool b) => (b = want → astep P base T H (fun v H' => K (putA T o.dst v) H') o.op) ∧ (b = !want → K (putA T o.dst (.raw (.tuple #[]))) H)
    | .raw (.tuple _) => K (putA T o.dst (.raw (.tuple #[]))) H
    | _ => False
def aops (P : Program) (base : Nat) (K : List AV → Heap → Prop) : List LO → List AV → Heap → Prop
  | [], T, H => K T H
  | o :: r, T, H => aop P base o T H (aops P base K r)
theorem aop_mono {P : Program} {base : Nat} {o : LO} {T : List AV} {H : Heap} {K K' : List AV → Heap → Prop} (hk : ∀ T H, K T H → K' T H) (h : aop P base o T H K) : aop P base o T H K' := by
  unfold aop at h ⊢
  split
  · rename_i hg; rw [hg] at h; exact astep_mono (fun v H' => hk _ _) h
  · rename_i t want hg
    rw [hg] at h
    simp only [] at h
    split
    · rename_i b hb
      rw [hb] at h
      exact ⟨fun e => astep_mono (fun v H' => hk _ _) (h.1 e), fun e => hk _ _ (h.2 e)⟩
    · rename_i b hb
      rw [hb] at h
      exact hk _ _ h
    · rename_i hne hne2
      split at h
      · rename_i b hb; exact (hne b hb).elim
      · rename_i b hb; exact (hne2 b hb).elim
      · exact h
/-- Where a stripped operation comes from. -/
def StripAt (P : Program) (ops : Array Oper) (i : Nat) (o : LO) : Prop :=
  ∃ oi, ops[i]? = some oi ∧ stripOp P oi.op = some (unAt o.op) ∧ oi.dst = o.dst ∧
    ((oi.guard = none ∧ o.g = none) ∨ ∃ j want t, oi.guard = some (j, want) ∧ o.g = some (t, want) ∧ (ops[j]?).bind (·.dst) = some t)
section
variable {P : Program} {cx : Cx} {D : Store} {ρ : Env} {H : Heap} {w : World} {T : List AV} {vs : List Value}
theorem strip_call {op : Op} {f : Nat} {xs : List Operand} (h : stripOp P op = some (.call f xs)) :
    ∃ c, op = .call c ∧ c.callee = .value (.func f) ∧ c.args.toList = xs ∧ callable P f = true := by
  cases op with
  | call c =>
    simp only [stripOp] at h
    split at h
    · rename_i f' hc
      split at h
      · rename_i fn hfn
        split at h
        · rename_i hb
          injection h with h; injection h with h1 h2
          subst h1
          exact ⟨c, rfl, hc, h2, by unfold callable; rw [hfn]; exact hb⟩
        · cases h
      · cases h
    · cases h
    all_goals (first | (exact absurd h (by (repeat' split) <;> simp [Option.bind_eq_some_iff, Option.map_eq_some_iff]; done)) | (simp at h; done) | skip)
    all_goals (repeat' (split at h)) <;> first | (simp at h; done) | (simp [Option.bind_eq_some_iff] at h; done)
  | _ => exact absurd h (by intro hs; simp only [stripOp] at hs; (repeat' (split at hs)) <;> first | contradiction | simp [Option.bind_eq_some_iff, Option.map_eq_some_iff] at hs)
theorem strip_callv {op : Op} {x : Operand} {xs : List Operand} (h : stripOp P op = some (.callv x xs)) :
    ∃ c, op = .call c ∧ c.callee = .value x ∧ c.args.toList = xs := by
  cases op with
  | call c =>
    simp only [stripOp] at h
    split at h
    · split at h
      · split at h
        · cases h
        · cases h
      · cases h
    · rename_i y hc
      injection h with h; injection h with h1 h2
      subst h1
      exact ⟨c, rfl, hc, h2⟩
    all_goals (first | (exact absurd h (by (repeat' split) <;> simp [Option.bind_eq_some_iff, Option.map_eq_some_iff]; done)) | (simp at h; done) | skip)
    all_goals (repeat' (split at h)) <;> first | (simp at h; done) | (simp [Option.bind_eq_some_iff] at h; done)
  | _ => exact absurd h (by intro hs; simp only [stripOp] at hs; (repeat' (split at hs)) <;> first | contradiction | simp [Option.bind_eq_some_iff, Option.map_eq_some_iff] at hs)
theorem callFunc_run {f : Nat} (h : callable P f = true) (args : Array Value) (w : World) : (callFunc f args).run P w = .ok (.enter f args) w := by
  unfold callable at h
  cases hf : P.funcs[f]? with
  | none => rw [hf] at h; cases h
  | some fn =>
    rw [hf] at h
    simp only [Bool.and_eq_true, bne_iff_ne, ne_eq] at h
    have hb : fn.body.isNone = false := by cases hbb : fn.body <;> simp_all
    have hn : (fn.name == "runtime.NumGoroutine") = false := by simpa using h.2
    unfold callFunc
    simp only [program, Sem.run_bind, Sem.run, Result.andThen, hf, hn, hb]
    rfl
theorem map_rep (hT : RepL D ρ T vs) : ∀ (xs : List Operand), RepL D ρ (xs.map (ev T)) (xs.map (Act.eval ⟨vs.toArray, []⟩))
  | [] => by simp [RepL]
  | x :: xs => by simp only [List.map_cons, RepL]; exact ⟨ev_rep hT x, map_rep hT xs⟩
theorem putA_rep (hT : RepL D ρ T vs) (d : Option Nat) {v : AV} {x : Value} (h : Rep D ρ v x) :
    ∃ vs' : List Value, Act.put ⟨vs.toArray, []⟩ d x = ⟨vs'.toArray, []⟩ ∧ RepL D ρ (putA T d v) vs' := by
  cases d with
  | none => exact ⟨vs, rfl, hT⟩
  | some d => exact ⟨vs.set d x, by simp [Act.put], hT.set d h⟩
/-- What a post of the walk has to give on. -/
def Next (cx : Cx) (K : List AV → Heap → Prop) (Kc : Act → World → Prop) : Prop :=
  ∀ T H D ρ (vs : List Value) w, K T H → BInv cx D ρ H w → RepL D ρ T vs → Kc ⟨vs.toArray, []⟩ w
theorem callPost_next {ops : Array Oper} {oi : Oper} {Q : Exit → Act → World → Prop} {K : List AV → Heap → Prop} {Kc : Act → World → Prop} {f : Nat} {args : Array Value} (hT : RepL D ρ T vs)
    (hK : Next cx K Kc) (h : Calls P f args w (CallPost cx D ρ (fun v H' => K (putA T oi.dst v) H'))) :
    Oper.upon P oi ⟨vs.toArray, []⟩ Kc Q (.ok (.enter f args) w) := by
  rw [Oper.upon_enter]
  refine Calls.mono h ?_
  rintro e w' ⟨v, x, D', ρ', H', rfl, h1, h2, h3, h4, h5⟩
  simp only []
  obtain ⟨vs', h6, h7⟩ := putA_rep (hT.mono h5 h4) oi.dst h1
  rw [h6]
  exact hK _ _ _ _ _ _ h2 h3 h7
theorem astep_sound {i : Nat} {oi : Oper} {lop : LOp} {base : Nat} {Q : Exit → Act → World → Prop} {K : List AV → Heap → Prop} {Kc : Act → World → Prop}
    (hs : stripOp P oi.op = some (unAt lop)) (hb : BInv cx D ρ H w) (hT : RepL D ρ T vs) (h : astep P base T H (fun v H' => K (putA T oi.dst v) H') lop) (hK : Next cx K Kc) :
    oi.wp P ⟨vs.toArray, []⟩ w Kc Q := by
  unfold Oper.wp
  rcases astep_cases (P := P) (base := base) (T := T) (H := H) (K := (fun v H' => K (putA T oi.dst v) H')) lop with ⟨hp, hi⟩ | ⟨hp, hi⟩ | ⟨hp, hi⟩ | ⟨f, xs, rfl⟩ | ⟨x, xs, rfl⟩
  · have hs' : stripOp P oi.op = some lop := by cases lop <;> first | exact hs | simp [isPure] at hp
    obtain ⟨h1, h2⟩ := hi.1 h
    obtain ⟨x, h3, h4⟩ := pr_sound hs' hp hT h1
    rw [h3 w, Oper.upon_value]
    obtain ⟨vs', h6, h7⟩ := putA_rep hT oi.dst h4
    rw [h6]; exact hK _ _ _ _ _ _ h2 hb h7
  · have hs' : stripOp P oi.op = some lop := by cases lop <;> first | exact hs | simp [isLr] at hp
    obtain ⟨h1, h2⟩ := hi.1 h
    obtain ⟨x, h3, h4⟩ := lr_sound hs' hb.inv hT h1
    rw [h3, Oper.upon_value]
    obtain ⟨vs', h6, h7⟩ := putA_rep hT oi.dst h4
    rw [h6]; exact hK _ _ _ _ _ _ h2 hb h7
  · obtain ⟨h1, h2⟩ := hi.1 h
    obtain ⟨n, w', ρ', h3, h4, h5, h6⟩ := er_sound hs hb hT h1
    rw [h3]
    rcases h4 with ⟨rfl, h4⟩ | ⟨x, rfl, h4⟩
    · rw [Oper.upon_skip]
      obtain ⟨vs', h7, h8⟩ := putA_rep (hT.mono (Store.Le.refl _) h6) oi.dst (v := .junk) (x := undef) (by simp [Rep])
      rw [h7]; rw [h4] at h2; exact hK _ _ _ _ _ _ h2 h5 h8
    · rw [Oper.upon_value]
      obtain ⟨vs', h7, h8⟩ := putA_rep (hT.mono (Store.Le.refl _) h6) oi.dst h4
      rw [h7]; exact hK _ _ _ _ _ _ h2 h5 h8
  · obtain ⟨c, h1, h2, h3, h4⟩ := strip_call hs
    have hrun : (execOp (Act.eval ⟨vs.toArray, []⟩) oi).run P w = .ok (.enter f (xs.map (Act.eval ⟨vs.toArray, []⟩)).toArray) w := by
      simp only [execOp, h1, resolve, h2, Act.eval, Deferred.ofValue, Sem.run_bind]
      simp only [pure, Sem.run, Result.andThen]
      simp only [invoke, Array.append_empty, Array.empty_append]
      rw [callFunc_run h4]
      rw [← h3]; simp [← Array.toList_map]
    rw [hrun]
    simp only [astep] at h
    exact callPost_next (ops := #[]) hT hK (call_sound hb (map_rep hT xs) h)
  · obtain ⟨c, h1, h2, h3⟩ := strip_callv hs
    simp only [astep] at h
    have hx := ev_rep hT x
    split at h
    · rename_i f caps he
      rw [he] at hx
      simp only [Rep] at hx
      obtain ⟨us, h5, h6⟩ := hx
      have hrun : (execOp (Act.eval ⟨vs.toArray, []⟩) oi).run P w = .ok (.enter f (xs.map (Act.eval ⟨vs.toArray, []⟩) ++ us).toArray) w := by
        simp only [execOp, h1, resolve, h2, h5, Deferred.ofValue, Sem.run_bind]
        simp only [pure, Sem.run, Result.andThen]
        simp only [invoke, Array.append_empty, Array.empty_append]
        rw [callFunc_run h.1]
        rw [← h3]; simp
      rw [hrun]
      exact callPost_next (ops := #[]) hT hK (call_sound hb ((map_rep hT xs).append h6) h.2)
    · exact h.elim
theorem aop_sound {ops : Array Oper} {i : Nat} {o : LO} {base : Nat} {Q : Exit → Act → World → Prop} {K : List AV → Heap → Prop} {Kc : Act → World → Prop}
    (hs : StripAt P ops i o) (hb : BInv cx D ρ H w) (hT : RepL D ρ T vs) (h : aop P base o T H K) (hK : Next cx K Kc) :
    wpOp P ops Q i Kc ⟨vs.toArray, []⟩ w := by
  obtain ⟨oi, h1, h2, h3, h4⟩ := hs
  unfold wpOp
  simp only [h1]
  unfold aop at h
  rcases h4 with ⟨h4, h5⟩ | ⟨j, want, t, h4, h5, h6⟩
  · rw [h5] at h
    simp only [Region.wanted, h4, if_true]
    rw [← h3] at h
    exact .inl (astep_sound (i := i) h2 hb hT h hK)
  · rw [h5] at h
    simp only [] at h
    have hg := hT.getD t undef
    split at h
    · rename_i b hb'
      rw [hb'] at hg
      simp only [Rep] at hg
      have htl : t < vs.length := by
        rcases Nat.lt_or_ge t vs.length with h | h
        · exact h
        · rw [List.getD_eq_getElem?_getD, List.getElem?_eq_none h] at hg; cases hg
      have hy : yielded ops vs.toArray j = some b := by
        unfold yielded
        rw [h6]
        simp only [Option.bind_some]
        rw [List.getD_eq_getElem?_getD, List.getElem?_eq_getElem htl] at hg
        simp only [List.getElem?_toArray, List.getElem?_eq_getElem htl]
        simp only [Option.getD_some] at hg
        rw [hg]
      simp only [Region.wanted, h4, hy]
      by_cases hbw : b = want
      · subst hbw
        simp only [beq_self_eq_true, if_true]
        rw [← h3] at h
        exact .inl (astep_sound (i := i) h2 hb hT (h.1 rfl) hK)
      · have : (some b == some want) = false := by simp [hbw]
        simp only [this, Bool.false_eq_true, if_false]
        obtain ⟨vs', h7, h8⟩ := putA_rep hT oi.dst (v := .raw (.tuple #[])) (x := undef) (by simp only [Rep]; rfl)
        rw [h7]
        rw [← h3] at h
        exact hK _ _ _ _ _ _ (h.2 (by cases b <;> cases want <;> simp_all)) hb h8
    · rename_i b hb'
      rw [hb'] at hg
      simp only [Rep] at hg
      have hy : yielded ops vs.toArray j = none := by
        unfold yielded
        rw [h6]
        simp only [Option.bind_some]
        rcases Nat.lt_or_ge t vs.length with htl | htl
        · rw [List.getD_eq_getElem?_getD, List.getElem?_eq_getElem htl] at hg
          simp only [List.getElem?_toArray, List.getElem?_eq_getElem htl]
          simp only [Option.getD_some] at hg
          rw [hg]
        · simp only [List.getElem?_toArray, List.getElem?_eq_none htl]
      simp only [Region.wanted, h4, hy]
      have : (none == some want) = false := rfl
      simp only [this, Bool.false_eq_true, if_false]
      obtain ⟨vs', h7, h8⟩ := putA_rep hT oi.dst (v := .raw (.tuple #[])) (x := undef) (by simp only [Rep]; rfl)
      rw [h7]
      rw [← h3] at h
      exact hK _ _ _ _ _ _ h hb h8
    · exact h.elim
/-- A region in order. -/
theorem aops_sound {ops : Array Oper} {base : Nat} {Q : Exit → Act → World → Prop} {K : List AV → Heap → Prop} (hK : Next cx K (Q .normal)) :
    ∀ (l : List (Nat × LO)), (∀ x ∈ l, StripAt P ops x.1 x.2) → ∀ (D : Store) (ρ : Env) (T : List AV) (H : Heap) (w : World) (vs : List Value), BInv cx D ρ H w → RepL D ρ T vs → aops P base K (l.map (·.2)) T H →
    wpOps P ops Q (l.map (·.1)) ⟨vs.toArray, []⟩ w
  | [], _, D, ρ, T, H, w, vs, hb, hT, h => hK _ _ _ _ _ _ h hb hT
  | x :: r, hs, D, ρ, T, H, w, vs, hb, hT, h => by
    rw [List.map_cons, wpOps_cons]
    refine aop_sound (hs x (by simp)) hb hT h ?_
    intro T' H' D' ρ' vs' w' h' hb' hT'
    exact aops_sound hK r (fun y hy => hs y (by simp [hy])) D' ρ' T' H' w' vs' hb' hT' h'
end
end Go.Proofs.Lite

namespace Go.Proofs.Lite
open Go
def opTmp : Operand → List Nat
  | .tmp t => [t]
  | _ => []
def oTmp : Option Operand → List Nat
  | some x => opTmp x
  | none => []
/-- The temporaries that an operation looks at. -/
def tmpsOf : LOp → List Nat
  | .mv x => opTmp x
  | .pick c a b => opTmp c ++ (opTmp a ++ opTmp b)
  | .bin _ x y => opTmp x ++ opTmp y
  | .beq _ x y => opTmp x ++ opTmp y
  | .eqs _ _ x y => opTmp x ++ opTmp y
  | .un _ x => opTmp x
  | .conv _ x => opTmp x
  | .nilc x => opTmp x
  | .alloc _ => []
  | .allocAt _ _ => []
  | .box x => opTmp x
  | .boxAt _ x => opTmp x
  | .load _ _ x => opTmp x
  | .store _ x v => opTmp x ++ opTmp v
  | .fad _ x => opTmp x
  | .fld _ _ _ x => opTmp x
  | .iarr _ _ x i => opTmp x ++ opTmp i
  | .isl _ x i => opTmp x ++ opTmp i
  | .aidx _ _ _ x i => opTmp x ++ opTmp i
  | .sidx x i => opTmp x ++ opTmp i
  | .sarr _ _ x lo hi => opTmp x ++ (oTmp lo ++ oTmp hi)
  | .ssl _ x lo hi => opTmp x ++ (oTmp lo ++ oTmp hi)
  | .sstr x lo hi => opTmp x ++ (oTmp lo ++ oTmp hi)
  | .ext _ x => opTmp x
  | .build _ ps => ps.flatMap fun p => opTmp p.2.2
  | .bsl _ _ _ ps => ps.flatMap fun p => opTmp p.2
  | .msl _ _ _ l c => opTmp l ++ opTmp c
  | .lens x => opTmp x
  | .lstr x => opTmp x
  | .lenc _ => []
  | .app _ _ s x => opTmp s ++ opTmp x
  | .cpy _ d s => opTmp d ++ opTmp s
  | .mm _ xs => xs.flatMap opTmp
  | .call _ xs => xs.flatMap opTmp
  | .callv x xs => opTmp x ++ xs.flatMap opTmp
  | .mkfn _ xs => xs.flatMap opTmp
  | .s2a _ _ x => opTmp x
  | .snil _ x => opTmp x
  | .bslAt _ _ _ _ ps => ps.flatMap fun p => opTmp p.2
/-- Two lists of temporaries agree at some of them. -/
def Same (L : List Nat) (T T' : List AV) : Prop := ∀ t ∈ L, T'.getD t .junk = T.getD t .junk
theorem Same.left {L L' : List Nat} {T T' : List AV} (h : Same (L ++ L') T T') : Same L T T' := fun t ht => h t (by simp [ht])
theorem Same.right {L L' : List Nat} {T T' : List AV} (h : Same (L ++ L') T T') : Same L' T T' := fun t ht => h t (by simp [ht])
theorem Same.symm {L : List Nat} {T T' : List AV} (h : Same L T T') : Same L T' T := fun t ht => (h t ht).symm
theorem ev_same {T T' : List AV} {x : Operand} (h : Same (opTmp x) T T') : ev T' x = ev T x := by
  cases x with
  | tmp t => exact h t (by simp [opTmp])
  | _ => rfl
theorem optInt_same {T T' : List AV} {d : Int} {x : Option Operand} (h : Same (oTmp x) T T') : optInt T' d x = optInt T d x := by
  cases x with
  | none => rfl
  | some x => simp only [optInt]; rw [ev_same h]
theorem map_same {T T' : List AV} : ∀ {xs : List Operand}, Same (xs.flatMap opTmp) T T' → xs.map (ev T') = xs.map (ev T)
  | [], _ => rfl
  | x :: xs, h => by
    simp only [List.flatMap_cons] at h
    simp only [List.map_cons]
    rw [ev_same h.left, map_same h.right]
theorem partsOk_same {T T' : List AV} : ∀ {ps : List (Nat × Nat × Operand)}, Same (ps.flatMap fun p => opTmp p.2.2) T T' → partsOk T' ps = partsOk T ps ∧ (ps.map fun p => (p.1, cellsOf (ev T' p.2.2))) = ps.map fun p => (p.1, cellsOf (ev T p.2.2))
  | [], _ => ⟨rfl, rfl⟩
  | p :: ps, h => by
    simp only [List.flatMap_cons] at h
    obtain ⟨h1, h2⟩ := partsOk_same h.right
    simp only [partsOk, List.map_cons]
    rw [ev_same h.left, h1, h2]
    exact ⟨rfl, rfl⟩
theorem bslParts_same {T T' : List AV} {z len : Nat} : ∀ {ps : List (Nat × Operand)}, Same (ps.flatMap fun p => opTmp p.2) T T' → bslParts T' z len ps = bslParts T z len ps ∧ (ps.map fun p => (p.1 * z, cellsOf (ev T' p.2))) = ps.map fun p => (p.1 * z, cellsOf (ev T p.2))
  | [], _ => ⟨rfl, rfl⟩
  | p :: ps, h => by
    simp only [List.flatMap_cons] at h
    obtain ⟨h1, h2⟩ := bslParts_same h.right
    simp only [bslParts, List.map_cons]
    rw [ev_same h.left, h1, h2]
    exact ⟨rfl, rfl⟩
theorem pr_same {T T' : List AV} {lop : LOp} (h : Same (tmpsOf lop) T T') : pr T' lop = pr T lop := by
  cases lop <;> simp only [tmpsOf] at h
  case mv x => simp only [pr]; rw [ev_same h]
  case pick c a b => simp only [pr]; rw [ev_same h.left, ev_same h.right.left, ev_same h.right.right]
  case bin op x y => simp only [pr]; rw [ev_same h.left, ev_same h.right]
  case beq op x y => simp only [pr]; rw [ev_same h.left, ev_same h.right]
  case eqs op n x y => simp only [pr]; rw [ev_same h.left, ev_same h.right]
  case un op x => simp only [pr]; rw [ev_same h]
  case conv op x => simp only [pr]; rw [ev_same h]
  case nilc x => simp only [pr]; rw [ev_same h]
  case fad op x => simp only [pr]; rw [ev_same h]
  case fld a b c x => simp only [pr]; rw [ev_same h]
  case iarr a b x i => simp only [pr]; rw [ev_same h.left, ev_same h.right]
  case isl b x i => simp only [pr]; rw [ev_same h.left, ev_same h.right]
  case aidx a b c x i => simp only [pr]; rw [ev_same h.left, ev_same h.right]
  case sidx x i => simp only [pr]; rw [ev_same h.left, ev_same h.right]
  case ssl z x lo hi => simp only [pr]; rw [ev_same h.left]; simp only [optInt_same h.right.left, optInt_same h.right.right]
  case sstr x lo hi => simp only [pr]; rw [ev_same h.left]; simp only [optInt_same h.right.left, optInt_same h.right.right]
  case ext k x => simp only [pr]; rw [ev_same h]
  case build z ps => simp only [pr]; rw [(partsOk_same h).1, (partsOk_same h).2]
  case lens x => simp only [pr]; rw [ev_same h]
  case lstr x => simp only [pr]; rw [ev_same h]
  case mm b xs =>
    cases xs with
    | nil => rfl
    | cons x xs => simp only [List.flatMap_cons] at h; simp only [pr]; rw [ev_same h.left, map_same h.right]
  case mkfn f xs => simp only [pr]; rw [map_same h]
  case s2a n z x => simp only [pr]; rw [ev_same h]
  case snil b x => simp only [pr]; rw [ev_same h]
  all_goals rfl
theorem lr_same {T T' : List AV} {H : Heap} {lop : LOp} (h : Same (tmpsOf lop) T T') : lr T' H lop = lr T H lop := by
  cases lop <;> simp only [tmpsOf] at h
  case load a n x => simp only [lr]; rw [ev_same h]
  case sarr l z x lo hi => simp only [lr]; rw [ev_same h.left]; simp only [optInt_same h.right.left, optInt_same h.right.right]
  all_goals rfl
theorem er_same {T T' : List AV} {H : Heap} {base : Nat} {lop : LOp} (h : Same (tmpsOf lop) T T') : er T' H base lop = er T H base lop := by
  cases lop <;> simp only [tmpsOf] at h
  case box x => simp only [er]; rw [ev_same h]
  case boxAt r x => simp only [er]; rw [ev_same h]
  case store n x v => simp only [er]; rw [ev_same h.left, ev_same h.right]
  case bsl z l zero ps => simp only [er]; rw [(bslParts_same (z := z) (len := l) h).1, (bslParts_same (z := z) (len := l) h).2]
  case bslAt r z l zero ps => simp only [er]; rw [(bslParts_same (z := z) (len := l) h).1, (bslParts_same (z := z) (len := l) h).2]
  case msl z b zero l c => simp only [er]; rw [ev_same h.left, ev_same h.right]
  case app z b s x => simp only [er]; rw [ev_same h.left, ev_same h.right]
  case cpy z d s => simp only [er]; rw [ev_same h.left, ev_same h.right]
  all_goals rfl
theorem astep_same {P : Program} {T T' : List AV} {H : Heap} {base : Nat} {K : AV → Heap → Prop} {lop : LOp} (h : Same (tmpsOf lop) T T') : astep P base T' H K lop ↔ astep P base T H K lop := by
  cases lop
  case call f xs => simp only [tmpsOf] at h; simp only [astep]; rw [map_same h]
  case callv x xs => simp only [tmpsOf] at h; simp only [astep]; rw [ev_same h.left, map_same h.right]
  all_goals simp only [astep, pr_same h, lr_same h, er_same h]
def gTmp : Option (Nat × Bool) → List Nat
  | some (t, _) => [t]
  | none => []
def looks (o : LO) : List Nat := gTmp o.g ++ tmpsOf o.op
theorem putA_get_ne {T : List AV} {d : Option Nat} {v : AV} {t : Nat} (h : d ≠ some t) : (putA T d v).getD t .junk = T.getD t .junk := by
  cases d with
  | none => rfl
  | some d =>
    have : d ≠ t := fun e => h (by rw [e])
    simp only [putA, List.getD_eq_getElem?_getD, List.getElem?_set_ne this]
theorem putA_same {T : List AV} {d : Option Nat} {v : AV} {L : List Nat} (h : ∀ t ∈ L, d ≠ some t) : Same L T (putA T d v) := fun t ht => putA_get_ne (h t ht)
theorem putA_comm {T : List AV} {d e : Option Nat} {u v : AV} (h : ∀ t, d = some t → e ≠ some t) : putA (putA T d u) e v = putA (putA T e v) d u := by
  cases d with
  | none => rfl
  | some d =>
    cases e with
    | none => rfl
    | some e =>
      have : d ≠ e := fun he => h d rfl (he ▸ rfl)
      simp only [putA]
      rw [List.set_comm _ _ this]
section
variable {P : Program} {base : Nat} {T : List AV} {H : Heap} {K : List AV → Heap → Prop}
/-- An operation that does not look at a temporary, and does not write it, goes beside its writing. -/
theorem aop_put {y : LO} {d : Option Nat} {u : AV} (h1 : ∀ t ∈ looks y, d ≠ some t) (h2 : ∀ t, d = some t → y.dst ≠ some t) :
    aop P base y (putA T d u) H K ↔ aop P base y T H (fun T' H' => K (putA T' d u) H') := by
  have hs : Same (tmpsOf y.op) T (putA T d u) := putA_same fun t ht => h1 t (by simp [looks, ht])
  unfold aop
  cases hg : y.g with
  | none =>
    simp only []
    rw [astep_same hs]
    simp only [putA_comm (u := u) h2]
  | some q =>
    obtain ⟨t, want⟩ := q
    simp only []
    rw [putA_get_ne (h1 t (by simp [looks, hg, gTmp]))]
    split
    · rw [astep_same hs]
      simp only [putA_comm (u := u) h2]
    · simp only [putA_comm (u := u) h2]
    · rfl
/-- The shape of what an operation leaves of the temporaries. -/
theorem aop_shape {y : LO} (h : aop P base y T H K) : aop P base y T H (fun T' H' => (∃ v, T' = putA T y.dst v) ∧ K T' H') := by
  unfold aop at h ⊢
  split
  · rename_i hg; rw [hg] at h
    exact astep_mono (fun v H' hk => ⟨⟨v, rfl⟩, hk⟩) h
  · rename_i t want hg
    rw [hg] at h; simp only [] at h
    split
    · rename_i b hb
      rw [hb] at h
      exact ⟨fun e => astep_mono (fun v H' hk => ⟨⟨v, rfl⟩, hk⟩) (h.1 e), fun e => ⟨⟨_, rfl⟩, h.2 e⟩⟩
    · rename_i b hb
      rw [hb] at h
      exact ⟨⟨_, rfl⟩, h⟩
    · rename_i hne hne2
      split at h
      · rename_i b hb; exact (hne b hb).elim
      · rename_i b hb; exact (hne2 b hb).elim
      · exact h
def cN (o : LO) : Bool := isPure o.op || isLr o.op
def prlr (T : List AV) (H : Heap) (lop : LOp) : Prop × AV := if isPure lop then pr T lop else lr T H lop
/-- What an operation that changes no memory asks, and gives. -/
def nop (o : LO) (T : List AV) (H : Heap) : Prop × AV :=
  match o.g with
  | none => prlr T H o.op
  | some (t, want) =>
    match T.getD t .junk with
    | .raw (.bool b) => if b = want then prlr T H o.op else (True, .raw (.tuple #[]))
    | .raw (.tuple _) => (True, .raw (.tuple #[]))
    | _ => (False, .junk)
theorem astepN {K : AV → Heap → Prop} {lop : LOp} (h : isPure lop = true ∨ isLr lop = true) : astep P base T H K lop ↔ (prlr T H lop).1 ∧ K (prlr T H lop).2 H := by
  unfold prlr
  cases lop <;> first | exact Iff.rfl | (simp [isPure, isLr] at h; done)
theorem aopN {o : LO} (h : cN o = true) : aop P base o T H K ↔ (nop o T H).1 ∧ K (putA T o.dst (nop o T H).2) H := by
  have h' : isPure o.op = true ∨ isLr o.op = true := by simpa [cN] using h
  unfold aop nop
  cases o.g with
  | none => simp only []; rw [astepN h']
  | some q =>
    obtain ⟨t, want⟩ := q
    simp only []
    generalize T.getD t .junk = x
    split
    · rename_i b
      rw [astepN h']
      by_cases hbw : b = want
      · subst hbw; simp
      · have : b = !want := by cases b <;> cases want <;> simp_all
        subst this
        simp
    · constructor
      · exact fun h => ⟨trivial, h⟩
      · exact fun h => h.2
    · rename_i hne hne2
      constructor
      · exact fun h => h.elim
      · intro h
        first
          | exact False.elim h.1
          | (split at h
             · rename_i b; exact (hne b rfl).elim
             · rename_i b; exact (hne2 b rfl).elim
             · exact h.1)
theorem nop_same {o : LO} {T T' : List AV} (h : Same (looks o) T T') : nop o T' H = nop o T H := by
  have h1 : Same (tmpsOf o.op) T T' := h.right
  unfold nop prlr
  rw [pr_same h1, lr_same h1]
  cases hg : o.g with
  | none => rfl
  | some q =>
    obtain ⟨t, want⟩ := q
    simp only []
    rw [h t (by simp [looks, hg, gTmp])]
theorem lr_fill {r : Nat} {sg : Sg} {lop : LOp} (hr : isRes (H.getD r .dead)) (h : (lr T H lop).1) : lr T (H.set r sg) lop = lr T H lop := by
  have key : ∀ i cs, H.getD i .dead = .c cs → (H.set r sg).getD i .dead = .c cs := by
    intro i cs hi
    have : r ≠ i := by intro e; subst e; rw [hi] at hr; exact hr
    rw [List.getD_eq_getElem?_getD, List.getElem?_set_ne this, ← List.getD_eq_getElem?_getD, hi]
  cases lop with
  | load a n x =>
    simp only [lr] at h ⊢
    split at h
    · rename_i i o he
      split at h
      · rename_i cs hc; rw [key _ _ hc]
      · exact h.elim
    · rfl
    · exact h.elim
  | sarr l z x lo hi =>
    simp only [lr] at h ⊢
    split at h
    · rename_i i o he
      split at h
      · rename_i cs hc; rw [key _ _ hc]
      · exact h.elim
    · exact h.elim
  | _ => exact h.elim
theorem nop_fill {o : LO} {r : Nat} {sg : Sg} (hr : isRes (H.getD r .dead)) (hn : cN o = true) (h : (nop o T H).1) : nop o T (H.set r sg) = nop o T H := by
  have key : ∀ lop, (prlr T H lop).1 → prlr T (H.set r sg) lop = prlr T H lop := by
    intro lop hl
    unfold prlr at hl ⊢
    split
    · rfl
    · rename_i hp
      rw [if_neg hp] at hl
      exact lr_fill hr hl
  unfold nop at h ⊢
  split
  · rename_i hg; rw [hg] at h; exact key _ h
  · rename_i t want hg
    rw [hg] at h
    simp only [] at h
    split
    · rename_i b hb
      rw [hb] at h
      simp only [] at h
      split
      · rename_i hbw
        rw [if_pos hbw] at h
        exact key _ h
      · rfl
    · rfl
    · rfl
end
end Go.Proofs.Lite

namespace Go.Proofs.Lite
open Go
section
variable {P : Program} {base : Nat} {T : List AV} {H : Heap} {K : List AV → Heap → Prop}
theorem res_ne {r i : Nat} {cs : List AV} (hr : H[r]? = some .res) (hi : H[i]? = some (.c cs)) : r ≠ i := by
  intro e; subst e; rw [hr] at hi; cases hi
theorem argsOk_fill {e : List (Nat × Nat)} {m : Nat} {bs : List Nat} {r : Nat} {sg : Sg} (hr : H[r]? = some .res) : ∀ {as acs : List AV}, argsOk e m H bs as acs → argsOk e m (H.set r sg) bs as acs
  | [], [], _ => by simp [argsOk]
  | a :: as, c :: cs, h => by
    simp only [argsOk] at h ⊢
    refine ⟨?_, argsOk_fill hr h.2⟩
    rcases h.1 with h | ⟨i, o, cs, seg, h1, h2, h3, h4⟩ | ⟨i, z, o, n, b, cs, seg, h1, h2, h3, h4⟩
    · exact .inl h
    · exact .inr (.inl ⟨i, o, cs, seg, h1, h2, by rw [List.getElem?_set_ne (res_ne hr h3)]; exact h3, h4⟩)
    · exact .inr (.inr ⟨i, z, o, n, b, cs, seg, h1, h2, by rw [List.getElem?_set_ne (res_ne hr h3)]; exact h3, h4⟩)
  | [], _ :: _, h => by simp [argsOk] at h
  | _ :: _, [], h => by simp [argsOk] at h
theorem embOk_fill {e0 : List (Nat × Nat)} {m : Nat} {bs : List Nat} {r : Nat} {sg : Sg} (hr : H[r]? = some .res) : ∀ {e : List (Nat × Nat)} {Hc : Heap}, embOk e0 m H bs e Hc → embOk e0 m (H.set r sg) bs e Hc
  | [], [], _ => by simp [embOk]
  | (i, o) :: e, .c cs :: Hc, h => by
    simp only [embOk] at h ⊢
    obtain ⟨⟨h1, seg, h2, h3⟩, h4⟩ := h
    exact ⟨⟨h1, seg, by rw [List.getElem?_set_ne (res_ne hr h2)]; exact h2, h3⟩, embOk_fill hr h4⟩
  | [], _ :: _, h => by simp [embOk] at h
  | _ :: _, [], h => by simp [embOk] at h
  | _ :: _, .dead :: _, h => by simp [embOk] at h
  | _ :: _, .res :: _, h => by simp [embOk] at h
  | _ :: _, .m _ :: _, h => by simp [embOk] at h
theorem getD_set_ne' {r i : Nat} {sg : Sg} (h : r ≠ i) : (H.set r sg).getD i .dead = H.getD i .dead := by
  rw [List.getD_eq_getElem?_getD, List.getElem?_set_ne h, List.getD_eq_getElem?_getD]
theorem back1_fill {e : List (Nat × Nat)} {m i o r : Nat} {s1 s2 sg : Sg} (h : r ≠ i) : back1 e m (H.set r sg) i o s1 s2 = (back1 e m H i o s1 s2).set r sg := by
  unfold back1
  rw [getD_set_ne' h]
  split
  · split
    · split <;> rw [List.set_comm _ _ h]
    · rw [List.set_comm _ _ h]
  · rw [List.set_comm _ _ h]
theorem backs_fill {e : List (Nat × Nat)} {m r : Nat} {sg : Sg} : ∀ {es : List (Nat × Nat)} {Hc Hc' H : Heap}, r ∉ es.map (·.1) → backs e m es Hc Hc' (H.set r sg) = (backs e m es Hc Hc' H).set r sg
  | [], _, _, _, _ => by simp [backs]
  | (i, o) :: es, s :: Hc, s' :: Hc', H, h => by
    simp only [List.map_cons, List.mem_cons, not_or] at h
    simp only [backs]
    rw [back1_fill h.1, backs_fill h.2]
  | (i, o) :: r, [], _, H, _ => by simp [backs]
  | (i, o) :: r, _ :: _, [], H, _ => by simp [backs]
theorem CallStep.fill {f : FuncId} {args : List AV} {K : AV → Heap → Prop} {r : Nat} {sg : Sg} (hr : H[r]? = some .res) (h : CallStep P f args H K) :
    CallStep P f args (H.set r sg) (fun v H' => ∃ H0, H0[r]? = some .res ∧ H' = H0.set r sg ∧ K v H0) := by
  obtain ⟨e, bs, argsc, Hc, R, h1, h2, h3, h4, h5, h6, h7⟩ := h
  have hlt : r < H.length := (List.getElem?_eq_some_iff.1 hr).1
  have hne : r ∉ e.map (·.1) := by
    intro hm
    obtain ⟨⟨i, o⟩, hq, hi⟩ := List.mem_map.1 hm
    obtain ⟨k, hk⟩ := List.getElem?_of_mem hq
    obtain ⟨_, cs, seg, _, h8, _⟩ := (embOk_get h3).2 k i o hk
    simp only [] at hi
    subst hi
    exact res_ne hr h8 rfl
  have ht : tailB e (H.set r sg) Hc = tailB e H Hc := by
    funext k
    unfold tailB
    cases hk : e[k]? with
    | none => rfl
    | some q =>
      obtain ⟨i, o⟩ := q
      obtain ⟨_, cs, seg, _, h8, _⟩ := (embOk_get h3).2 k i o hk
      simp only []
      rw [getD_set_ne' (res_ne hr h8)]
  refine ⟨e, bs, argsc, Hc, R, h1, ?_, ?_, h4, ?_, ?_, fun v Hc' hR => ⟨(h7 v Hc' hR).1, ?_⟩⟩
  · rw [List.length_set]; exact argsOk_fill hr h2
  · rw [List.length_set]; exact embOk_fill hr h3
  · rw [ht]; exact h5
  · rw [ht]; exact h6
  · rw [List.length_set]
    refine ⟨back e H.length H Hc Hc', ?_, ?_, (h7 v Hc' hR).2⟩
    · rw [back_lt hlt, backs_get_ne hne]; exact hr
    · unfold back
      rw [backs_fill hne, List.set_append_left _ _ (by rw [backs_length]; exact hlt)]
def isCS : LOp → Bool
  | .call .. | .callv .. | .store .. => true
  | _ => false
theorem astep_fill {K : AV → Heap → Prop} {lop : LOp} {r : Nat} {sg : Sg} (hr : H[r]? = some .res) (hc : isCS lop = true) (h : astep P base T H K lop) :
    astep P base T (H.set r sg) (fun v H' => ∃ H0, H0[r]? = some .res ∧ H' = H0.set r sg ∧ K v H0) lop := by
  cases lop with
  | call f xs => exact CallStep.fill hr h
  | callv x xs =>
    simp only [astep] at h ⊢
    split at h
    · exact ⟨h.1, h.2.fill hr⟩
    · exact h.elim
  | store n x v =>
    simp only [astep, er] at h ⊢
    obtain ⟨h1, h2⟩ := h
    split at h1
    · rename_i i o he
      simp only [he] at h2
      split at h1
      · rename_i cs hcs
        have hne : r ≠ i := res_ne hr (getD_c hcs)
        simp only [hcs] at h2
        rw [getD_set_ne' hne, hcs]
        refine ⟨h1, _, ?_, ?_, h2⟩
        · rw [List.getElem?_set_ne (Ne.symm hne)]; exact hr
        · exact List.set_comm _ _ hne
      · exact h1.elim
    · exact h1.elim
  | _ => simp [isCS] at hc
theorem aop_fill {x : LO} {r : Nat} {sg : Sg} (hr : H[r]? = some .res) (hc : isCS x.op = true) (h : aop P base x T H K) :
    aop P base x T (H.set r sg) (fun T' H' => ∃ H0, H0[r]? = some .res ∧ H' = H0.set r sg ∧ K T' H0) := by
  unfold aop at h ⊢
  split
  · rename_i hg; rw [hg] at h; exact astep_fill hr hc h
  · rename_i t want hg
    rw [hg] at h; simp only [] at h
    split
    · rename_i b hb
      rw [hb] at h
      exact ⟨fun e => astep_fill hr hc (h.1 e), fun e => ⟨H, hr, rfl, h.2 e⟩⟩
    · rename_i b hb
      rw [hb] at h
      exact ⟨H, hr, rfl, h⟩
    · rename_i hne hne2
      split at h
      · rename_i b hb; exact (hne b hb).elim
      · rename_i b hb; exact (hne2 b hb).elim
      · exact h
/-- An allocation at a reserved place. -/
def cR (o : LO) : Bool := match o.g, o.op with
  | none, .allocAt .. => true
  | none, .boxAt .. => true
  | none, .bslAt .. => true
  | _, _ => false
def slotR (o : LO) : Nat := match o.op with
  | .allocAt r _ => r
  | .boxAt r _ => r
  | .bslAt r _ _ _ _ => r
  | _ => 0
def cellsR (T : List AV) (o : LO) : Prop × List AV := match o.op with
  | .allocAt _ z => (True, raws z)
  | .boxAt _ x => (ones (cellsOf (ev T x)), cellsOf (ev T x))
  | .bslAt _ z len zero parts => (bslParts T z len parts, wrAll (raws (List.replicate len zero).flatten) (parts.map fun p => (p.1 * z, cellsOf (ev T p.2))))
  | _ => (False, [])
def valR (base : Nat) (o : LO) : AV := match o.op with
  | .bslAt r z len _ _ => .sl (base + r) z 0 len true
  | _ => .ptr (base + slotR o) 0
theorem aopR {o : LO} (h : cR o = true) : aop P base o T H K ↔ (cellsR T o).1 ∧ H[base + slotR o]? = some .res ∧ K (putA T o.dst (valR base o)) (H.set (base + slotR o) (.c (cellsR T o).2)) := by
  have hres : ∀ i, isRes (H.getD i .dead) ↔ H[i]? = some .res := fun i => ⟨isRes_get, fun h => by rw [List.getD_eq_getElem?_getD, h]; trivial⟩
  obtain ⟨d, g, op⟩ := o
  cases g with
  | some q => simp [cR] at h
  | none =>
    cases op with
    | allocAt r z => simp only [aop, astep, er, cellsR, slotR, valR, hres, true_and]
    | boxAt r x => simp only [aop, astep, er, cellsR, slotR, valR, hres, and_assoc]
    | bslAt r z len zero parts => simp only [aop, astep, er, cellsR, slotR, valR, hres, and_assoc]
    | _ => simp [cR] at h
theorem cellsR_same {o : LO} {T T' : List AV} (h : Same (looks o) T T') : cellsR T' o = cellsR T o := by
  have h1 : Same (tmpsOf o.op) T T' := h.right
  obtain ⟨d, g, op⟩ := o
  cases op with
  | boxAt r x => simp only [cellsR, tmpsOf] at h1 ⊢; rw [ev_same h1]
  | bslAt r z l zero ps => simp only [cellsR, tmpsOf] at h1 ⊢; rw [(bslParts_same (z := z) (len := l) h1).1, (bslParts_same (z := z) (len := l) h1).2]
  | _ => rfl
end
end Go.Proofs.Lite
