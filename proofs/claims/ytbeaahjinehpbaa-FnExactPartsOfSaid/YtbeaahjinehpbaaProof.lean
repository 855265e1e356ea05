/- For every input the law FnExactPartsOf returns true and leaves its arguments as they were: PartsOf answers as the reference does, and its result shares no memory. No conditions. -/
import Derived.Test.YtbeaahjinehpbaaRows
import Derived.Test.YtbeaahjinehpbaaGx
set_option linter.all false
namespace Go.Proofs.Ytbeaahjinehpbaa.fnExactPartsOf
open Go Go.ChangeShapes Go.WideShapes Go.ChangeAt Go.RowKit Go.Proofs.Lite
theorem own : ownKnob Try.prog.godebug = none := by kernel_rfl
theorem reads26 : ReadsC Try.prog 26 (fun xs => ∃ n A, xs = wd n A) :=
  readsC_wd Try.underlying26 rfl (by kernel_rfl) rfl rfl (by kernel_rfl) (by kernel_rfl) (readsC_bool Try.underlying4) (readsC_mg Try.underlying24 (by kernel_rfl) (by kernel_rfl) Try.underlying23)
theorem reads28 : ReadsV Try.prog 28 (fun a => ∃ xs, (∃ n1 A1 n2 A2 pl, -9223372036854775808 ≤ pl ∧ pl < 9223372036854775808 ∧ xs = pc n1 A1 n2 A2 pl) ∧ a = .agg xs) :=
  readsV_struct Try.underlying28 (readsC_pc Try.underlying28 rfl (by kernel_rfl) rfl rfl rfl (by kernel_rfl) (by kernel_rfl) (by kernel_rfl) reads26 reads26 Try.underlying2)
theorem reads22 : ReadsV Try.prog 22 (fun a => ∃ l : List Int, l.length ≤ 9223372036854775807 ∧ (∀ x ∈ l, -9223372036854775808 ≤ x ∧ x < 9223372036854775808) ∧ a = roI l) :=
  readsV_ints Try.underlying22 (by kernel_rfl) Try.underlying2
theorem callable1 : callable Try.prog theB.I_ValidPoly_1 = true := by kernel_rfl
theorem ct (xs : List AV) (h : AllS [(fun a => ∃ l : List Int, l.length ≤ 9223372036854775807 ∧ (∀ x ∈ l, -9223372036854775808 ≤ x ∧ x < 9223372036854775808) ∧ a = roI l)] xs) :
    Ct Try.prog theB.W_FnExactPartsOf xs [] (fun v H' => H' = [] ∧ v = .raw (.bool true)) := by
  obtain ⟨a0, ys0, rfl, ⟨l0, hl0, -, rfl⟩, h1⟩ := allS_cons h
  obtain rfl := allS_nil h1
  exact (W_FnExactPartsOf_pf isB callable1 l0 hl0).ct
set_option maxRecDepth 100000 in
theorem lifted (os : Os) (started : os.Started) (H : Type) (enc : TypeId × Value → H) :
    ReturnsInHanded {} Try.checked os 4 .any (Rows.fnExactPartsOfSpec.pre6 enc Try.prog Try.f4 Rows.fnExactPartsOfRow.domain false) (Rows.fnExactPartsOfSpec.post enc Try.prog Try.f4 false true false false) := by
  refine returnsInHanded_of_change (C := Try.checked) own started (by kernel_rfl) Try.func4
    (ChangeSpec.witness6 (enc := enc) (C := Try.checked) false ⟨#[], #[.slice none 0 0], []⟩ 8 (by kernel_rfl) (by kernel_rfl) (by kernel_rfl) (by kernel_rfl)) ?_
  intro W base args ds gs before hval hW _ _
  refine law_contract (P := Try.prog) (ts := [22]) (Ss := [_]) (tb := 4) (by rw [Try.params4]) ⟨reads22, trivial⟩ (by kernel_rfl) ?_ rfl Try.underlying4 rfl ?_ ?_ hval hW
  · intro t ht
    simp only [List.mem_cons, List.not_mem_nil, or_false] at ht
    rcases ht with rfl
    · exact ⟨by kernel_rfl, of_decide_eq_true (by kernel_rfl)⟩
  · intro H ds hl
    match ds, hl with
    | [d1], _ => exact ⟨rfl, rfl, rfl⟩
  · exact ct
theorem said : Rows.FnExactPartsOfSaid :=
  OpenClaim.holds_of_wide 4 Try.f4 rfl rfl rfl rfl rfl rfl rfl ⟨rfl, rfl, rfl, rfl, rfl⟩ rfl rfl rfl rfl rfl (by kernel_rfl) Try.func4 (by kernel_rfl)
    (of_decide_eq_true (by kernel_rfl)) (by unfold Func.isWrapper; first | (rw [if_pos (by decide +kernel)]; kernel_rfl) | (rw [if_neg (by decide +kernel)]; exact ⟨rfl, rfl⟩))
    (fun os started H enc _ => lifted os started H enc)
#print axioms said
end Go.Proofs.Ytbeaahjinehpbaa.fnExactPartsOf
