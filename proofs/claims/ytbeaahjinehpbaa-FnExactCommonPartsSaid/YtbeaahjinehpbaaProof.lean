/- For every input the law FnExactCommonParts returns true and leaves its arguments as they were: CommonParts answers as the reference does. No conditions. -/
import Derived.Test.YtbeaahjinehpbaaRows
import Derived.Test.YtbeaahjinehpbaaGx
set_option linter.all false
namespace Go.Proofs.Ytbeaahjinehpbaa.fnExactCommonParts
open Go Go.ChangeShapes Go.WideShapes Go.ChangeAt Go.RowKit Go.Proofs.Lite
theorem own : ownKnob Try.prog.godebug = none := by kernel_rfl
theorem reads26 : ReadsC Try.prog 26 (fun xs => ∃ n A, xs = wd n A) :=
  readsC_wd Try.underlying26 rfl (by kernel_rfl) rfl rfl (by kernel_rfl) (by kernel_rfl) (readsC_bool Try.underlying4) (readsC_mg Try.underlying24 (by kernel_rfl) (by kernel_rfl) Try.underlying23)
theorem reads28 : ReadsV Try.prog 28 (fun a => ∃ xs, (∃ n1 A1 n2 A2 pl, -9223372036854775808 ≤ pl ∧ pl < 9223372036854775808 ∧ xs = pc n1 A1 n2 A2 pl) ∧ a = .agg xs) :=
  readsV_struct Try.underlying28 (readsC_pc Try.underlying28 rfl (by kernel_rfl) rfl rfl rfl (by kernel_rfl) (by kernel_rfl) (by kernel_rfl) reads26 reads26 Try.underlying2)
theorem reads22 : ReadsV Try.prog 22 (fun a => ∃ l : List Int, l.length ≤ 9223372036854775807 ∧ (∀ x ∈ l, -9223372036854775808 ≤ x ∧ x < 9223372036854775808) ∧ a = roI l) :=
  readsV_ints Try.underlying22 (by kernel_rfl) Try.underlying2
theorem callable1 : callable Try.prog theB.I_ValidPoly_1 = true := by kernel_rfl
theorem ct (xs : List AV) (h : AllS [(fun a => ∃ l : List Int, l.length ≤ 9223372036854775807 ∧ (∀ x ∈ l, -9223372036854775808 ≤ x ∧ x < 9223372036854775808) ∧ a = roI l), (fun a => ∃ l : List Int, l.length ≤ 9223372036854775807 ∧ (∀ x ∈ l, -9223372036854775808 ≤ x ∧ x < 9223372036854775808) ∧ a = roI l), (fun a => ∃ xs, (∃ n1 A1 n2 A2 pl, -9223372036854775808 ≤ pl ∧ pl < 9223372036854775808 ∧ xs = pc n1 A1 n2 A2 pl) ∧ a = .agg xs), (fun a => ∃ xs, (∃ n1 A1 n2 A2 pl, -9223372036854775808 ≤ pl ∧ pl < 9223372036854775808 ∧ xs = pc n1 A1 n2 A2 pl) ∧ a = .agg xs)] xs) :
    Ct Try.prog theB.W_FnExactCommonParts xs [] (fun v H' => H' = [] ∧ v = .raw (.bool true)) := by
  obtain ⟨a0, ys0, rfl, ⟨l0, hl0, -, rfl⟩, h1⟩ := allS_cons h
  obtain ⟨a1, ys1, rfl, ⟨l1, hl1, -, rfl⟩, h2⟩ := allS_cons h1
  obtain ⟨a2, ys2, rfl, ⟨us2, ⟨n12, A12, n22, A22, pl2, -, -, rfl⟩, rfl⟩, h3⟩ := allS_cons h2
  obtain ⟨a3, ys3, rfl, ⟨us3, ⟨n13, A13, n23, A23, pl3, -, -, rfl⟩, rfl⟩, h4⟩ := allS_cons h3
  obtain rfl := allS_nil h4
  exact (W_FnExactCommonParts_pf isB callable1 l0 hl0 l1 hl1 n12 A12 n22 A22 pl2 n13 A13 n23 A23 pl3).ct
set_option maxRecDepth 100000 in
theorem lifted (os : Os) (started : os.Started) (H : Type) (enc : TypeId × Value → H) :
    ReturnsInHanded {} Try.checked os 5 .any (Rows.fnExactCommonPartsSpec.pre6 enc Try.prog Try.f5 Rows.fnExactCommonPartsRow.domain false) (Rows.fnExactCommonPartsSpec.post enc Try.prog Try.f5 false true false false) := by
  refine returnsInHanded_of_change (C := Try.checked) own started (by kernel_rfl) Try.func5
    (ChangeSpec.witness6 (enc := enc) (C := Try.checked) false ⟨#[], #[.slice none 0 0, .slice none 0 0, .agg #[.bool false, .int .u32 0, .int .u32 0, .int .u32 0, .int .u32 0, .int .u32 0, .int .u32 0, .bool false, .int .u32 0, .int .u32 0, .int .u32 0, .int .u32 0, .int .u32 0, .int .u32 0, .int .i64 0], .agg #[.bool false, .int .u32 0, .int .u32 0, .int .u32 0, .int .u32 0, .int .u32 0, .int .u32 0, .bool false, .int .u32 0, .int .u32 0, .int .u32 0, .int .u32 0, .int .u32 0, .int .u32 0, .int .i64 0]], []⟩ 8 (by kernel_rfl) (by kernel_rfl) (by kernel_rfl) (by kernel_rfl)) ?_
  intro W base args ds gs before hval hW _ _
  refine law_contract (P := Try.prog) (ts := [22, 22, 28, 28]) (Ss := [_, _, _, _]) (tb := 4) (by rw [Try.params5]) ⟨reads22, reads22, reads28, reads28, trivial⟩ (by kernel_rfl) ?_ rfl Try.underlying4 rfl ?_ ?_ hval hW
  · intro t ht
    simp only [List.mem_cons, List.not_mem_nil, or_false] at ht
    rcases ht with rfl | rfl | rfl | rfl
    · exact ⟨by kernel_rfl, of_decide_eq_true (by kernel_rfl)⟩
    · exact ⟨by kernel_rfl, of_decide_eq_true (by kernel_rfl)⟩
    · exact ⟨by kernel_rfl, of_decide_eq_true (by kernel_rfl)⟩
    · exact ⟨by kernel_rfl, of_decide_eq_true (by kernel_rfl)⟩
  · intro H ds hl
    match ds, hl with
    | [d1, d2, d3, d4], _ => exact ⟨rfl, rfl, rfl⟩
  · exact ct
theorem said : Rows.FnExactCommonPartsSaid :=
  OpenClaim.holds_of_wide 5 Try.f5 rfl rfl rfl rfl rfl rfl rfl ⟨rfl, rfl, rfl, rfl, rfl⟩ rfl rfl rfl rfl rfl (by kernel_rfl) Try.func5 (by kernel_rfl)
    (of_decide_eq_true (by kernel_rfl)) (by unfold Func.isWrapper; first | (rw [if_pos (by decide +kernel)]; kernel_rfl) | (rw [if_neg (by decide +kernel)]; exact ⟨rfl, rfl⟩))
    (fun os started H enc _ => lifted os started H enc)
#print axioms said
end Go.Proofs.Ytbeaahjinehpbaa.fnExactCommonParts
