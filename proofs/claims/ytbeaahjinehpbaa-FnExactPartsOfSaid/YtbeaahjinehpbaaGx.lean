/- A layer over the walk, contracts of functions, and plain laws: parts of the proof in YtbeaahjinehpbaaProof. -/
import Derived.Test.YtbeaahjinehpbaaProg
import Derived.KernelRfl
import Derived.Test.YtbeaahjinehpbaaFx
set_option linter.all false
namespace Go.Proofs.Lite
open Go

def theB : FnsB := {W_toInt64S := 9, W_toPart := 10, W_eqInt64S := 12, W_markInt64S := 16, W_eqWide := 26, S_l05Ok := 27, S_l05Part := 28, S_l05One := 29, W_toWide := 30, I_ValidPoly := 31, I_ValidPart := 32, S_l05Simple := 34, S_l01Up := 35, S_l01Of := 36, S_l01Neg := 39, I_newSturm := 40, I_WideOf := 41, I_opposite := 44, S_l00Max := 46, S_l01Compare := 47, S_l01Mul := 48, S_l05Chain := 49, S_l05Count := 50, I_oneZero := 51, I_calc_up := 53, I_compare := 54, I_calc_chain := 55, I_sturm_count := 57, S_l05Parted := 58, S_l05Refine := 59, I_placesOk := 60, I_sturm_refine := 61, S_l05Approx := 62, I_sturm_zeroAt := 64, W_eqUint32A6 := 65, S_l00In := 66, S_l01Ok := 67, S_l02Places := 68, W_toUint32A6 := 69, X_ContainsFunc_int64 := 70, I_ValidPoly_1 := 71, I_within := 72, I_ValidWide := 73, S_l05Sturm := 74, S_l01UpMag := 75, S_l01Made := 76, S_l01Add := 78, I_calc_chainOf := 79, I_wide := 80, I_calc_add := 81, I_calc_mul := 82, S_l05Wides := 83, S_l05Thin := 84, S_l05Opposite := 85, S_l01Cmp := 86, S_l05Rest := 87, S_l05Turns := 88, I_widen := 89, I_lighter := 90, I_size_bits := 91, I_size_up := 92, I_size_compare := 93, I_calc_rest := 94, I_sturm_turns := 95, S_l01Div := 96, I_divide := 97, S_l01Near := 98, I_calc_near := 99, X_IndexFunc_int64 := 100, S_l05Slope := 101, S_l01Bits := 102, S_l01Zero := 103, S_l01Plus := 104, S_l01Minus := 105, I_slope := 106, I_size_plus := 107, I_size_minus := 108, I_size_times := 109, S_CommonWide := 110, S_l05Short := 111, S_l05Value := 112, S_l01Sign := 113, I_commonSize := 114, I_size_by := 115, X_Len32 := 116, I_trimmed := 117, X_Clone_Wide := 118, I_calc_sub := 119, I_sign := 120, I_calc_valueAt := 121, S_l01DivMag := 122, I_one := 123, S_l01DownMag := 124, I_size_down := 125, S_l02Up := 126, I_size_bySmall := 127, X_LeadingZeros32 := 128, I_divideStep := 129, W_FnExactHasOneZero := 3, W_FnExactPartsOf := 4, W_FnExactCommonParts := 5, W_FnExactRefinePart := 6, W_FnExactZeroApprox := 7, S_HasOneZero := 8, I_HasOneZero := 11, S_PartsOf := 13, I_PartsOf := 14, W_eqPartS := 15, W_markPartS := 17, W_heldPartS := 18, S_CommonParts := 19, I_CommonParts := 20, S_RefinePart := 21, I_RefinePart := 22, W_eqPart := 23, S_ZeroApprox := 24, I_ZeroApprox := 25, I_CountZeros := 33, S_l05Bound := 37, S_l05Cut := 38, I_bound := 42, I_sturm_split := 43, S_l05Common := 45, I_calc_commonOf := 52, I_calc_slopes := 56, I_calc_told := 63, S_l05Abs := 77}
theorem isB_W_toInt64S : stripF Go.Proofs.Try.prog (theB.toFnsA).W_toInt64S = some (W_toInt64S_c (theB.toFnsA)) := by kernel_rfl
theorem isB_W_eqInt64S : stripF Go.Proofs.Try.prog (theB.toFnsA).W_eqInt64S = some (W_eqInt64S_c (theB.toFnsA)) := by kernel_rfl
theorem isB_W_markInt64S : stripF Go.Proofs.Try.prog (theB.toFnsA).W_markInt64S = some (W_markInt64S_c (theB.toFnsA)) := by kernel_rfl
theorem isB_W_eqWide : stripF Go.Proofs.Try.prog (theB.toFnsA).W_eqWide = some (W_eqWide_c (theB.toFnsA)) := by kernel_rfl
theorem isB_S_l05Ok : stripF Go.Proofs.Try.prog (theB.toFnsA).S_l05Ok = some (S_l05Ok_c (theB.toFnsA)) := by kernel_rfl
theorem isB_I_ValidPoly : stripF Go.Proofs.Try.prog (theB.toFnsA).I_ValidPoly = some (I_ValidPoly_c (theB.toFnsA)) := by kernel_rfl
theorem isB_S_l05Simple : stripF Go.Proofs.Try.prog (theB.toFnsA).S_l05Simple = some (S_l05Simple_c (theB.toFnsA)) := by kernel_rfl
theorem isB_S_l01Up : stripF Go.Proofs.Try.prog (theB.toFnsA).S_l01Up = some (S_l01Up_c (theB.toFnsA)) := by kernel_rfl
theorem isB_S_l01Of : stripF Go.Proofs.Try.prog (theB.toFnsA).S_l01Of = some (S_l01Of_c (theB.toFnsA)) := by kernel_rfl
theorem isB_S_l01Neg : stripF Go.Proofs.Try.prog (theB.toFnsA).S_l01Neg = some (S_l01Neg_c (theB.toFnsA)) := by kernel_rfl
theorem isB_I_newSturm : stripF Go.Proofs.Try.prog (theB.toFnsA).I_newSturm = some (I_newSturm_c (theB.toFnsA)) := by kernel_rfl
theorem isB_I_WideOf : stripF Go.Proofs.Try.prog (theB.toFnsA).I_WideOf = some (I_WideOf_c (theB.toFnsA)) := by kernel_rfl
theorem isB_I_opposite : stripF Go.Proofs.Try.prog (theB.toFnsA).I_opposite = some (I_opposite_c (theB.toFnsA)) := by kernel_rfl
theorem isB_S_l00Max : stripF Go.Proofs.Try.prog (theB.toFnsA).S_l00Max = some (S_l00Max_c (theB.toFnsA)) := by kernel_rfl
theorem isB_S_l01Mul : stripF Go.Proofs.Try.prog (theB.toFnsA).S_l01Mul = some (S_l01Mul_c (theB.toFnsA)) := by kernel_rfl
theorem isB_S_l05Chain : stripF Go.Proofs.Try.prog (theB.toFnsA).S_l05Chain = some (S_l05Chain_c (theB.toFnsA)) := by kernel_rfl
theorem isB_S_l05Count : stripF Go.Proofs.Try.prog (theB.toFnsA).S_l05Count = some (S_l05Count_c (theB.toFnsA)) := by kernel_rfl
theorem isB_I_calc_up : stripF Go.Proofs.Try.prog (theB.toFnsA).I_calc_up = some (I_calc_up_c (theB.toFnsA)) := by kernel_rfl
theorem isB_I_calc_chain : stripF Go.Proofs.Try.prog (theB.toFnsA).I_calc_chain = some (I_calc_chain_c (theB.toFnsA)) := by kernel_rfl
theorem isB_I_sturm_count : stripF Go.Proofs.Try.prog (theB.toFnsA).I_sturm_count = some (I_sturm_count_c (theB.toFnsA)) := by kernel_rfl
theorem isB_W_eqUint32A6 : stripF Go.Proofs.Try.prog (theB.toFnsA).W_eqUint32A6 = some (W_eqUint32A6_c (theB.toFnsA)) := by kernel_rfl
theorem isB_S_l00In : stripF Go.Proofs.Try.prog (theB.toFnsA).S_l00In = some (S_l00In_c (theB.toFnsA)) := by kernel_rfl
theorem isB_S_l01Ok : stripF Go.Proofs.Try.prog (theB.toFnsA).S_l01Ok = some (S_l01Ok_c (theB.toFnsA)) := by kernel_rfl
theorem isB_X_ContainsFunc_int64 : stripF Go.Proofs.Try.prog (theB.toFnsA).X_ContainsFunc_int64 = some (X_ContainsFunc_int64_c (theB.toFnsA)) := by kernel_rfl
theorem isB_I_ValidPoly_1 : stripF Go.Proofs.Try.prog (theB.toFnsA).I_ValidPoly_1 = some (I_ValidPoly_1_c (theB.toFnsA)) := by kernel_rfl
theorem isB_I_within : stripF Go.Proofs.Try.prog (theB.toFnsA).I_within = some (I_within_c (theB.toFnsA)) := by kernel_rfl
theorem isB_S_l05Sturm : stripF Go.Proofs.Try.prog (theB.toFnsA).S_l05Sturm = some (S_l05Sturm_c (theB.toFnsA)) := by kernel_rfl
theorem isB_S_l01UpMag : stripF Go.Proofs.Try.prog (theB.toFnsA).S_l01UpMag = some (S_l01UpMag_c (theB.toFnsA)) := by kernel_rfl
theorem isB_S_l01Made : stripF Go.Proofs.Try.prog (theB.toFnsA).S_l01Made = some (S_l01Made_c (theB.toFnsA)) := by kernel_rfl
theorem isB_S_l01Add : stripF Go.Proofs.Try.prog (theB.toFnsA).S_l01Add = some (S_l01Add_c (theB.toFnsA)) := by kernel_rfl
theorem isB_I_calc_chainOf : stripF Go.Proofs.Try.prog (theB.toFnsA).I_calc_chainOf = some (I_calc_chainOf_c (theB.toFnsA)) := by kernel_rfl
theorem isB_I_wide : stripF Go.Proofs.Try.prog (theB.toFnsA).I_wide = some (I_wide_c (theB.toFnsA)) := by kernel_rfl
theorem isB_I_calc_add : stripF Go.Proofs.Try.prog (theB.toFnsA).I_calc_add = some (I_calc_add_c (theB.toFnsA)) := by kernel_rfl
theorem isB_I_calc_mul : stripF Go.Proofs.Try.prog (theB.toFnsA).I_calc_mul = some (I_calc_mul_c (theB.toFnsA)) := by kernel_rfl
theorem isB_S_l05Wides : stripF Go.Proofs.Try.prog (theB.toFnsA).S_l05Wides = some (S_l05Wides_c (theB.toFnsA)) := by kernel_rfl
theorem isB_S_l05Thin : stripF Go.Proofs.Try.prog (theB.toFnsA).S_l05Thin = some (S_l05Thin_c (theB.toFnsA)) := by kernel_rfl
theorem isB_S_l05Opposite : stripF Go.Proofs.Try.prog (theB.toFnsA).S_l05Opposite = some (S_l05Opposite_c (theB.toFnsA)) := by kernel_rfl
theorem isB_S_l01Cmp : stripF Go.Proofs.Try.prog (theB.toFnsA).S_l01Cmp = some (S_l01Cmp_c (theB.toFnsA)) := by kernel_rfl
theorem isB_S_l05Rest : stripF Go.Proofs.Try.prog (theB.toFnsA).S_l05Rest = some (S_l05Rest_c (theB.toFnsA)) := by kernel_rfl
theorem isB_S_l05Turns : stripF Go.Proofs.Try.prog (theB.toFnsA).S_l05Turns = some (S_l05Turns_c (theB.toFnsA)) := by kernel_rfl
theorem isB_I_widen : stripF Go.Proofs.Try.prog (theB.toFnsA).I_widen = some (I_widen_c (theB.toFnsA)) := by kernel_rfl
theorem isB_I_lighter : stripF Go.Proofs.Try.prog (theB.toFnsA).I_lighter = some (I_lighter_c (theB.toFnsA)) := by kernel_rfl
theorem isB_I_size_bits : stripF Go.Proofs.Try.prog (theB.toFnsA).I_size_bits = some (I_size_bits_c (theB.toFnsA)) := by kernel_rfl
theorem isB_I_size_up : stripF Go.Proofs.Try.prog (theB.toFnsA).I_size_up = some (I_size_up_c (theB.toFnsA)) := by kernel_rfl
theorem isB_I_size_compare : stripF Go.Proofs.Try.prog (theB.toFnsA).I_size_compare = some (I_size_compare_c (theB.toFnsA)) := by kernel_rfl
theorem isB_I_calc_rest : stripF Go.Proofs.Try.prog (theB.toFnsA).I_calc_rest = some (I_calc_rest_c (theB.toFnsA)) := by kernel_rfl
theorem isB_I_sturm_turns : stripF Go.Proofs.Try.prog (theB.toFnsA).I_sturm_turns = some (I_sturm_turns_c (theB.toFnsA)) := by kernel_rfl
theorem isB_S_l01Div : stripF Go.Proofs.Try.prog (theB.toFnsA).S_l01Div = some (S_l01Div_c (theB.toFnsA)) := by kernel_rfl
theorem isB_X_IndexFunc_int64 : stripF Go.Proofs.Try.prog (theB.toFnsA).X_IndexFunc_int64 = some (X_IndexFunc_int64_c (theB.toFnsA)) := by kernel_rfl
theorem isB_S_l05Slope : stripF Go.Proofs.Try.prog (theB.toFnsA).S_l05Slope = some (S_l05Slope_c (theB.toFnsA)) := by kernel_rfl
theorem isB_S_l01Bits : stripF Go.Proofs.Try.prog (theB.toFnsA).S_l01Bits = some (S_l01Bits_c (theB.toFnsA)) := by kernel_rfl
theorem isB_S_l01Zero : stripF Go.Proofs.Try.prog (theB.toFnsA).S_l01Zero = some (S_l01Zero_c (theB.toFnsA)) := by kernel_rfl
theorem isB_S_l01Plus : stripF Go.Proofs.Try.prog (theB.toFnsA).S_l01Plus = some (S_l01Plus_c (theB.toFnsA)) := by kernel_rfl
theorem isB_S_l01Minus : stripF Go.Proofs.Try.prog (theB.toFnsA).S_l01Minus = some (S_l01Minus_c (theB.toFnsA)) := by kernel_rfl
theorem isB_I_slope : stripF Go.Proofs.Try.prog (theB.toFnsA).I_slope = some (I_slope_c (theB.toFnsA)) := by kernel_rfl
theorem isB_I_size_plus : stripF Go.Proofs.Try.prog (theB.toFnsA).I_size_plus = some (I_size_plus_c (theB.toFnsA)) := by kernel_rfl
theorem isB_I_size_minus : stripF Go.Proofs.Try.prog (theB.toFnsA).I_size_minus = some (I_size_minus_c (theB.toFnsA)) := by kernel_rfl
theorem isB_I_size_times : stripF Go.Proofs.Try.prog (theB.toFnsA).I_size_times = some (I_size_times_c (theB.toFnsA)) := by kernel_rfl
theorem isB_S_CommonWide : stripF Go.Proofs.Try.prog (theB.toFnsA).S_CommonWide = some (S_CommonWide_c (theB.toFnsA)) := by kernel_rfl
theorem isB_S_l05Short : stripF Go.Proofs.Try.prog (theB.toFnsA).S_l05Short = some (S_l05Short_c (theB.toFnsA)) := by kernel_rfl
theorem isB_S_l05Value : stripF Go.Proofs.Try.prog (theB.toFnsA).S_l05Value = some (S_l05Value_c (theB.toFnsA)) := by kernel_rfl
theorem isB_S_l01Sign : stripF Go.Proofs.Try.prog (theB.toFnsA).S_l01Sign = some (S_l01Sign_c (theB.toFnsA)) := by kernel_rfl
theorem isB_I_commonSize : stripF Go.Proofs.Try.prog (theB.toFnsA).I_commonSize = some (I_commonSize_c (theB.toFnsA)) := by kernel_rfl
theorem isB_I_size_by : stripF Go.Proofs.Try.prog (theB.toFnsA).I_size_by = some (I_size_by_c (theB.toFnsA)) := by kernel_rfl
theorem isB_X_Len32 : stripF Go.Proofs.Try.prog (theB.toFnsA).X_Len32 = some (X_Len32_c (theB.toFnsA)) := by kernel_rfl
theorem isB_I_trimmed : stripF Go.Proofs.Try.prog (theB.toFnsA).I_trimmed = some (I_trimmed_c (theB.toFnsA)) := by kernel_rfl
theorem isB_X_Clone_Wide : stripF Go.Proofs.Try.prog (theB.toFnsA).X_Clone_Wide = some (X_Clone_Wide_c (theB.toFnsA)) := by kernel_rfl
theorem isB_I_calc_sub : stripF Go.Proofs.Try.prog (theB.toFnsA).I_calc_sub = some (I_calc_sub_c (theB.toFnsA)) := by kernel_rfl
theorem isB_I_sign : stripF Go.Proofs.Try.prog (theB.toFnsA).I_sign = some (I_sign_c (theB.toFnsA)) := by kernel_rfl
theorem isB_I_calc_valueAt : stripF Go.Proofs.Try.prog (theB.toFnsA).I_calc_valueAt = some (I_calc_valueAt_c (theB.toFnsA)) := by kernel_rfl
theorem isB_S_l01DivMag : stripF Go.Proofs.Try.prog (theB.toFnsA).S_l01DivMag = some (S_l01DivMag_c (theB.toFnsA)) := by kernel_rfl
theorem isB_I_size_down : stripF Go.Proofs.Try.prog (theB.toFnsA).I_size_down = some (I_size_down_c (theB.toFnsA)) := by kernel_rfl
theorem isB_S_l02Up : stripF Go.Proofs.Try.prog (theB.toFnsA).S_l02Up = some (S_l02Up_c (theB.toFnsA)) := by kernel_rfl
theorem isB_I_size_bySmall : stripF Go.Proofs.Try.prog (theB.toFnsA).I_size_bySmall = some (I_size_bySmall_c (theB.toFnsA)) := by kernel_rfl
theorem isB_X_LeadingZeros32 : stripF Go.Proofs.Try.prog (theB.toFnsA).X_LeadingZeros32 = some (X_LeadingZeros32_c (theB.toFnsA)) := by kernel_rfl
theorem isB_I_divideStep : stripF Go.Proofs.Try.prog (theB.toFnsA).I_divideStep = some (I_divideStep_c (theB.toFnsA)) := by kernel_rfl
theorem isB_W_FnExactPartsOf : stripF Go.Proofs.Try.prog theB.W_FnExactPartsOf = some (W_FnExactPartsOf_c theB) := by kernel_rfl
theorem isB_S_PartsOf : stripF Go.Proofs.Try.prog theB.S_PartsOf = some (S_PartsOf_c theB) := by kernel_rfl
theorem isB_I_PartsOf : stripF Go.Proofs.Try.prog theB.I_PartsOf = some (I_PartsOf_c theB) := by kernel_rfl
theorem isB_W_eqPartS : stripF Go.Proofs.Try.prog theB.W_eqPartS = some (W_eqPartS_c theB) := by kernel_rfl
theorem isB_W_markPartS : stripF Go.Proofs.Try.prog theB.W_markPartS = some (W_markPartS_c theB) := by kernel_rfl
theorem isB_W_heldPartS : stripF Go.Proofs.Try.prog theB.W_heldPartS = some (W_heldPartS_c theB) := by kernel_rfl
theorem isB_W_eqPart : stripF Go.Proofs.Try.prog theB.W_eqPart = some (W_eqPart_c theB) := by kernel_rfl
theorem isB_S_l05Bound : stripF Go.Proofs.Try.prog theB.S_l05Bound = some (S_l05Bound_c theB) := by kernel_rfl
theorem isB_S_l05Cut : stripF Go.Proofs.Try.prog theB.S_l05Cut = some (S_l05Cut_c theB) := by kernel_rfl
theorem isB_I_bound : stripF Go.Proofs.Try.prog theB.I_bound = some (I_bound_c theB) := by kernel_rfl
theorem isB_I_sturm_split : stripF Go.Proofs.Try.prog theB.I_sturm_split = some (I_sturm_split_c theB) := by kernel_rfl
theorem isB_S_l05Abs : stripF Go.Proofs.Try.prog theB.S_l05Abs = some (S_l05Abs_c theB) := by kernel_rfl
theorem isB : IsB Go.Proofs.Try.prog theB := {W_toInt64S := isB_W_toInt64S, W_eqInt64S := isB_W_eqInt64S, W_markInt64S := isB_W_markInt64S, W_eqWide := isB_W_eqWide, S_l05Ok := isB_S_l05Ok, I_ValidPoly := isB_I_ValidPoly, S_l05Simple := isB_S_l05Simple, S_l01Up := isB_S_l01Up, S_l01Of := isB_S_l01Of, S_l01Neg := isB_S_l01Neg, I_newSturm := isB_I_newSturm, I_WideOf := isB_I_WideOf, I_opposite := isB_I_opposite, S_l00Max := isB_S_l00Max, S_l01Mul := isB_S_l01Mul, S_l05Chain := isB_S_l05Chain, S_l05Count := isB_S_l05Count, I_calc_up := isB_I_calc_up, I_calc_chain := isB_I_calc_chain, I_sturm_count := isB_I_sturm_count, W_eqUint32A6 := isB_W_eqUint32A6, S_l00In := isB_S_l00In, S_l01Ok := isB_S_l01Ok, X_ContainsFunc_int64 := isB_X_ContainsFunc_int64, I_ValidPoly_1 := isB_I_ValidPoly_1, I_within := isB_I_within, S_l05Sturm := isB_S_l05Sturm, S_l01UpMag := isB_S_l01UpMag, S_l01Made := isB_S_l01Made, S_l01Add := isB_S_l01Add, I_calc_chainOf := isB_I_calc_chainOf, I_wide := isB_I_wide, I_calc_add := isB_I_calc_add, I_calc_mul := isB_I_calc_mul, S_l05Wides := isB_S_l05Wides, S_l05Thin := isB_S_l05Thin, S_l05Opposite := isB_S_l05Opposite, S_l01Cmp := isB_S_l01Cmp, S_l05Rest := isB_S_l05Rest, S_l05Turns := isB_S_l05Turns, I_widen := isB_I_widen, I_lighter := isB_I_lighter, I_size_bits := isB_I_size_bits, I_size_up := isB_I_size_up, I_size_compare := isB_I_size_compare, I_calc_rest := isB_I_calc_rest, I_sturm_turns := isB_I_sturm_turns, S_l01Div := isB_S_l01Div, X_IndexFunc_int64 := isB_X_IndexFunc_int64, S_l05Slope := isB_S_l05Slope, S_l01Bits := isB_S_l01Bits, S_l01Zero := isB_S_l01Zero, S_l01Plus := isB_S_l01Plus, S_l01Minus := isB_S_l01Minus, I_slope := isB_I_slope, I_size_plus := isB_I_size_plus, I_size_minus := isB_I_size_minus, I_size_times := isB_I_size_times, S_CommonWide := isB_S_CommonWide, S_l05Short := isB_S_l05Short, S_l05Value := isB_S_l05Value, S_l01Sign := isB_S_l01Sign, I_commonSize := isB_I_commonSize, I_size_by := isB_I_size_by, X_Len32 := isB_X_Len32, I_trimmed := isB_I_trimmed, X_Clone_Wide := isB_X_Clone_Wide, I_calc_sub := isB_I_calc_sub, I_sign := isB_I_sign, I_calc_valueAt := isB_I_calc_valueAt, S_l01DivMag := isB_S_l01DivMag, I_size_down := isB_I_size_down, S_l02Up := isB_S_l02Up, I_size_bySmall := isB_I_size_bySmall, X_LeadingZeros32 := isB_X_LeadingZeros32, I_divideStep := isB_I_divideStep, W_FnExactPartsOf := isB_W_FnExactPartsOf, S_PartsOf := isB_S_PartsOf, I_PartsOf := isB_I_PartsOf, W_eqPartS := isB_W_eqPartS, W_markPartS := isB_W_markPartS, W_heldPartS := isB_W_heldPartS, W_eqPart := isB_W_eqPart, S_l05Bound := isB_S_l05Bound, S_l05Cut := isB_S_l05Cut, I_bound := isB_I_bound, I_sturm_split := isB_I_sturm_split, S_l05Abs := isB_S_l05Abs}
end Go.Proofs.Lite
