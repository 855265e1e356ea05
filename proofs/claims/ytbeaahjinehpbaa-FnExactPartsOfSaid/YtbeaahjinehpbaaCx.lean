/- A layer over the walk, contracts of functions, and plain laws: parts of the proof in YtbeaahjinehpbaaProof. -/
import Derived.Test.YtbeaahjinehpbaaBx
set_option linter.all false
namespace Go.Proofs.Lite
open Go

/-- Numbers of functions. -/
structure FnsA where
  W_toInt64S : Nat
  W_toPart : Nat
  W_eqInt64S : Nat
  W_markInt64S : Nat
  W_eqWide : Nat
  S_l05Ok : Nat
  S_l05Part : Nat
  S_l05One : Nat
  W_toWide : Nat
  I_ValidPoly : Nat
  I_ValidPart : Nat
  S_l05Simple : Nat
  S_l01Up : Nat
  S_l01Of : Nat
  S_l01Neg : Nat
  I_newSturm : Nat
  I_WideOf : Nat
  I_opposite : Nat
  S_l00Max : Nat
  S_l01Compare : Nat
  S_l01Mul : Nat
  S_l05Chain : Nat
  S_l05Count : Nat
  I_oneZero : Nat
  I_calc_up : Nat
  I_compare : Nat
  I_calc_chain : Nat
  I_sturm_count : Nat
  S_l05Parted : Nat
  S_l05Refine : Nat
  I_placesOk : Nat
  I_sturm_refine : Nat
  S_l05Approx : Nat
  I_sturm_zeroAt : Nat
  W_eqUint32A6 : Nat
  S_l00In : Nat
  S_l01Ok : Nat
  S_l02Places : Nat
  W_toUint32A6 : Nat
  X_ContainsFunc_int64 : Nat
  I_ValidPoly_1 : Nat
  I_within : Nat
  I_ValidWide : Nat
  S_l05Sturm : Nat
  S_l01UpMag : Nat
  S_l01Made : Nat
  S_l01Add : Nat
  I_calc_chainOf : Nat
  I_wide : Nat
  I_calc_add : Nat
  I_calc_mul : Nat
  S_l05Wides : Nat
  S_l05Thin : Nat
  S_l05Opposite : Nat
  S_l01Cmp : Nat
  S_l05Rest : Nat
  S_l05Turns : Nat
  I_widen : Nat
  I_lighter : Nat
  I_size_bits : Nat
  I_size_up : Nat
  I_size_compare : Nat
  I_calc_rest : Nat
  I_sturm_turns : Nat
  S_l01Div : Nat
  I_divide : Nat
  S_l01Near : Nat
  I_calc_near : Nat
  X_IndexFunc_int64 : Nat
  S_l05Slope : Nat
  S_l01Bits : Nat
  S_l01Zero : Nat
  S_l01Plus : Nat
  S_l01Minus : Nat
  I_slope : Nat
  I_size_plus : Nat
  I_size_minus : Nat
  I_size_times : Nat
  S_CommonWide : Nat
  S_l05Short : Nat
  S_l05Value : Nat
  S_l01Sign : Nat
  I_commonSize : Nat
  I_size_by : Nat
  X_Len32 : Nat
  I_trimmed : Nat
  X_Clone_Wide : Nat
  I_calc_sub : Nat
  I_sign : Nat
  I_calc_valueAt : Nat
  S_l01DivMag : Nat
  I_one : Nat
  S_l01DownMag : Nat
  I_size_down : Nat
  S_l02Up : Nat
  I_size_bySmall : Nat
  X_LeadingZeros32 : Nat
  I_divideStep : Nat

def W_toInt64S_c (F : FnsA) : LF := ⟨(.seq (.reg [⟨(some 2), none, (.mv (.const (.slice none 0 0)))⟩]) (.seq (.reg [⟨(some 5), none, (.mv (.tmp 0))⟩, ⟨(some 6), none, (.lens (.tmp 5))⟩, ⟨(some 7), none, (.msl 1 8 [(.int .i64 0)] (.tmp 6) (.tmp 6))⟩, ⟨(some 3), none, (.mv (.tmp 7))⟩]) (.seq (.seq (.reg [⟨(some 4), none, (.mv (.const (.int .i64 0)))⟩]) (.block 0 (.loop (.seq (.seq (.reg [⟨(some 8), none, (.mv (.tmp 4))⟩, ⟨(some 9), none, (.mv (.tmp 0))⟩, ⟨(some 10), none, (.lens (.tmp 9))⟩, ⟨(some 11), none, (.bin .lss (.tmp 8) (.tmp 10))⟩]) (.cond (.tmp 11) .skip (.exit 0))) (.seq (.block 1 (.reg [⟨(some 14), none, (.mv (.tmp 3))⟩, ⟨(some 15), none, (.mv (.tmp 4))⟩, ⟨(some 16), none, (.mv (.tmp 0))⟩, ⟨(some 17), none, (.mv (.tmp 4))⟩, ⟨(some 18), none, (.isl 1 (.tmp 16) (.tmp 17))⟩, ⟨(some 19), none, (.load false 1 (.tmp 18))⟩, ⟨(some 20), none, (.isl 1 (.tmp 14) (.tmp 15))⟩, ⟨none, none, (.store 1 (.tmp 20) (.tmp 19))⟩])) (.reg [⟨(some 12), none, (.mv (.tmp 4))⟩, ⟨(some 13), none, (.bin .add (.tmp 12) (.const (.int .i64 1)))⟩, ⟨(some 4), none, (.mv (.tmp 13))⟩])))))) (.seq (.reg [⟨(some 21), none, (.mv (.tmp 3))⟩, ⟨(some 2), none, (.mv (.tmp 21))⟩]) .ret)))), 22, [(.tmp 2)]⟩
def W_eqInt64S_c (F : FnsA) : LF := ⟨(.seq (.reg [⟨(some 4), none, (.mv (.const (.bool false)))⟩]) (.seq (.seq (.reg [⟨(some 6), none, (.mv (.tmp 0))⟩, ⟨(some 7), none, (.lens (.tmp 6))⟩, ⟨(some 8), none, (.mv (.tmp 1))⟩, ⟨(some 9), none, (.lens (.tmp 8))⟩, ⟨(some 10), none, (.bin .neq (.tmp 7) (.tmp 9))⟩]) (.cond (.tmp 10) (.seq (.reg [⟨(some 4), none, (.mv (.const (.bool false)))⟩]) .ret) .skip)) (.seq (.seq (.reg [⟨(some 5), none, (.mv (.const (.int .i64 0)))⟩]) (.block 0 (.loop (.seq (.seq (.reg [⟨(some 11), none, (.mv (.tmp 5))⟩, ⟨(some 12), none, (.mv (.tmp 0))⟩, ⟨(some 13), none, (.lens (.tmp 12))⟩, ⟨(some 14), none, (.bin .lss (.tmp 11) (.tmp 13))⟩]) (.cond (.tmp 14) .skip (.exit 0))) (.seq (.block 1 (.seq (.dreg 0 [⟨0, ⟨(some 17), none, (.mv (.tmp 0))⟩, [], []⟩, ⟨1, ⟨(some 18), none, (.mv (.tmp 5))⟩, [], []⟩, ⟨2, ⟨(some 19), none, (.isl 1 (.tmp 17) (.tmp 18))⟩, [0, 1], []⟩, ⟨3, ⟨(some 20), none, (.load false 1 (.tmp 19))⟩, [2, 0, 1], []⟩, ⟨4, ⟨(some 21), none, (.mv (.tmp 1))⟩, [], []⟩, ⟨5, ⟨(some 22), none, (.mv (.tmp 5))⟩, [], []⟩, ⟨6, ⟨(some 23), none, (.isl 1 (.tmp 21) (.tmp 22))⟩, [4, 5], []⟩, ⟨7, ⟨(some 24), none, (.load false 1 (.tmp 23))⟩, [6, 4, 5], []⟩, ⟨8, ⟨(some 25), none, (.bin .neq (.tmp 20) (.tmp 24))⟩, [3, 7, 2, 0, 1, 6, 4, 5], []⟩]) (.cond (.tmp 25) (.seq (.reg [⟨(some 4), none, (.mv (.const (.bool false)))⟩]) .ret) .skip))) (.reg [⟨(some 15), none, (.mv (.tmp 5))⟩, ⟨(some 16), none, (.bin .add (.tmp 15) (.const (.int .i64 1)))⟩, ⟨(some 5), none, (.mv (.tmp 16))⟩])))))) (.seq (.reg [⟨(some 4), none, (.mv (.const (.bool true)))⟩]) .ret)))), 26, [(.tmp 4)]⟩
def W_markInt64S_c (F : FnsA) : LF := ⟨(.seq (.reg [⟨(some 4), none, (.mv (.const (.int .i64 0)))⟩]) (.seq (.seq (.reg [⟨(some 5), none, (.mv (.const (.int .i64 0)))⟩]) (.block 0 (.loop (.seq (.seq (.reg [⟨(some 6), none, (.mv (.tmp 5))⟩, ⟨(some 7), none, (.mv (.tmp 0))⟩, ⟨(some 8), none, (.lens (.tmp 7))⟩, ⟨(some 9), none, (.bin .lss (.tmp 6) (.tmp 8))⟩]) (.cond (.tmp 9) .skip (.exit 0))) (.seq (.block 1 (.seq (.reg [⟨(some 12), none, (.mv (.tmp 0))⟩, ⟨(some 13), none, (.mv (.tmp 5))⟩, ⟨(some 14), none, (.mv (.tmp 1))⟩, ⟨(some 15), none, (.isl 1 (.tmp 12) (.tmp 13))⟩, ⟨none, none, (.store 1 (.tmp 15) (.tmp 14))⟩]) (.reg [⟨(some 16), none, (.mv (.tmp 1))⟩, ⟨(some 17), none, (.bin .add (.tmp 16) (.const (.int .i64 1)))⟩, ⟨(some 1), none, (.mv (.tmp 17))⟩]))) (.reg [⟨(some 10), none, (.mv (.tmp 5))⟩, ⟨(some 11), none, (.bin .add (.tmp 10) (.const (.int .i64 1)))⟩, ⟨(some 5), none, (.mv (.tmp 11))⟩])))))) (.seq (.reg [⟨(some 18), none, (.mv (.tmp 1))⟩, ⟨(some 4), none, (.mv (.tmp 18))⟩]) .ret))), 19, [(.tmp 4)]⟩
def W_eqWide_c (F : FnsA) : LF := ⟨(.seq (.reg [⟨(some 2), none, (.box (.tmp 0))⟩, ⟨(some 3), none, (.box (.tmp 1))⟩, ⟨(some 4), none, (.mv (.const (.bool false)))⟩]) (.seq (.seq (.reg [⟨(some 5), none, (.fad 0 (.tmp 2))⟩, ⟨(some 6), none, (.load false 1 (.tmp 5))⟩, ⟨(some 7), none, (.fad 0 (.tmp 3))⟩, ⟨(some 8), none, (.load false 1 (.tmp 7))⟩, ⟨(some 9), none, (.beq true (.tmp 6) (.tmp 8))⟩]) (.cond (.tmp 9) (.seq (.reg [⟨(some 4), none, (.mv (.const (.bool false)))⟩]) .ret) .skip)) (.seq (.seq (.reg [⟨(some 10), none, (.fad 1 (.tmp 2))⟩, ⟨(some 11), none, (.load true 6 (.tmp 10))⟩, ⟨(some 12), none, (.fad 1 (.tmp 3))⟩, ⟨(some 13), none, (.load true 6 (.tmp 12))⟩, ⟨(some 14), none, (.call F.W_eqUint32A6 [(.tmp 11), (.tmp 13)])⟩, ⟨(some 15), none, (.un .not (.tmp 14))⟩]) (.cond (.tmp 15) (.seq (.reg [⟨(some 4), none, (.mv (.const (.bool false)))⟩]) .ret) .skip)) (.seq (.reg [⟨(some 4), none, (.mv (.const (.bool true)))⟩]) .ret)))), 16, [(.tmp 4)]⟩
def S_l05Ok_c (F : FnsA) : LF := ⟨(.seq (.reg [⟨(some 2), none, (.mv (.const (.bool false)))⟩]) (.seq (.seq (.reg [⟨(some 4), none, (.mv (.tmp 0))⟩, ⟨(some 5), none, (.lens (.tmp 4))⟩, ⟨(some 6), none, (.call F.S_l00In [(.tmp 5), (.const (.int .i64 2)), (.const (.int .i64 9))])⟩, ⟨(some 7), none, (.un .not (.tmp 6))⟩, ⟨(some 8), none, (.mv (.tmp 7))⟩, ⟨(some 9), (some (8, false)), (.mv (.tmp 0))⟩, ⟨(some 10), (some (8, false)), (.mv (.tmp 0))⟩, ⟨(some 11), (some (8, false)), (.lens (.tmp 10))⟩, ⟨(some 12), (some (8, false)), (.bin .sub (.tmp 11) (.const (.int .i64 1)))⟩, ⟨(some 13), (some (8, false)), (.isl 1 (.tmp 9) (.tmp 12))⟩, ⟨(some 14), (some (8, false)), (.load false 1 (.tmp 13))⟩, ⟨(some 15), (some (8, false)), (.bin .eql (.tmp 14) (.const (.int .i64 0)))⟩, ⟨(some 16), none, (.pick (.tmp 8) (.const (.bool true)) (.tmp 15))⟩]) (.cond (.tmp 16) (.seq (.reg [⟨(some 2), none, (.mv (.const (.bool false)))⟩]) .ret) .skip)) (.seq (.seq (.reg [⟨(some 3), none, (.mv (.const (.int .i64 0)))⟩]) (.block 0 (.loop (.seq (.seq (.reg [⟨(some 17), none, (.mv (.tmp 3))⟩, ⟨(some 18), none, (.mv (.tmp 0))⟩, ⟨(some 19), none, (.lens (.tmp 18))⟩, ⟨(some 20), none, (.bin .lss (.tmp 17) (.tmp 19))⟩]) (.cond (.tmp 20) .skip (.exit 0))) (.seq (.block 1 (.seq (.reg [⟨(some 23), none, (.mv (.tmp 0))⟩, ⟨(some 24), none, (.mv (.tmp 3))⟩, ⟨(some 25), none, (.isl 1 (.tmp 23) (.tmp 24))⟩, ⟨(some 26), none, (.load false 1 (.tmp 25))⟩, ⟨(some 27), none, (.call F.S_l00In [(.tmp 26), (.const (.int .i64 (-1000000))), (.const (.int .i64 1000000))])⟩, ⟨(some 28), none, (.un .not (.tmp 27))⟩]) (.cond (.tmp 28) (.seq (.reg [⟨(some 2), none, (.mv (.const (.bool false)))⟩]) .ret) .skip))) (.reg [⟨(some 21), none, (.mv (.tmp 3))⟩, ⟨(some 22), none, (.bin .add (.tmp 21) (.const (.int .i64 1)))⟩, ⟨(some 3), none, (.mv (.tmp 22))⟩])))))) (.seq (.reg [⟨(some 2), none, (.mv (.const (.bool true)))⟩]) .ret)))), 29, [(.tmp 2)]⟩
def I_ValidPoly_c (F : FnsA) : LF := ⟨(.seq (.reg [⟨(some 2), none, (.mv (.const (.bool false)))⟩]) (.seq (.seq (.reg [⟨(some 3), none, (.mv (.tmp 0))⟩, ⟨(some 4), none, (.lens (.tmp 3))⟩, ⟨(some 5), none, (.bin .lss (.tmp 4) (.const (.int .i64 2)))⟩, ⟨(some 6), none, (.mv (.tmp 5))⟩, ⟨(some 7), (some (6, false)), (.mv (.tmp 0))⟩, ⟨(some 8), (some (6, false)), (.lens (.tmp 7))⟩, ⟨(some 9), (some (6, false)), (.bin .gtr (.tmp 8) (.const (.int .i64 9)))⟩, ⟨(some 10), none, (.pick (.tmp 6) (.const (.bool true)) (.tmp 9))⟩, ⟨(some 11), none, (.mv (.tmp 10))⟩, ⟨(some 12), (some (11, false)), (.mv (.tmp 0))⟩, ⟨(some 13), (some (11, false)), (.mv (.tmp 0))⟩, ⟨(some 14), (some (11, false)), (.lens (.tmp 13))⟩, ⟨(some 15), (some (11, false)), (.bin .sub (.tmp 14) (.const (.int .i64 1)))⟩, ⟨(some 16), (some (11, false)), (.isl 1 (.tmp 12) (.tmp 15))⟩, ⟨(some 17), (some (11, false)), (.load false 1 (.tmp 16))⟩, ⟨(some 18), (some (11, false)), (.bin .eql (.tmp 17) (.const (.int .i64 0)))⟩, ⟨(some 19), none, (.pick (.tmp 11) (.const (.bool true)) (.tmp 18))⟩]) (.cond (.tmp 19) (.seq (.reg [⟨(some 2), none, (.mv (.const (.bool false)))⟩]) .ret) .skip)) (.seq (.reg [⟨(some 20), none, (.mv (.tmp 0))⟩, ⟨(some 21), none, (.call F.X_ContainsFunc_int64 [(.tmp 20), (.func F.I_ValidPoly_1)])⟩, ⟨(some 22), none, (.un .not (.tmp 21))⟩, ⟨(some 2), none, (.mv (.tmp 22))⟩]) .ret))), 23, [(.tmp 2)]⟩
def S_l05Simple_c (F : FnsA) : LF := ⟨(.seq (.reg [⟨(some 2), none, (.mv (.const (.slice none 0 0)))⟩, ⟨(some 3), none, (.mv (.const (.int .i64 0)))⟩]) (.seq (.reg [⟨(some 7), none, (.mv (.tmp 0))⟩, ⟨(some 8), none, (.call F.S_l05Sturm [(.tmp 7)])⟩, ⟨(some 6), none, (.mv (.tmp 8))⟩, ⟨(some 9), none, (.ext 0 (.tmp 6))⟩, ⟨(some 10), none, (.ext 1 (.tmp 6))⟩, ⟨(some 4), none, (.mv (.tmp 9))⟩, ⟨(some 5), none, (.mv (.tmp 10))⟩]) (.seq (.seq (.reg [⟨(some 11), none, (.mv (.tmp 5))⟩, ⟨(some 12), none, (.bin .neq (.tmp 11) (.const (.int .i64 0)))⟩]) (.cond (.tmp 12) (.seq (.reg [⟨(some 13), none, (.bsl 1 0 [(.slice none 0 0)] [])⟩, ⟨(some 14), none, (.mv (.tmp 5))⟩, ⟨(some 2), none, (.mv (.tmp 13))⟩, ⟨(some 3), none, (.mv (.tmp 14))⟩]) .ret) .skip)) (.seq (.seq (.reg [⟨(some 15), none, (.mv (.tmp 4))⟩, ⟨(some 16), none, (.mv (.tmp 4))⟩, ⟨(some 17), none, (.lens (.tmp 16))⟩, ⟨(some 18), none, (.bin .sub (.tmp 17) (.const (.int .i64 1)))⟩, ⟨(some 19), none, (.isl 1 (.tmp 15) (.tmp 18))⟩, ⟨(some 20), none, (.load false 1 (.tmp 19))⟩, ⟨(some 21), none, (.lens (.tmp 20))⟩, ⟨(some 22), none, (.bin .gtr (.tmp 21) (.const (.int .i64 1)))⟩]) (.cond (.tmp 22) (.seq (.reg [⟨(some 23), none, (.bsl 1 0 [(.slice none 0 0)] [])⟩, ⟨(some 2), none, (.mv (.tmp 23))⟩, ⟨(some 3), none, (.mv (.const (.int .i64 4)))⟩]) .ret) .skip)) (.seq (.reg [⟨(some 24), none, (.mv (.tmp 4))⟩, ⟨(some 2), none, (.mv (.tmp 24))⟩, ⟨(some 3), none, (.mv (.const (.int .i64 0)))⟩]) .ret))))), 25, [(.tmp 2), (.tmp 3)]⟩
def S_l01Up_c (F : FnsA) : LF := ⟨(.seq (.reg [⟨(some 2), none, (.box (.tmp 0))⟩, ⟨(some 4), none, (.alloc [(.bool false), (.int .u32 0), (.int .u32 0), (.int .u32 0), (.int .u32 0), (.int .u32 0), (.int .u32 0)])⟩, ⟨(some 5), none, (.mv (.const (.int .i64 0)))⟩]) (.seq (.reg [⟨(some 9), none, (.fad 1 (.tmp 2))⟩, ⟨(some 10), none, (.load true 6 (.tmp 9))⟩, ⟨(some 6), none, (.alloc [(.int .u32 0), (.int .u32 0), (.int .u32 0), (.int .u32 0), (.int .u32 0), (.int .u32 0)])⟩, ⟨none, none, (.store 6 (.tmp 6) (.tmp 10))⟩]) (.seq (.reg [⟨(some 12), none, (.mv (.tmp 1))⟩, ⟨(some 13), none, (.call F.S_l01UpMag [(.tmp 6), (.tmp 12)])⟩, ⟨(some 11), none, (.mv (.tmp 13))⟩, ⟨(some 14), none, (.ext 0 (.tmp 11))⟩, ⟨(some 15), none, (.ext 1 (.tmp 11))⟩, ⟨(some 7), none, (.alloc [(.int .u32 0), (.int .u32 0), (.int .u32 0), (.int .u32 0), (.int .u32 0), (.int .u32 0)])⟩, ⟨none, none, (.store 6 (.tmp 7) (.tmp 14))⟩, ⟨(some 8), none, (.mv (.tmp 15))⟩]) (.seq (.seq (.reg [⟨(some 16), none, (.mv (.tmp 8))⟩, ⟨(some 17), none, (.un .not (.tmp 16))⟩]) (.cond (.tmp 17) (.seq (.reg [⟨(some 18), none, (.build [(.bool false), (.int .u32 0), (.int .u32 0), (.int .u32 0), (.int .u32 0), (.int .u32 0), (.int .u32 0)] [])⟩, ⟨none, none, (.store 7 (.tmp 4) (.tmp 18))⟩, ⟨(some 5), none, (.mv (.const (.int .i64 3)))⟩]) .ret) .skip)) (.seq (.reg [⟨(some 19), none, (.fad 0 (.tmp 2))⟩, ⟨(some 20), none, (.load false 1 (.tmp 19))⟩, ⟨(some 21), none, (.load true 6 (.tmp 7))⟩, ⟨(some 22), none, (.call F.S_l01Made [(.tmp 20), (.tmp 21)])⟩, ⟨none, none, (.store 7 (.tmp 4) (.tmp 22))⟩, ⟨(some 5), none, (.mv (.const (.int .i64 0)))⟩]) .ret))))), 23, [(.cell true 7 4), (.tmp 5)]⟩
def S_l01Of_c (F : FnsA) : LF := ⟨(.seq (.reg [⟨(some 2), none, (.alloc [(.bool false), (.int .u32 0), (.int .u32 0), (.int .u32 0), (.int .u32 0), (.int .u32 0), (.int .u32 0)])⟩]) (.seq (.reg [⟨(some 5), none, (.mv (.tmp 0))⟩, ⟨(some 6), none, (.conv .u64 (.tmp 5))⟩, ⟨(some 3), none, (.mv (.tmp 6))⟩]) (.seq (.seq (.reg [⟨(some 7), none, (.mv (.tmp 0))⟩, ⟨(some 8), none, (.bin .lss (.tmp 7) (.const (.int .i64 0)))⟩]) (.cond (.tmp 8) (.reg [⟨(some 9), none, (.mv (.tmp 3))⟩, ⟨(some 10), none, (.un .neg (.tmp 9))⟩, ⟨(some 3), none, (.mv (.tmp 10))⟩]) .skip)) (.seq (.reg [⟨(some 11), none, (.build [(.int .u32 0), (.int .u32 0), (.int .u32 0), (.int .u32 0), (.int .u32 0), (.int .u32 0)] [])⟩, ⟨(some 4), none, (.alloc [(.int .u32 0), (.int .u32 0), (.int .u32 0), (.int .u32 0), (.int .u32 0), (.int .u32 0)])⟩, ⟨none, none, (.store 6 (.tmp 4) (.tmp 11))⟩]) (.seq (.reg [⟨(some 12), none, (.mv (.tmp 3))⟩, ⟨(some 13), none, (.conv .u32 (.tmp 12))⟩, ⟨(some 14), none, (.iarr 6 1 (.tmp 4) (.const (.int .i64 0)))⟩, ⟨none, none, (.store 1 (.tmp 14) (.tmp 13))⟩]) (.seq (.reg [⟨(some 15), none, (.mv (.tmp 3))⟩, ⟨(some 16), none, (.bin .shr (.tmp 15) (.const (.int .u64 32)))⟩, ⟨(some 17), none, (.conv .u32 (.tmp 16))⟩, ⟨(some 18), none, (.iarr 6 1 (.tmp 4) (.const (.int .i64 1)))⟩, ⟨none, none, (.store 1 (.tmp 18) (.tmp 17))⟩]) (.seq (.reg [⟨(some 19), none, (.mv (.tmp 0))⟩, ⟨(some 20), none, (.bin .lss (.tmp 19) (.const (.int .i64 0)))⟩, ⟨(some 21), none, (.load true 6 (.tmp 4))⟩, ⟨(some 22), none, (.call F.S_l01Made [(.tmp 20), (.tmp 21)])⟩, ⟨none, none, (.store 7 (.tmp 2) (.tmp 22))⟩]) .ret))))))), 23, [(.cell true 7 2)]⟩
def S_l01Neg_c (F : FnsA) : LF := ⟨(.seq (.reg [⟨(some 1), none, (.box (.tmp 0))⟩, ⟨(some 2), none, (.alloc [(.bool false), (.int .u32 0), (.int .u32 0), (.int .u32 0), (.int .u32 0), (.int .u32 0), (.int .u32 0)])⟩]) (.seq (.reg [⟨(some 3), none, (.fad 0 (.tmp 1))⟩, ⟨(some 4), none, (.load false 1 (.tmp 3))⟩, ⟨(some 5), none, (.un .not (.tmp 4))⟩, ⟨(some 6), none, (.fad 1 (.tmp 1))⟩, ⟨(some 7), none, (.load true 6 (.tmp 6))⟩, ⟨(some 8), none, (.call F.S_l01Made [(.tmp 5), (.tmp 7)])⟩, ⟨none, none, (.store 7 (.tmp 2) (.tmp 8))⟩]) .ret)), 9, [(.cell true 7 2)]⟩
def I_newSturm_c (F : FnsA) : LF := ⟨(.seq (.reg [⟨(some 2), none, (.mv (.const (.pointer none)))⟩, ⟨(some 3), none, (.mv (.const (.int .i64 0)))⟩]) (.seq (.reg [⟨(some 5), none, (.build [(.bool false), (.slice none 0 0)] [])⟩, ⟨(some 6), none, (.box (.tmp 5))⟩, ⟨(some 4), none, (.mv (.tmp 6))⟩]) (.seq (.reg [⟨(some 7), none, (.mv (.tmp 4))⟩, ⟨(some 8), none, (.mv (.tmp 4))⟩, ⟨(some 9), none, (.nilc (.tmp 8))⟩, ⟨(some 10), none, (.fad 0 (.tmp 9))⟩, ⟨(some 11), none, (.mv (.tmp 0))⟩, ⟨(some 12), none, (.call F.I_calc_chainOf [(.tmp 10), (.tmp 11)])⟩, ⟨(some 13), none, (.nilc (.tmp 7))⟩, ⟨(some 14), none, (.fad 1 (.tmp 13))⟩, ⟨none, none, (.store 1 (.tmp 14) (.tmp 12))⟩]) (.seq (.block 0 (.seq (.reg [⟨(some 16), none, (.mv (.tmp 4))⟩, ⟨(some 17), none, (.nilc (.tmp 16))⟩, ⟨(some 18), none, (.fad 0 (.tmp 17))⟩, ⟨(some 19), none, (.fad 0 (.tmp 18))⟩, ⟨(some 20), none, (.load false 1 (.tmp 19))⟩, ⟨(some 15), none, (.mv (.tmp 20))⟩]) (.cond (.tmp 15) (.seq (.reg [⟨(some 2), none, (.mv (.const (.pointer none)))⟩, ⟨(some 3), none, (.mv (.const (.int .i64 3)))⟩]) .ret) (.seq (.dreg 0 [⟨0, ⟨(some 22), none, (.mv (.tmp 4))⟩, [], []⟩, ⟨1, ⟨(some 23), none, (.nilc (.tmp 22))⟩, [0], []⟩, ⟨2, ⟨(some 24), none, (.fad 1 (.tmp 23))⟩, [1, 0], []⟩, ⟨3, ⟨(some 25), none, (.load false 1 (.tmp 24))⟩, [2, 1, 0], []⟩, ⟨4, ⟨(some 26), none, (.mv (.tmp 4))⟩, [], []⟩, ⟨5, ⟨(some 27), none, (.nilc (.tmp 26))⟩, [4], []⟩, ⟨6, ⟨(some 28), none, (.fad 1 (.tmp 27))⟩, [5, 4], []⟩, ⟨7, ⟨(some 29), none, (.load false 1 (.tmp 28))⟩, [6, 5, 4], []⟩, ⟨8, ⟨(some 30), none, (.lens (.tmp 29))⟩, [7, 6, 5, 4], []⟩, ⟨9, ⟨(some 31), none, (.bin .sub (.tmp 30) (.const (.int .i64 1)))⟩, [8, 7, 6, 5, 4], []⟩, ⟨10, ⟨(some 32), none, (.isl 1 (.tmp 25) (.tmp 31))⟩, [3, 9, 2, 1, 0, 8, 7, 6, 5, 4], []⟩, ⟨11, ⟨(some 33), none, (.load false 1 (.tmp 32))⟩, [10, 3, 9, 2, 1, 0, 8, 7, 6, 5, 4], []⟩, ⟨12, ⟨(some 34), none, (.lens (.tmp 33))⟩, [11, 10, 3, 9, 2, 1, 0, 8, 7, 6, 5, 4], []⟩, ⟨13, ⟨(some 35), none, (.bin .gtr (.tmp 34) (.const (.int .i64 1)))⟩, [12, 11, 10, 3, 9, 2, 1, 0, 8, 7, 6, 5, 4], []⟩, ⟨14, ⟨(some 21), none, (.mv (.tmp 35))⟩, [13, 12, 11, 10, 3, 9, 2, 1, 0, 8, 7, 6, 5, 4], []⟩]) (.cond (.tmp 21) (.seq (.reg [⟨(some 2), none, (.mv (.const (.pointer none)))⟩, ⟨(some 3), none, (.mv (.const (.int .i64 4)))⟩]) .ret) .skip))))) (.seq (.reg [⟨(some 36), none, (.mv (.tmp 4))⟩, ⟨(some 2), none, (.mv (.tmp 36))⟩, ⟨(some 3), none, (.mv (.const (.int .i64 0)))⟩]) .ret))))), 37, [(.tmp 2), (.tmp 3)]⟩
def I_WideOf_c (F : FnsA) : LF := ⟨(.seq (.reg [⟨(some 2), none, (.alloc [(.bool false), (.int .u32 0), (.int .u32 0), (.int .u32 0), (.int .u32 0), (.int .u32 0), (.int .u32 0)])⟩]) (.seq (.reg [⟨(some 4), none, (.mv (.tmp 0))⟩, ⟨(some 5), none, (.conv .u64 (.tmp 4))⟩, ⟨(some 3), none, (.mv (.tmp 5))⟩]) (.seq (.seq (.reg [⟨(some 6), none, (.mv (.tmp 0))⟩, ⟨(some 7), none, (.bin .lss (.tmp 6) (.const (.int .i64 0)))⟩]) (.cond (.tmp 7) (.reg [⟨(some 8), none, (.mv (.tmp 3))⟩, ⟨(some 9), none, (.un .neg (.tmp 8))⟩, ⟨(some 3), none, (.mv (.tmp 9))⟩]) .skip)) (.seq (.reg [⟨(some 10), none, (.mv (.tmp 0))⟩, ⟨(some 11), none, (.bin .lss (.tmp 10) (.const (.int .i64 0)))⟩, ⟨(some 12), none, (.mv (.tmp 3))⟩, ⟨(some 13), none, (.conv .u32 (.tmp 12))⟩, ⟨(some 14), none, (.mv (.tmp 3))⟩, ⟨(some 15), none, (.bin .shr (.tmp 14) (.const (.int .u64 32)))⟩, ⟨(some 16), none, (.conv .u32 (.tmp 15))⟩, ⟨(some 17), none, (.build [(.int .u32 0), (.int .u32 0), (.int .u32 0), (.int .u32 0), (.int .u32 0), (.int .u32 0)] [(0, (1, (.tmp 13))), (1, (1, (.tmp 16)))])⟩, ⟨(some 18), none, (.call F.I_wide [(.tmp 11), (.tmp 17)])⟩, ⟨none, none, (.store 7 (.tmp 2) (.tmp 18))⟩]) .ret)))), 19, [(.cell true 7 2)]⟩
def I_opposite_c (F : FnsA) : LF := ⟨(.seq (.reg [⟨(some 1), none, (.box (.tmp 0))⟩, ⟨(some 2), none, (.alloc [(.bool false), (.int .u32 0), (.int .u32 0), (.int .u32 0), (.int .u32 0), (.int .u32 0), (.int .u32 0)])⟩]) (.seq (.reg [⟨(some 3), none, (.fad 0 (.tmp 1))⟩, ⟨(some 4), none, (.load false 1 (.tmp 3))⟩, ⟨(some 5), none, (.un .not (.tmp 4))⟩, ⟨(some 6), none, (.fad 1 (.tmp 1))⟩, ⟨(some 7), none, (.load true 6 (.tmp 6))⟩, ⟨(some 8), none, (.call F.I_wide [(.tmp 5), (.tmp 7)])⟩, ⟨none, none, (.store 7 (.tmp 2) (.tmp 8))⟩]) .ret)), 9, [(.cell true 7 2)]⟩
def S_l00Max_c (F : FnsA) : LF := ⟨(.seq (.reg [⟨(some 4), none, (.mv (.const (.int .i64 0)))⟩]) (.seq (.seq (.reg [⟨(some 5), none, (.mv (.tmp 0))⟩, ⟨(some 6), none, (.mv (.tmp 1))⟩, ⟨(some 7), none, (.bin .gtr (.tmp 5) (.tmp 6))⟩]) (.cond (.tmp 7) (.seq (.reg [⟨(some 8), none, (.mv (.tmp 0))⟩, ⟨(some 4), none, (.mv (.tmp 8))⟩]) .ret) .skip)) (.seq (.reg [⟨(some 9), none, (.mv (.tmp 1))⟩, ⟨(some 4), none, (.mv (.tmp 9))⟩]) .ret))), 10, [(.tmp 4)]⟩
def S_l01Mul_c (F : FnsA) : LF := ⟨(.seq (.reg [⟨(some 2), none, (.box (.tmp 0))⟩, ⟨(some 3), none, (.box (.tmp 1))⟩, ⟨(some 4), none, (.alloc [(.bool false), (.int .u32 0), (.int .u32 0), (.int .u32 0), (.int .u32 0), (.int .u32 0), (.int .u32 0)])⟩, ⟨(some 5), none, (.mv (.const (.int .i64 0)))⟩]) (.seq (.reg [⟨(some 13), none, (.build [(.int .u32 0), (.int .u32 0), (.int .u32 0), (.int .u32 0), (.int .u32 0), (.int .u32 0), (.int .u32 0), (.int .u32 0), (.int .u32 0), (.int .u32 0), (.int .u32 0), (.int .u32 0)] [])⟩, ⟨(some 6), none, (.alloc [(.int .u32 0), (.int .u32 0), (.int .u32 0), (.int .u32 0), (.int .u32 0), (.int .u32 0), (.int .u32 0), (.int .u32 0), (.int .u32 0), (.int .u32 0), (.int .u32 0), (.int .u32 0)])⟩, ⟨none, none, (.store 12 (.tmp 6) (.tmp 13))⟩]) (.seq (.seq (.reg [⟨(some 7), none, (.mv (.const (.int .i64 0)))⟩]) (.block 0 (.loop (.seq (.seq (.reg [⟨(some 14), none, (.mv (.tmp 7))⟩, ⟨(some 15), none, (.bin .lss (.tmp 14) (.const (.int .i64 6)))⟩]) (.cond (.tmp 15) .skip (.exit 0))) (.seq (.block 1 (.seq (.reg [⟨(some 8), none, (.mv (.const (.int .u64 0)))⟩]) (.seq (.seq (.reg [⟨(some 9), none, (.mv (.const (.int .i64 0)))⟩]) (.block 2 (.loop (.seq (.seq (.reg [⟨(some 18), none, (.mv (.tmp 9))⟩, ⟨(some 19), none, (.bin .lss (.tmp 18) (.const (.int .i64 6)))⟩]) (.cond (.tmp 19) .skip (.exit 2))) (.seq (.block 3 (.seq (.dreg 0 [⟨0, ⟨(some 22), none, (.mv (.tmp 7))⟩, [], []⟩, ⟨1, ⟨(some 23), none, (.fad 1 (.tmp 2))⟩, [], []⟩, ⟨2, ⟨(some 24), none, (.iarr 6 1 (.tmp 23) (.tmp 22))⟩, [1, 0], []⟩, ⟨3, ⟨(some 25), none, (.load false 1 (.tmp 24))⟩, [2, 1, 0], []⟩, ⟨4, ⟨(some 26), none, (.conv .u64 (.tmp 25))⟩, [3, 2, 1, 0], []⟩, ⟨5, ⟨(some 27), none, (.mv (.tmp 9))⟩, [], []⟩, ⟨6, ⟨(some 28), none, (.fad 1 (.tmp 3))⟩, [], []⟩, ⟨7, ⟨(some 29), none, (.iarr 6 1 (.tmp 28) (.tmp 27))⟩, [6, 5], []⟩, ⟨8, ⟨(some 30), none, (.load false 1 (.tmp 29))⟩, [7, 6, 5], []⟩, ⟨9, ⟨(some 31), none, (.conv .u64 (.tmp 30))⟩, [8, 7, 6, 5], []⟩, ⟨10, ⟨(some 32), none, (.bin .mul (.tmp 26) (.tmp 31))⟩, [4, 9, 3, 2, 1, 0, 8, 7, 6, 5], []⟩, ⟨11, ⟨(some 33), none, (.mv (.tmp 7))⟩, [], []⟩, ⟨12, ⟨(some 34), none, (.mv (.tmp 9))⟩, [], []⟩, ⟨13, ⟨(some 35), none, (.bin .add (.tmp 33) (.tmp 34))⟩, [11, 12], []⟩, ⟨14, ⟨(some 36), none, (.iarr 12 1 (.tmp 6) (.tmp 35))⟩, [13, 11, 12], []⟩, ⟨15, ⟨(some 37), none, (.load false 1 (.tmp 36))⟩, [14, 13, 11, 12], []⟩, ⟨16, ⟨(some 38), none, (.conv .u64 (.tmp 37))⟩, [15, 14, 13, 11, 12], []⟩, ⟨17, ⟨(some 39), none, (.bin .add (.tmp 32) (.tmp 38))⟩, [10, 16, 4, 9, 3, 2, 1, 0, 8, 7, 6, 5, 15, 14, 13, 11, 12], []⟩, ⟨18, ⟨(some 40), none, (.mv (.tmp 8))⟩, [], []⟩, ⟨19, ⟨(some 41), none, (.bin .add (.tmp 39) (.tmp 40))⟩, [17, 18, 10, 16, 4, 9, 3, 2, 1, 0, 8, 7, 6, 5, 15, 14, 13, 11, 12], []⟩, ⟨20, ⟨(some 10), none, (.mv (.tmp 41))⟩, [19, 0, 1, 2, 3, 4, 5, 6, 7, 8, 9, 10, 11, 12, 13, 14, 15, 16, 17, 18], []⟩]) (.seq (.reg [⟨(some 42), none, (.mv (.tmp 7))⟩, ⟨(some 43), none, (.mv (.tmp 9))⟩, ⟨(some 44), none, (.bin .add (.tmp 42) (.tmp 43))⟩, ⟨(some 45), none, (.mv (.tmp 10))⟩, ⟨(some 46), none, (.conv .u32 (.tmp 45))⟩, ⟨(some 47), none, (.iarr 12 1 (.tmp 6) (.tmp 44))⟩, ⟨none, none, (.store 1 (.tmp 47) (.tmp 46))⟩]) (.reg [⟨(some 48), none, (.mv (.tmp 10))⟩, ⟨(some 49), none, (.bin .shr (.tmp 48) (.const (.int .u64 32)))⟩, ⟨(some 8), none, (.mv (.tmp 49))⟩])))) (.reg [⟨(some 20), none, (.mv (.tmp 9))⟩, ⟨(some 21), none, (.bin .add (.tmp 20) (.const (.int .i64 1)))⟩, ⟨(some 9), none, (.mv (.tmp 21))⟩])))))) (.reg [⟨(some 50), none, (.mv (.tmp 7))⟩, ⟨(some 51), none, (.bin .add (.tmp 50) (.const (.int .i64 6)))⟩, ⟨(some 52), none, (.mv (.tmp 8))⟩, ⟨(some 53), none, (.conv .u32 (.tmp 52))⟩, ⟨(some 54), none, (.iarr 12 1 (.tmp 6) (.tmp 51))⟩, ⟨none, none, (.store 1 (.tmp 54) (.tmp 53))⟩])))) (.reg [⟨(some 16), none, (.mv (.tmp 7))⟩, ⟨(some 17), none, (.bin .add (.tmp 16) (.const (.int .i64 1)))⟩, ⟨(some 7), none, (.mv (.tmp 17))⟩])))))) (.seq (.reg [⟨(some 55), none, (.build [(.int .u32 0), (.int .u32 0), (.int .u32 0), (.int .u32 0), (.int .u32 0), (.int .u32 0)] [])⟩, ⟨(some 11), none, (.alloc [(.int .u32 0), (.int .u32 0), (.int .u32 0), (.int .u32 0), (.int .u32 0), (.int .u32 0)])⟩, ⟨none, none, (.store 6 (.tmp 11) (.tmp 55))⟩]) (.seq (.seq (.reg [⟨(some 12), none, (.mv (.const (.int .i64 0)))⟩]) (.block 4 (.loop (.seq (.seq (.reg [⟨(some 56), none, (.mv (.tmp 12))⟩, ⟨(some 57), none, (.bin .lss (.tmp 56) (.const (.int .i64 6)))⟩]) (.cond (.tmp 57) .skip (.exit 4))) (.seq (.block 5 (.seq (.reg [⟨(some 60), none, (.mv (.tmp 12))⟩, ⟨(some 61), none, (.mv (.tmp 12))⟩, ⟨(some 62), none, (.iarr 12 1 (.tmp 6) (.tmp 61))⟩, ⟨(some 63), none, (.load false 1 (.tmp 62))⟩, ⟨(some 64), none, (.iarr 6 1 (.tmp 11) (.tmp 60))⟩, ⟨none, none, (.store 1 (.tmp 64) (.tmp 63))⟩]) (.seq (.reg [⟨(some 65), none, (.mv (.tmp 12))⟩, ⟨(some 66), none, (.bin .add (.tmp 65) (.const (.int .i64 6)))⟩, ⟨(some 67), none, (.iarr 12 1 (.tmp 6) (.tmp 66))⟩, ⟨(some 68), none, (.load false 1 (.tmp 67))⟩, ⟨(some 69), none, (.bin .neq (.tmp 68) (.const (.int .u32 0)))⟩]) (.cond (.tmp 69) (.seq (.reg [⟨(some 70), none, (.build [(.bool false), (.int .u32 0), (.int .u32 0), (.int .u32 0), (.int .u32 0), (.int .u32 0), (.int .u32 0)] [])⟩, ⟨none, none, (.store 7 (.tmp 4) (.tmp 70))⟩, ⟨(some 5), none, (.mv (.const (.int .i64 3)))⟩]) .ret) .skip)))) (.reg [⟨(some 58), none, (.mv (.tmp 12))⟩, ⟨(some 59), none, (.bin .add (.tmp 58) (.const (.int .i64 1)))⟩, ⟨(some 12), none, (.mv (.tmp 59))⟩])))))) (.seq (.reg [⟨(some 71), none, (.fad 0 (.tmp 2))⟩, ⟨(some 72), none, (.load false 1 (.tmp 71))⟩, ⟨(some 73), none, (.fad 0 (.tmp 3))⟩, ⟨(some 74), none, (.load false 1 (.tmp 73))⟩, ⟨(some 75), none, (.beq true (.tmp 72) (.tmp 74))⟩, ⟨(some 76), none, (.load true 6 (.tmp 11))⟩, ⟨(some 77), none, (.call F.S_l01Made [(.tmp 75), (.tmp 76)])⟩, ⟨none, none, (.store 7 (.tmp 4) (.tmp 77))⟩, ⟨(some 5), none, (.mv (.const (.int .i64 0)))⟩]) .ret)))))), 78, [(.cell true 7 4), (.tmp 5)]⟩
def S_l05Chain_c (F : FnsA) : LF := ⟨(.seq (.reg [⟨(some 6), none, (.mv (.const (.slice none 0 0)))⟩, ⟨(some 7), none, (.mv (.const (.int .i64 0)))⟩]) (.seq (.reg [⟨(some 12), none, (.mv (.tmp 0))⟩, ⟨(some 13), none, (.mv (.tmp 1))⟩, ⟨(some 14), none, (.bsl 1 2 [(.slice none 0 0)] [(0, (.tmp 12)), (1, (.tmp 13))])⟩, ⟨(some 8), none, (.mv (.tmp 14))⟩]) (.block 0 (.loop (.block 1 (.seq (.reg [⟨(some 15), none, (.mv (.tmp 8))⟩, ⟨(some 16), none, (.lens (.tmp 15))⟩, ⟨(some 9), none, (.mv (.tmp 16))⟩]) (.seq (.dreg 0 [⟨0, ⟨(some 18), none, (.mv (.tmp 8))⟩, [], []⟩, ⟨1, ⟨(some 19), none, (.mv (.tmp 9))⟩, [], []⟩, ⟨2, ⟨(some 20), none, (.bin .sub (.tmp 19) (.const (.int .i64 2)))⟩, [1], []⟩, ⟨3, ⟨(some 21), none, (.isl 1 (.tmp 18) (.tmp 20))⟩, [0, 2, 1], []⟩, ⟨4, ⟨(some 22), none, (.load false 1 (.tmp 21))⟩, [3, 0, 2, 1], []⟩, ⟨5, ⟨(some 23), none, (.mv (.tmp 8))⟩, [], []⟩, ⟨6, ⟨(some 24), none, (.mv (.tmp 9))⟩, [], []⟩, ⟨7, ⟨(some 25), none, (.bin .sub (.tmp 24) (.const (.int .i64 1)))⟩, [6], []⟩, ⟨8, ⟨(some 26), none, (.isl 1 (.tmp 23) (.tmp 25))⟩, [5, 7, 6], []⟩, ⟨9, ⟨(some 27), none, (.load false 1 (.tmp 26))⟩, [8, 5, 7, 6], []⟩, ⟨10, ⟨(some 28), none, (.call F.S_l05Rest [(.tmp 22), (.tmp 27)])⟩, [4, 9, 3, 0, 2, 1, 8, 5, 7, 6], []⟩, ⟨11, ⟨(some 17), none, (.mv (.tmp 28))⟩, [10, 4, 9, 3, 0, 2, 1, 8, 5, 7, 6], []⟩, ⟨12, ⟨(some 29), none, (.ext 0 (.tmp 17))⟩, [11, 10, 4, 9, 3, 0, 2, 1, 8, 5, 7, 6], []⟩, ⟨13, ⟨(some 30), none, (.ext 1 (.tmp 17))⟩, [11, 10, 4, 9, 3, 0, 2, 1, 8, 5, 7, 6], []⟩, ⟨14, ⟨(some 10), none, (.mv (.tmp 29))⟩, [12, 10, 0, 1, 2, 3, 4, 5, 6, 7, 8, 9, 11], []⟩, ⟨15, ⟨(some 11), none, (.mv (.tmp 30))⟩, [13, 14, 0, 1, 2, 3, 4, 5, 6, 7, 8, 9, 10, 11, 12], []⟩]) (.seq (.seq (.reg [⟨(some 31), none, (.mv (.tmp 11))⟩, ⟨(some 32), none, (.bin .neq (.tmp 31) (.const (.int .i64 0)))⟩]) (.cond (.tmp 32) (.seq (.reg [⟨(some 33), none, (.bsl 1 0 [(.slice none 0 0)] [])⟩, ⟨(some 34), none, (.mv (.tmp 11))⟩, ⟨(some 6), none, (.mv (.tmp 33))⟩, ⟨(some 7), none, (.mv (.tmp 34))⟩]) .ret) .skip)) (.seq (.seq (.reg [⟨(some 35), none, (.mv (.tmp 10))⟩, ⟨(some 36), none, (.lens (.tmp 35))⟩, ⟨(some 37), none, (.bin .eql (.tmp 36) (.const (.int .i64 0)))⟩]) (.cond (.tmp 37) (.seq (.reg [⟨(some 38), none, (.mv (.tmp 8))⟩, ⟨(some 6), none, (.mv (.tmp 38))⟩, ⟨(some 7), none, (.mv (.const (.int .i64 0)))⟩]) .ret) .skip)) (.seq (.seq (.reg [⟨(some 39), none, (.mv (.tmp 2))⟩]) (.cond (.tmp 39) (.reg [⟨(some 40), none, (.mv (.tmp 10))⟩, ⟨(some 41), none, (.call F.S_l05Opposite [(.tmp 40)])⟩, ⟨(some 10), none, (.mv (.tmp 41))⟩]) .skip)) (.reg [⟨(some 42), none, (.mv (.tmp 8))⟩, ⟨(some 43), none, (.mv (.tmp 10))⟩, ⟨(some 44), none, (.call F.S_l05Thin [(.tmp 43)])⟩, ⟨(some 45), none, (.bsl 1 1 [(.slice none 0 0)] [(0, (.tmp 44))])⟩, ⟨(some 46), none, (.app 1 24 (.tmp 42) (.tmp 45))⟩, ⟨(some 8), none, (.mv (.tmp 46))⟩]))))))))))), 47, [(.tmp 6), (.tmp 7)]⟩
def S_l05Count_c (F : FnsA) : LF := ⟨(.seq (.reg [⟨(some 5), none, (.box (.tmp 1))⟩, ⟨(some 6), none, (.box (.tmp 2))⟩, ⟨(some 8), none, (.mv (.const (.int .i64 0)))⟩, ⟨(some 9), none, (.mv (.const (.int .i64 0)))⟩]) (.seq (.reg [⟨(some 15), none, (.mv (.tmp 0))⟩, ⟨(some 16), none, (.load true 7 (.tmp 5))⟩, ⟨(some 17), none, (.mv (.tmp 3))⟩, ⟨(some 18), none, (.call F.S_l05Turns [(.tmp 15), (.tmp 16), (.tmp 17)])⟩, ⟨(some 14), none, (.mv (.tmp 18))⟩, ⟨(some 19), none, (.ext 0 (.tmp 14))⟩, ⟨(some 20), none, (.ext 1 (.tmp 14))⟩, ⟨(some 10), none, (.mv (.tmp 19))⟩, ⟨(some 11), none, (.mv (.tmp 20))⟩]) (.seq (.seq (.reg [⟨(some 21), none, (.mv (.tmp 11))⟩, ⟨(some 22), none, (.bin .neq (.tmp 21) (.const (.int .i64 0)))⟩]) (.cond (.tmp 22) (.seq (.reg [⟨(some 23), none, (.mv (.tmp 11))⟩, ⟨(some 8), none, (.mv (.const (.int .i64 0)))⟩, ⟨(some 9), none, (.mv (.tmp 23))⟩]) .ret) .skip)) (.seq (.reg [⟨(some 25), none, (.mv (.tmp 0))⟩, ⟨(some 26), none, (.load true 7 (.tmp 6))⟩, ⟨(some 27), none, (.mv (.tmp 3))⟩, ⟨(some 28), none, (.call F.S_l05Turns [(.tmp 25), (.tmp 26), (.tmp 27)])⟩, ⟨(some 24), none, (.mv (.tmp 28))⟩, ⟨(some 29), none, (.ext 0 (.tmp 24))⟩, ⟨(some 30), none, (.ext 1 (.tmp 24))⟩, ⟨(some 12), none, (.mv (.tmp 29))⟩, ⟨(some 13), none, (.mv (.tmp 30))⟩]) (.seq (.seq (.reg [⟨(some 31), none, (.mv (.tmp 13))⟩, ⟨(some 32), none, (.bin .neq (.tmp 31) (.const (.int .i64 0)))⟩]) (.cond (.tmp 32) (.seq (.reg [⟨(some 33), none, (.mv (.tmp 13))⟩, ⟨(some 8), none, (.mv (.const (.int .i64 0)))⟩, ⟨(some 9), none, (.mv (.tmp 33))⟩]) .ret) .skip)) (.seq (.reg [⟨(some 34), none, (.mv (.tmp 10))⟩, ⟨(some 35), none, (.mv (.tmp 12))⟩, ⟨(some 36), none, (.bin .sub (.tmp 34) (.tmp 35))⟩, ⟨(some 8), none, (.mv (.tmp 36))⟩, ⟨(some 9), none, (.mv (.const (.int .i64 0)))⟩]) .ret)))))), 37, [(.tmp 8), (.tmp 9)]⟩
def I_calc_up_c (F : FnsA) : LF := ⟨(.seq (.reg [⟨(some 4), none, (.box (.tmp 1))⟩, ⟨(some 6), none, (.alloc [(.bool false), (.int .u32 0), (.int .u32 0), (.int .u32 0), (.int .u32 0), (.int .u32 0), (.int .u32 0)])⟩]) (.seq (.seq (.reg [⟨(some 7), none, (.mv (.tmp 2))⟩, ⟨(some 8), none, (.bin .gtr (.tmp 7) (.const (.int .i64 191)))⟩, ⟨(some 9), none, (.mv (.tmp 8))⟩, ⟨(some 10), (some (9, false)), (.fad 1 (.tmp 4))⟩, ⟨(some 11), (some (9, false)), (.load true 6 (.tmp 10))⟩, ⟨(some 12), (some (9, false)), (.call F.I_size_bits [(.tmp 11)])⟩, ⟨(some 13), (some (9, false)), (.mv (.tmp 2))⟩, ⟨(some 14), (some (9, false)), (.bin .add (.tmp 12) (.tmp 13))⟩, ⟨(some 15), (some (9, false)), (.bin .gtr (.tmp 14) (.const (.int .i64 192)))⟩, ⟨(some 16), none, (.pick (.tmp 9) (.const (.bool true)) (.tmp 15))⟩]) (.cond (.tmp 16) (.seq (.reg [⟨(some 17), none, (.mv (.tmp 0))⟩, ⟨(some 18), none, (.nilc (.tmp 17))⟩, ⟨(some 19), none, (.fad 0 (.tmp 18))⟩, ⟨none, none, (.store 1 (.tmp 19) (.const (.bool true)))⟩]) (.seq (.reg [⟨(some 20), none, (.build [(.bool false), (.int .u32 0), (.int .u32 0), (.int .u32 0), (.int .u32 0), (.int .u32 0), (.int .u32 0)] [])⟩, ⟨none, none, (.store 7 (.tmp 6) (.tmp 20))⟩]) .ret)) .skip)) (.seq (.dreg 0 [⟨0, ⟨(some 21), none, (.fad 0 (.tmp 4))⟩, [], []⟩, ⟨1, ⟨(some 22), none, (.load false 1 (.tmp 21))⟩, [0], []⟩, ⟨2, ⟨(some 23), none, (.fad 1 (.tmp 4))⟩, [], []⟩, ⟨3, ⟨(some 24), none, (.load true 6 (.tmp 23))⟩, [2], []⟩, ⟨4, ⟨(some 25), none, (.mv (.tmp 2))⟩, [], []⟩, ⟨5, ⟨(some 26), none, (.call F.I_size_up [(.tmp 24), (.tmp 25)])⟩, [3, 4, 2], [1]⟩, ⟨6, ⟨(some 27), none, (.call F.I_wide [(.tmp 22), (.tmp 26)])⟩, [1, 5, 0, 3, 4, 2], []⟩, ⟨7, ⟨none, none, (.store 7 (.tmp 6) (.tmp 27))⟩, [6, 0, 1, 2, 3, 4, 5], []⟩]) .ret))), 28, [(.cell true 7 6)]⟩
def I_calc_chain_c (F : FnsA) : LF := ⟨(.seq (.reg [⟨(some 8), none, (.mv (.const (.slice none 0 0)))⟩]) (.seq (.reg [⟨(some 11), none, (.mv (.tmp 1))⟩, ⟨(some 12), none, (.mv (.tmp 2))⟩, ⟨(some 13), none, (.bsl 1 2 [(.slice none 0 0)] [(0, (.tmp 11)), (1, (.tmp 12))])⟩, ⟨(some 9), none, (.mv (.tmp 13))⟩]) (.seq (.block 0 (.loop (.seq (.seq (.reg [⟨(some 14), none, (.mv (.tmp 0))⟩, ⟨(some 15), none, (.nilc (.tmp 14))⟩, ⟨(some 16), none, (.fad 0 (.tmp 15))⟩, ⟨(some 17), none, (.load false 1 (.tmp 16))⟩, ⟨(some 18), none, (.un .not (.tmp 17))⟩]) (.cond (.tmp 18) .skip (.exit 0))) (.block 1 (.seq (.reg [⟨(some 19), none, (.mv (.tmp 0))⟩, ⟨(some 20), none, (.mv (.tmp 1))⟩, ⟨(some 21), none, (.mv (.tmp 2))⟩, ⟨(some 22), none, (.call F.I_calc_rest [(.tmp 19), (.tmp 20), (.tmp 21)])⟩, ⟨(some 10), none, (.mv (.tmp 22))⟩]) (.seq (.seq (.reg [⟨(some 23), none, (.mv (.tmp 0))⟩, ⟨(some 24), none, (.nilc (.tmp 23))⟩, ⟨(some 25), none, (.fad 0 (.tmp 24))⟩, ⟨(some 26), none, (.load false 1 (.tmp 25))⟩, ⟨(some 27), none, (.mv (.tmp 26))⟩, ⟨(some 28), (some (27, false)), (.mv (.tmp 10))⟩, ⟨(some 29), (some (27, false)), (.lens (.tmp 28))⟩, ⟨(some 30), (some (27, false)), (.bin .eql (.tmp 29) (.const (.int .i64 0)))⟩, ⟨(some 31), none, (.pick (.tmp 27) (.const (.bool true)) (.tmp 30))⟩]) (.cond (.tmp 31) (.exit 0) .skip)) (.seq (.reg [⟨(some 32), none, (.mv (.tmp 2))⟩, ⟨(some 33), none, (.mv (.tmp 10))⟩, ⟨(some 34), none, (.mv (.tmp 3))⟩, ⟨(some 35), none, (.call F.I_lighter [(.tmp 33), (.tmp 34)])⟩, ⟨(some 1), none, (.mv (.tmp 32))⟩, ⟨(some 2), none, (.mv (.tmp 35))⟩]) (.reg [⟨(some 36), none, (.mv (.tmp 9))⟩, ⟨(some 37), none, (.mv (.tmp 2))⟩, ⟨(some 38), none, (.bsl 1 1 [(.slice none 0 0)] [(0, (.tmp 37))])⟩, ⟨(some 39), none, (.app 1 24 (.tmp 36) (.tmp 38))⟩, ⟨(some 9), none, (.mv (.tmp 39))⟩])))))))) (.seq (.reg [⟨(some 40), none, (.mv (.tmp 9))⟩, ⟨(some 8), none, (.mv (.tmp 40))⟩]) .ret)))), 41, [(.tmp 8)]⟩
def I_sturm_count_c (F : FnsA) : LF := ⟨(.seq (.reg [⟨(some 5), none, (.box (.tmp 1))⟩, ⟨(some 6), none, (.box (.tmp 2))⟩, ⟨(some 8), none, (.mv (.const (.int .i64 0)))⟩]) (.seq (.dreg 0 [⟨0, ⟨(some 9), none, (.mv (.tmp 0))⟩, [], []⟩, ⟨1, ⟨(some 10), none, (.load true 7 (.tmp 5))⟩, [], []⟩, ⟨2, ⟨(some 11), none, (.mv (.tmp 3))⟩, [], []⟩, ⟨4, ⟨(some 13), none, (.mv (.tmp 0))⟩, [], []⟩, ⟨5, ⟨(some 14), none, (.load true 7 (.tmp 6))⟩, [], []⟩, ⟨6, ⟨(some 15), none, (.mv (.tmp 3))⟩, [], []⟩, ⟨3, ⟨(some 12), none, (.call F.I_sturm_turns [(.tmp 9), (.tmp 10), (.tmp 11)])⟩, [0, 1, 2], [5]⟩, ⟨7, ⟨(some 16), none, (.call F.I_sturm_turns [(.tmp 13), (.tmp 14), (.tmp 15)])⟩, [4, 5, 6, 3, 0, 1, 2], []⟩, ⟨8, ⟨(some 17), none, (.bin .sub (.tmp 12) (.tmp 16))⟩, [3, 7, 0, 1, 2, 4, 5, 6], []⟩, ⟨9, ⟨(some 8), none, (.mv (.tmp 17))⟩, [8, 7, 0, 1, 2, 3, 4, 5, 6], []⟩]) .ret)), 18, [(.tmp 8)]⟩
def W_eqUint32A6_c (F : FnsA) : LF := ⟨(.seq (.reg [⟨(some 2), none, (.box (.tmp 0))⟩, ⟨(some 3), none, (.box (.tmp 1))⟩, ⟨(some 4), none, (.mv (.const (.bool false)))⟩]) (.seq (.seq (.reg [⟨(some 5), none, (.mv (.const (.int .i64 0)))⟩]) (.block 0 (.loop (.seq (.seq (.reg [⟨(some 6), none, (.mv (.tmp 5))⟩, ⟨(some 7), none, (.bin .lss (.tmp 6) (.const (.int .i64 6)))⟩]) (.cond (.tmp 7) .skip (.exit 0))) (.seq (.block 1 (.seq (.dreg 0 [⟨0, ⟨(some 10), none, (.mv (.tmp 5))⟩, [], []⟩, ⟨1, ⟨(some 11), none, (.iarr 6 1 (.tmp 2) (.tmp 10))⟩, [0], []⟩, ⟨2, ⟨(some 12), none, (.load false 1 (.tmp 11))⟩, [1, 0], []⟩, ⟨3, ⟨(some 13), none, (.mv (.tmp 5))⟩, [], []⟩, ⟨4, ⟨(some 14), none, (.iarr 6 1 (.tmp 3) (.tmp 13))⟩, [3], []⟩, ⟨5, ⟨(some 15), none, (.load false 1 (.tmp 14))⟩, [4, 3], []⟩, ⟨6, ⟨(some 16), none, (.bin .neq (.tmp 12) (.tmp 15))⟩, [2, 5, 1, 0, 4, 3], []⟩]) (.cond (.tmp 16) (.seq (.reg [⟨(some 4), none, (.mv (.const (.bool false)))⟩]) .ret) .skip))) (.reg [⟨(some 8), none, (.mv (.tmp 5))⟩, ⟨(some 9), none, (.bin .add (.tmp 8) (.const (.int .i64 1)))⟩, ⟨(some 5), none, (.mv (.tmp 9))⟩])))))) (.seq (.reg [⟨(some 4), none, (.mv (.const (.bool true)))⟩]) .ret))), 17, [(.tmp 4)]⟩
def S_l00In_c (F : FnsA) : LF := ⟨(.seq (.reg [⟨(some 6), none, (.mv (.const (.bool false)))⟩]) (.seq (.reg [⟨(some 7), none, (.mv (.tmp 0))⟩, ⟨(some 8), none, (.mv (.tmp 1))⟩, ⟨(some 9), none, (.bin .geq (.tmp 7) (.tmp 8))⟩, ⟨(some 10), none, (.mv (.tmp 9))⟩, ⟨(some 11), (some (10, true)), (.mv (.tmp 0))⟩, ⟨(some 12), (some (10, true)), (.mv (.tmp 2))⟩, ⟨(some 13), (some (10, true)), (.bin .leq (.tmp 11) (.tmp 12))⟩, ⟨(some 14), none, (.pick (.tmp 10) (.tmp 13) (.const (.bool false)))⟩, ⟨(some 6), none, (.mv (.tmp 14))⟩]) .ret)), 15, [(.tmp 6)]⟩
def S_l01Ok_c (F : FnsA) : LF := ⟨(.seq (.reg [⟨(some 2), none, (.mv (.const (.bool false)))⟩]) (.seq (.reg [⟨(some 3), none, (.mv (.tmp 0))⟩, ⟨(some 4), none, (.nilc (.tmp 3))⟩, ⟨(some 5), none, (.fad 0 (.tmp 4))⟩, ⟨(some 6), none, (.load false 1 (.tmp 5))⟩, ⟨(some 7), none, (.un .not (.tmp 6))⟩, ⟨(some 8), none, (.mv (.tmp 7))⟩, ⟨(some 9), (some (8, false)), (.mv (.tmp 0))⟩, ⟨(some 10), (some (8, false)), (.nilc (.tmp 9))⟩, ⟨(some 11), (some (8, false)), (.fad 1 (.tmp 10))⟩, ⟨(some 12), (some (8, false)), (.load true 6 (.tmp 11))⟩, ⟨(some 13), (some (8, false)), (.build [(.int .u32 0), (.int .u32 0), (.int .u32 0), (.int .u32 0), (.int .u32 0), (.int .u32 0)] [])⟩, ⟨(some 14), (some (8, false)), (.eqs true 6 (.tmp 12) (.tmp 13))⟩, ⟨(some 15), none, (.pick (.tmp 8) (.const (.bool true)) (.tmp 14))⟩, ⟨(some 2), none, (.mv (.tmp 15))⟩]) .ret)), 16, [(.tmp 2)]⟩
def X_ContainsFunc_int64_c (F : FnsA) : LF := ⟨(.seq (.reg [⟨(some 4), none, (.mv (.const (.bool false)))⟩]) (.seq (.reg [⟨(some 5), none, (.mv (.tmp 0))⟩, ⟨(some 6), none, (.mv (.tmp 1))⟩, ⟨(some 7), none, (.call F.X_IndexFunc_int64 [(.tmp 5), (.tmp 6)])⟩, ⟨(some 8), none, (.bin .geq (.tmp 7) (.const (.int .i64 0)))⟩, ⟨(some 4), none, (.mv (.tmp 8))⟩]) .ret)), 9, [(.tmp 4)]⟩
def I_ValidPoly_1_c (F : FnsA) : LF := ⟨(.seq (.reg [⟨(some 2), none, (.mv (.const (.bool false)))⟩]) (.seq (.reg [⟨(some 3), none, (.mv (.tmp 0))⟩, ⟨(some 4), none, (.call F.I_within [(.tmp 3), (.const (.int .i64 (-1000000))), (.const (.int .i64 1000000))])⟩, ⟨(some 5), none, (.un .not (.tmp 4))⟩, ⟨(some 2), none, (.mv (.tmp 5))⟩]) .ret)), 6, [(.tmp 2)]⟩
def I_within_c (F : FnsA) : LF := ⟨(.seq (.reg [⟨(some 6), none, (.mv (.const (.bool false)))⟩]) (.seq (.reg [⟨(some 7), none, (.mv (.tmp 0))⟩, ⟨(some 8), none, (.mv (.tmp 1))⟩, ⟨(some 9), none, (.bin .geq (.tmp 7) (.tmp 8))⟩, ⟨(some 10), none, (.mv (.tmp 9))⟩, ⟨(some 11), (some (10, true)), (.mv (.tmp 0))⟩, ⟨(some 12), (some (10, true)), (.mv (.tmp 2))⟩, ⟨(some 13), (some (10, true)), (.bin .leq (.tmp 11) (.tmp 12))⟩, ⟨(some 14), none, (.pick (.tmp 10) (.tmp 13) (.const (.bool false)))⟩, ⟨(some 6), none, (.mv (.tmp 14))⟩]) .ret)), 15, [(.tmp 6)]⟩
def S_l05Sturm_c (F : FnsA) : LF := ⟨(.seq (.reg [⟨(some 2), none, (.mv (.const (.slice none 0 0)))⟩, ⟨(some 3), none, (.mv (.const (.int .i64 0)))⟩]) (.seq (.reg [⟨(some 4), none, (.mv (.tmp 0))⟩, ⟨(some 5), none, (.call F.S_l05Wides [(.tmp 4)])⟩, ⟨(some 6), none, (.mv (.tmp 0))⟩, ⟨(some 7), none, (.call F.S_l05Slope [(.tmp 6)])⟩, ⟨(some 8), none, (.call F.S_l05Wides [(.tmp 7)])⟩, ⟨(some 9), none, (.call F.S_l05Chain [(.tmp 5), (.tmp 8), (.const (.bool true))])⟩, ⟨(some 10), none, (.ext 0 (.tmp 9))⟩, ⟨(some 11), none, (.ext 1 (.tmp 9))⟩, ⟨(some 2), none, (.mv (.tmp 10))⟩, ⟨(some 3), none, (.mv (.tmp 11))⟩]) .ret)), 12, [(.tmp 2), (.tmp 3)]⟩
def S_l01UpMag_c (F : FnsA) : LF := ⟨(.seq (.reg [⟨(some 4), none, (.alloc [(.int .u32 0), (.int .u32 0), (.int .u32 0), (.int .u32 0), (.int .u32 0), (.int .u32 0)])⟩, ⟨(some 5), none, (.mv (.const (.bool false)))⟩]) (.seq (.seq (.reg [⟨(some 10), none, (.mv (.tmp 0))⟩, ⟨(some 11), none, (.call F.S_l01Bits [(.tmp 10)])⟩, ⟨(some 12), none, (.mv (.tmp 1))⟩, ⟨(some 13), none, (.bin .add (.tmp 11) (.tmp 12))⟩, ⟨(some 14), none, (.bin .gtr (.tmp 13) (.const (.int .i64 192)))⟩, ⟨(some 15), none, (.mv (.tmp 14))⟩, ⟨(some 16), (some (15, true)), (.mv (.tmp 0))⟩, ⟨(some 17), (some (15, true)), (.call F.S_l01Zero [(.tmp 16)])⟩, ⟨(some 18), (some (15, true)), (.un .not (.tmp 17))⟩, ⟨(some 19), none, (.pick (.tmp 15) (.tmp 18) (.const (.bool false)))⟩]) (.cond (.tmp 19) (.seq (.reg [⟨(some 20), none, (.build [(.int .u32 0), (.int .u32 0), (.int .u32 0), (.int .u32 0), (.int .u32 0), (.int .u32 0)] [])⟩, ⟨none, none, (.store 6 (.tmp 4) (.tmp 20))⟩, ⟨(some 5), none, (.mv (.const (.bool false)))⟩]) .ret) .skip)) (.seq (.reg [⟨(some 21), none, (.build [(.int .u32 0), (.int .u32 0), (.int .u32 0), (.int .u32 0), (.int .u32 0), (.int .u32 0)] [])⟩, ⟨(some 6), none, (.alloc [(.int .u32 0), (.int .u32 0), (.int .u32 0), (.int .u32 0), (.int .u32 0), (.int .u32 0)])⟩, ⟨none, none, (.store 6 (.tmp 6) (.tmp 21))⟩]) (.seq (.seq (.reg [⟨(some 7), none, (.mv (.const (.int .i64 0)))⟩]) (.block 0 (.loop (.seq (.seq (.reg [⟨(some 22), none, (.mv (.tmp 7))⟩, ⟨(some 23), none, (.bin .lss (.tmp 22) (.const (.int .i64 6)))⟩]) (.cond (.tmp 23) .skip (.exit 0))) (.seq (.block 1 (.seq (.reg [⟨(some 26), none, (.mv (.tmp 7))⟩, ⟨(some 27), none, (.mv (.tmp 1))⟩, ⟨(some 28), none, (.bin .quo (.tmp 27) (.const (.int .i64 32)))⟩, ⟨(some 29), none, (.bin .add (.tmp 26) (.tmp 28))⟩, ⟨(some 8), none, (.mv (.tmp 29))⟩]) (.seq (.seq (.reg [⟨(some 30), none, (.mv (.tmp 8))⟩, ⟨(some 31), none, (.bin .geq (.tmp 30) (.const (.int .i64 6)))⟩]) (.cond (.tmp 31) (.exit 0) .skip)) (.seq (.reg [⟨(some 32), none, (.mv (.tmp 0))⟩, ⟨(some 33), none, (.mv (.tmp 7))⟩, ⟨(some 34), none, (.nilc (.tmp 32))⟩, ⟨(some 35), none, (.iarr 6 1 (.tmp 34) (.tmp 33))⟩, ⟨(some 36), none, (.load false 1 (.tmp 35))⟩, ⟨(some 37), none, (.conv .u64 (.tmp 36))⟩, ⟨(some 38), none, (.mv (.tmp 1))⟩, ⟨(some 39), none, (.bin .rem (.tmp 38) (.const (.int .i64 32)))⟩, ⟨(some 40), none, (.conv .u64 (.tmp 39))⟩, ⟨(some 41), none, (.bin .shl (.tmp 37) (.tmp 40))⟩, ⟨(some 9), none, (.mv (.tmp 41))⟩]) (.seq (.reg [⟨(some 42), none, (.mv (.tmp 8))⟩, ⟨(some 43), none, (.iarr 6 1 (.tmp 6) (.tmp 42))⟩, ⟨(some 44), none, (.load false 1 (.tmp 43))⟩, ⟨(some 45), none, (.mv (.tmp 9))⟩, ⟨(some 46), none, (.conv .u32 (.tmp 45))⟩, ⟨(some 47), none, (.bin .or (.tmp 44) (.tmp 46))⟩, ⟨(some 48), none, (.iarr 6 1 (.tmp 6) (.tmp 42))⟩, ⟨none, none, (.store 1 (.tmp 48) (.tmp 47))⟩]) (.seq (.reg [⟨(some 49), none, (.mv (.tmp 8))⟩, ⟨(some 50), none, (.bin .add (.tmp 49) (.const (.int .i64 1)))⟩, ⟨(some 51), none, (.bin .lss (.tmp 50) (.const (.int .i64 6)))⟩]) (.cond (.tmp 51) (.reg [⟨(some 52), none, (.mv (.tmp 8))⟩, ⟨(some 53), none, (.bin .add (.tmp 52) (.const (.int .i64 1)))⟩, ⟨(some 54), none, (.iarr 6 1 (.tmp 6) (.tmp 53))⟩, ⟨(some 55), none, (.load false 1 (.tmp 54))⟩, ⟨(some 56), none, (.mv (.tmp 9))⟩, ⟨(some 57), none, (.bin .shr (.tmp 56) (.const (.int .u64 32)))⟩, ⟨(some 58), none, (.conv .u32 (.tmp 57))⟩, ⟨(some 59), none, (.bin .or (.tmp 55) (.tmp 58))⟩, ⟨(some 60), none, (.iarr 6 1 (.tmp 6) (.tmp 53))⟩, ⟨none, none, (.store 1 (.tmp 60) (.tmp 59))⟩]) .skip))))))) (.reg [⟨(some 24), none, (.mv (.tmp 7))⟩, ⟨(some 25), none, (.bin .add (.tmp 24) (.const (.int .i64 1)))⟩, ⟨(some 7), none, (.mv (.tmp 25))⟩])))))) (.seq (.reg [⟨(some 61), none, (.load true 6 (.tmp 6))⟩, ⟨none, none, (.store 6 (.tmp 4) (.tmp 61))⟩, ⟨(some 5), none, (.mv (.const (.bool true)))⟩]) .ret))))), 62, [(.cell true 6 4), (.tmp 5)]⟩
def S_l01Made_c (F : FnsA) : LF := ⟨(.seq (.reg [⟨(some 3), none, (.box (.tmp 1))⟩, ⟨(some 4), none, (.alloc [(.bool false), (.int .u32 0), (.int .u32 0), (.int .u32 0), (.int .u32 0), (.int .u32 0), (.int .u32 0)])⟩]) (.seq (.dreg 0 [⟨0, ⟨(some 5), none, (.mv (.tmp 0))⟩, [], []⟩, ⟨1, ⟨(some 6), none, (.mv (.tmp 5))⟩, [0], []⟩, ⟨5, ⟨(some 10), none, (.load true 6 (.tmp 3))⟩, [], []⟩, ⟨2, ⟨(some 7), (some (6, true)), (.call F.S_l01Zero [(.tmp 3)])⟩, [1, 0], [5]⟩, ⟨3, ⟨(some 8), (some (6, true)), (.un .not (.tmp 7))⟩, [2, 1, 0], []⟩, ⟨4, ⟨(some 9), none, (.pick (.tmp 6) (.tmp 8) (.const (.bool false)))⟩, [1, 3, 0, 2], []⟩, ⟨6, ⟨(some 11), none, (.build [(.bool false), (.int .u32 0), (.int .u32 0), (.int .u32 0), (.int .u32 0), (.int .u32 0), (.int .u32 0)] [(0, (1, (.tmp 9))), (1, (6, (.tmp 10)))])⟩, [4, 5, 1, 3, 0, 2], []⟩, ⟨7, ⟨none, none, (.store 7 (.tmp 4) (.tmp 11))⟩, [6, 2, 0, 1, 3, 4, 5], []⟩]) .ret)), 12, [(.cell true 7 4)]⟩
def S_l01Add_c (F : FnsA) : LF := ⟨(.seq (.reg [⟨(some 2), none, (.box (.tmp 0))⟩, ⟨(some 3), none, (.box (.tmp 1))⟩, ⟨(some 4), none, (.alloc [(.bool false), (.int .u32 0), (.int .u32 0), (.int .u32 0), (.int .u32 0), (.int .u32 0), (.int .u32 0)])⟩, ⟨(some 5), none, (.mv (.const (.int .i64 0)))⟩]) (.seq (.reg [⟨(some 10), none, (.fad 1 (.tmp 2))⟩, ⟨(some 11), none, (.load true 6 (.tmp 10))⟩, ⟨(some 6), none, (.alloc [(.int .u32 0), (.int .u32 0), (.int .u32 0), (.int .u32 0), (.int .u32 0), (.int .u32 0)])⟩, ⟨none, none, (.store 6 (.tmp 6) (.tmp 11))⟩]) (.seq (.reg [⟨(some 12), none, (.fad 1 (.tmp 3))⟩, ⟨(some 13), none, (.load true 6 (.tmp 12))⟩, ⟨(some 7), none, (.alloc [(.int .u32 0), (.int .u32 0), (.int .u32 0), (.int .u32 0), (.int .u32 0), (.int .u32 0)])⟩, ⟨none, none, (.store 6 (.tmp 7) (.tmp 13))⟩]) (.seq (.seq (.reg [⟨(some 14), none, (.fad 0 (.tmp 2))⟩, ⟨(some 15), none, (.load false 1 (.tmp 14))⟩, ⟨(some 16), none, (.fad 0 (.tmp 3))⟩, ⟨(some 17), none, (.load false 1 (.tmp 16))⟩, ⟨(some 18), none, (.beq false (.tmp 15) (.tmp 17))⟩]) (.cond (.tmp 18) (.seq (.reg [⟨(some 20), none, (.call F.S_l01Plus [(.tmp 6), (.tmp 7)])⟩, ⟨(some 19), none, (.mv (.tmp 20))⟩, ⟨(some 21), none, (.ext 0 (.tmp 19))⟩, ⟨(some 22), none, (.ext 1 (.tmp 19))⟩, ⟨(some 8), none, (.alloc [(.int .u32 0), (.int .u32 0), (.int .u32 0), (.int .u32 0), (.int .u32 0), (.int .u32 0)])⟩, ⟨none, none, (.store 6 (.tmp 8) (.tmp 21))⟩, ⟨(some 9), none, (.mv (.tmp 22))⟩]) (.seq (.seq (.reg [⟨(some 23), none, (.mv (.tmp 9))⟩, ⟨(some 24), none, (.un .not (.tmp 23))⟩]) (.cond (.tmp 24) (.seq (.reg [⟨(some 25), none, (.build [(.bool false), (.int .u32 0), (.int .u32 0), (.int .u32 0), (.int .u32 0), (.int .u32 0), (.int .u32 0)] [])⟩, ⟨none, none, (.store 7 (.tmp 4) (.tmp 25))⟩, ⟨(some 5), none, (.mv (.const (.int .i64 3)))⟩]) .ret) .skip)) (.seq (.reg [⟨(some 26), none, (.fad 0 (.tmp 2))⟩, ⟨(some 27), none, (.load false 1 (.tmp 26))⟩, ⟨(some 28), none, (.load true 6 (.tmp 8))⟩, ⟨(some 29), none, (.call F.S_l01Made [(.tmp 27), (.tmp 28)])⟩, ⟨none, none, (.store 7 (.tmp 4) (.tmp 29))⟩, ⟨(some 5), none, (.mv (.const (.int .i64 0)))⟩]) .ret))) .skip)) (.seq (.seq (.reg [⟨(some 30), none, (.call F.S_l01Cmp [(.tmp 6), (.tmp 7)])⟩, ⟨(some 31), none, (.bin .geq (.tmp 30) (.const (.int .i64 0)))⟩]) (.cond (.tmp 31) (.seq (.dreg 0 [⟨0, ⟨(some 32), none, (.fad 0 (.tmp 2))⟩, [], []⟩, ⟨1, ⟨(some 33), none, (.load false 1 (.tmp 32))⟩, [0], []⟩, ⟨2, ⟨(some 34), none, (.call F.S_l01Minus [(.tmp 6), (.tmp 7)])⟩, [], [1]⟩, ⟨3, ⟨(some 35), none, (.call F.S_l01Made [(.tmp 33), (.tmp 34)])⟩, [1, 2, 0], []⟩, ⟨4, ⟨none, none, (.store 7 (.tmp 4) (.tmp 35))⟩, [3, 0, 1, 2], []⟩, ⟨5, ⟨(some 5), none, (.mv (.const (.int .i64 0)))⟩, [4, 0, 1, 2, 3], []⟩]) .ret) .skip)) (.seq (.dreg 0 [⟨0, ⟨(some 36), none, (.fad 0 (.tmp 3))⟩, [], []⟩, ⟨1, ⟨(some 37), none, (.load false 1 (.tmp 36))⟩, [0], []⟩, ⟨2, ⟨(some 38), none, (.call F.S_l01Minus [(.tmp 7), (.tmp 6)])⟩, [], [1]⟩, ⟨3, ⟨(some 39), none, (.call F.S_l01Made [(.tmp 37), (.tmp 38)])⟩, [1, 2, 0], []⟩, ⟨4, ⟨none, none, (.store 7 (.tmp 4) (.tmp 39))⟩, [3, 0, 1, 2], []⟩, ⟨5, ⟨(some 5), none, (.mv (.const (.int .i64 0)))⟩, [4, 0, 1, 2, 3], []⟩]) .ret)))))), 40, [(.cell true 7 4), (.tmp 5)]⟩
def I_calc_chainOf_c (F : FnsA) : LF := ⟨(.seq (.reg [⟨(some 4), none, (.mv (.const (.slice none 0 0)))⟩]) (.seq (.reg [⟨(some 5), none, (.mv (.tmp 0))⟩, ⟨(some 6), none, (.mv (.tmp 1))⟩, ⟨(some 7), none, (.call F.I_widen [(.tmp 6)])⟩, ⟨(some 8), none, (.mv (.tmp 1))⟩, ⟨(some 9), none, (.call F.I_slope [(.tmp 8)])⟩, ⟨(some 10), none, (.call F.I_widen [(.tmp 9)])⟩, ⟨(some 11), none, (.call F.I_calc_chain [(.tmp 5), (.tmp 7), (.tmp 10), (.const (.bool true))])⟩, ⟨(some 4), none, (.mv (.tmp 11))⟩]) .ret)), 12, [(.tmp 4)]⟩
def I_wide_c (F : FnsA) : LF := ⟨(.seq (.reg [⟨(some 3), none, (.box (.tmp 1))⟩, ⟨(some 4), none, (.alloc [(.bool false), (.int .u32 0), (.int .u32 0), (.int .u32 0), (.int .u32 0), (.int .u32 0), (.int .u32 0)])⟩]) (.seq (.dreg 0 [⟨0, ⟨(some 5), none, (.mv (.tmp 0))⟩, [], []⟩, ⟨1, ⟨(some 6), none, (.mv (.tmp 5))⟩, [0], []⟩, ⟨2, ⟨(some 7), (some (6, true)), (.load true 6 (.tmp 3))⟩, [1, 0], []⟩, ⟨3, ⟨(some 8), (some (6, true)), (.build [(.int .u32 0), (.int .u32 0), (.int .u32 0), (.int .u32 0), (.int .u32 0), (.int .u32 0)] [])⟩, [1, 0], []⟩, ⟨4, ⟨(some 9), (some (6, true)), (.eqs true 6 (.tmp 7) (.tmp 8))⟩, [2, 3, 1, 0], []⟩, ⟨5, ⟨(some 10), none, (.pick (.tmp 6) (.tmp 9) (.const (.bool false)))⟩, [1, 4, 0, 2, 3], []⟩, ⟨6, ⟨(some 11), none, (.load true 6 (.tmp 3))⟩, [], []⟩, ⟨7, ⟨(some 12), none, (.build [(.bool false), (.int .u32 0), (.int .u32 0), (.int .u32 0), (.int .u32 0), (.int .u32 0), (.int .u32 0)] [(0, (1, (.tmp 10))), (1, (6, (.tmp 11)))])⟩, [5, 6, 1, 4, 0, 2, 3], []⟩, ⟨8, ⟨none, none, (.store 7 (.tmp 4) (.tmp 12))⟩, [7, 1, 0, 2, 3, 4, 5, 6], []⟩]) .ret)), 13, [(.cell true 7 4)]⟩
def I_calc_add_c (F : FnsA) : LF := ⟨(.seq (.reg [⟨(some 4), none, (.box (.tmp 1))⟩, ⟨(some 5), none, (.box (.tmp 2))⟩, ⟨(some 6), none, (.alloc [(.bool false), (.int .u32 0), (.int .u32 0), (.int .u32 0), (.int .u32 0), (.int .u32 0), (.int .u32 0)])⟩]) (.seq (.seq (.reg [⟨(some 9), none, (.fad 0 (.tmp 4))⟩, ⟨(some 10), none, (.load false 1 (.tmp 9))⟩, ⟨(some 11), none, (.fad 0 (.tmp 5))⟩, ⟨(some 12), none, (.load false 1 (.tmp 11))⟩, ⟨(some 13), none, (.beq false (.tmp 10) (.tmp 12))⟩]) (.cond (.tmp 13) (.seq (.reg [⟨(some 15), none, (.fad 1 (.tmp 4))⟩, ⟨(some 16), none, (.load true 6 (.tmp 15))⟩, ⟨(some 17), none, (.fad 1 (.tmp 5))⟩, ⟨(some 18), none, (.load true 6 (.tmp 17))⟩, ⟨(some 19), none, (.call F.I_size_plus [(.tmp 16), (.tmp 18)])⟩, ⟨(some 14), none, (.mv (.tmp 19))⟩, ⟨(some 20), none, (.ext 0 (.tmp 14))⟩, ⟨(some 21), none, (.ext 1 (.tmp 14))⟩, ⟨(some 7), none, (.alloc [(.int .u32 0), (.int .u32 0), (.int .u32 0), (.int .u32 0), (.int .u32 0), (.int .u32 0)])⟩, ⟨none, none, (.store 6 (.tmp 7) (.tmp 20))⟩, ⟨(some 8), none, (.mv (.tmp 21))⟩]) (.seq (.reg [⟨(some 22), none, (.mv (.tmp 0))⟩, ⟨(some 23), none, (.mv (.tmp 0))⟩, ⟨(some 24), none, (.nilc (.tmp 23))⟩, ⟨(some 25), none, (.fad 0 (.tmp 24))⟩, ⟨(some 26), none, (.load false 1 (.tmp 25))⟩, ⟨(some 27), none, (.mv (.tmp 26))⟩, ⟨(some 28), (some (27, false)), (.mv (.tmp 8))⟩, ⟨(some 29), none, (.pick (.tmp 27) (.const (.bool true)) (.tmp 28))⟩, ⟨(some 30), none, (.nilc (.tmp 22))⟩, ⟨(some 31), none, (.fad 0 (.tmp 30))⟩, ⟨none, none, (.store 1 (.tmp 31) (.tmp 29))⟩]) (.seq (.reg [⟨(some 32), none, (.fad 0 (.tmp 4))⟩, ⟨(some 33), none, (.load false 1 (.tmp 32))⟩, ⟨(some 34), none, (.load true 6 (.tmp 7))⟩, ⟨(some 35), none, (.call F.I_wide [(.tmp 33), (.tmp 34)])⟩, ⟨none, none, (.store 7 (.tmp 6) (.tmp 35))⟩]) .ret))) .skip)) (.seq (.seq (.reg [⟨(some 36), none, (.fad 1 (.tmp 4))⟩, ⟨(some 37), none, (.load true 6 (.tmp 36))⟩, ⟨(some 38), none, (.fad 1 (.tmp 5))⟩, ⟨(some 39), none, (.load true 6 (.tmp 38))⟩, ⟨(some 40), none, (.call F.I_size_compare [(.tmp 37), (.tmp 39)])⟩, ⟨(some 41), none, (.bin .lss (.tmp 40) (.const (.int .i64 0)))⟩]) (.cond (.tmp 41) (.reg [⟨(some 42), none, (.load true 7 (.tmp 5))⟩, ⟨(some 43), none, (.load true 7 (.tmp 4))⟩, ⟨none, none, (.store 7 (.tmp 4) (.tmp 42))⟩, ⟨none, none, (.store 7 (.tmp 5) (.tmp 43))⟩]) .skip)) (.seq (.dreg 0 [⟨0, ⟨(some 44), none, (.fad 0 (.tmp 4))⟩, [], []⟩, ⟨1, ⟨(some 45), none, (.load false 1 (.tmp 44))⟩, [0], []⟩, ⟨2, ⟨(some 46), none, (.fad 1 (.tmp 4))⟩, [], []⟩, ⟨3, ⟨(some 47), none, (.load true 6 (.tmp 46))⟩, [2], []⟩, ⟨4, ⟨(some 48), none, (.fad 1 (.tmp 5))⟩, [], []⟩, ⟨5, ⟨(some 49), none, (.load true 6 (.tmp 48))⟩, [4], []⟩, ⟨6, ⟨(some 50), none, (.call F.I_size_minus [(.tmp 47), (.tmp 49)])⟩, [3, 5, 2, 4], [1]⟩, ⟨7, ⟨(some 51), none, (.call F.I_wide [(.tmp 45), (.tmp 50)])⟩, [1, 6, 0, 3, 5, 2, 4], []⟩, ⟨8, ⟨none, none, (.store 7 (.tmp 6) (.tmp 51))⟩, [7, 0, 1, 2, 3, 4, 5, 6], []⟩]) .ret)))), 52, [(.cell true 7 6)]⟩
def I_calc_mul_c (F : FnsA) : LF := ⟨(.seq (.reg [⟨(some 4), none, (.box (.tmp 1))⟩, ⟨(some 5), none, (.box (.tmp 2))⟩, ⟨(some 6), none, (.alloc [(.bool false), (.int .u32 0), (.int .u32 0), (.int .u32 0), (.int .u32 0), (.int .u32 0), (.int .u32 0)])⟩]) (.seq (.reg [⟨(some 10), none, (.fad 1 (.tmp 4))⟩, ⟨(some 11), none, (.load true 6 (.tmp 10))⟩, ⟨(some 12), none, (.fad 1 (.tmp 5))⟩, ⟨(some 13), none, (.load true 6 (.tmp 12))⟩, ⟨(some 14), none, (.call F.I_size_times [(.tmp 11), (.tmp 13)])⟩, ⟨(some 9), none, (.mv (.tmp 14))⟩, ⟨(some 15), none, (.ext 0 (.tmp 9))⟩, ⟨(some 16), none, (.ext 1 (.tmp 9))⟩, ⟨(some 7), none, (.alloc [(.int .u32 0), (.int .u32 0), (.int .u32 0), (.int .u32 0), (.int .u32 0), (.int .u32 0)])⟩, ⟨none, none, (.store 6 (.tmp 7) (.tmp 15))⟩, ⟨(some 8), none, (.mv (.tmp 16))⟩]) (.seq (.reg [⟨(some 17), none, (.mv (.tmp 0))⟩, ⟨(some 18), none, (.mv (.tmp 0))⟩, ⟨(some 19), none, (.nilc (.tmp 18))⟩, ⟨(some 20), none, (.fad 0 (.tmp 19))⟩, ⟨(some 21), none, (.load false 1 (.tmp 20))⟩, ⟨(some 22), none, (.mv (.tmp 21))⟩, ⟨(some 23), (some (22, false)), (.mv (.tmp 8))⟩, ⟨(some 24), none, (.pick (.tmp 22) (.const (.bool true)) (.tmp 23))⟩, ⟨(some 25), none, (.nilc (.tmp 17))⟩, ⟨(some 26), none, (.fad 0 (.tmp 25))⟩, ⟨none, none, (.store 1 (.tmp 26) (.tmp 24))⟩]) (.seq (.reg [⟨(some 27), none, (.fad 0 (.tmp 4))⟩, ⟨(some 28), none, (.load false 1 (.tmp 27))⟩, ⟨(some 29), none, (.fad 0 (.tmp 5))⟩, ⟨(some 30), none, (.load false 1 (.tmp 29))⟩, ⟨(some 31), none, (.beq true (.tmp 28) (.tmp 30))⟩, ⟨(some 32), none, (.load true 6 (.tmp 7))⟩, ⟨(some 33), none, (.call F.I_wide [(.tmp 31), (.tmp 32)])⟩, ⟨none, none, (.store 7 (.tmp 6) (.tmp 33))⟩]) .ret)))), 34, [(.cell true 7 6)]⟩
def S_l05Wides_c (F : FnsA) : LF := ⟨(.seq (.reg [⟨(some 2), none, (.mv (.const (.slice none 0 0)))⟩]) (.seq (.reg [⟨(some 5), none, (.bsl 7 0 [(.bool false), (.int .u32 0), (.int .u32 0), (.int .u32 0), (.int .u32 0), (.int .u32 0), (.int .u32 0)] [])⟩, ⟨(some 3), none, (.mv (.tmp 5))⟩]) (.seq (.seq (.reg [⟨(some 4), none, (.mv (.const (.int .i64 0)))⟩]) (.block 0 (.loop (.seq (.seq (.reg [⟨(some 6), none, (.mv (.tmp 4))⟩, ⟨(some 7), none, (.mv (.tmp 0))⟩, ⟨(some 8), none, (.lens (.tmp 7))⟩, ⟨(some 9), none, (.bin .lss (.tmp 6) (.tmp 8))⟩]) (.cond (.tmp 9) .skip (.exit 0))) (.seq (.block 1 (.reg [⟨(some 12), none, (.mv (.tmp 3))⟩, ⟨(some 13), none, (.mv (.tmp 0))⟩, ⟨(some 14), none, (.mv (.tmp 4))⟩, ⟨(some 15), none, (.isl 1 (.tmp 13) (.tmp 14))⟩, ⟨(some 16), none, (.load false 1 (.tmp 15))⟩, ⟨(some 17), none, (.call F.S_l01Of [(.tmp 16)])⟩, ⟨(some 18), none, (.bsl 7 1 [(.bool false), (.int .u32 0), (.int .u32 0), (.int .u32 0), (.int .u32 0), (.int .u32 0), (.int .u32 0)] [(0, (.tmp 17))])⟩, ⟨(some 19), none, (.app 7 28 (.tmp 12) (.tmp 18))⟩, ⟨(some 3), none, (.mv (.tmp 19))⟩])) (.reg [⟨(some 10), none, (.mv (.tmp 4))⟩, ⟨(some 11), none, (.bin .add (.tmp 10) (.const (.int .i64 1)))⟩, ⟨(some 4), none, (.mv (.tmp 11))⟩])))))) (.seq (.reg [⟨(some 20), none, (.mv (.tmp 3))⟩, ⟨(some 2), none, (.mv (.tmp 20))⟩]) .ret)))), 21, [(.tmp 2)]⟩
def S_l05Thin_c (F : FnsA) : LF := ⟨(.seq (.reg [⟨(some 2), none, (.mv (.const (.slice none 0 0)))⟩]) (.seq (.reg [⟨(some 9), none, (.build [(.bool false), (.int .u32 0), (.int .u32 0), (.int .u32 0), (.int .u32 0), (.int .u32 0), (.int .u32 0)] [])⟩, ⟨(some 3), none, (.alloc [(.bool false), (.int .u32 0), (.int .u32 0), (.int .u32 0), (.int .u32 0), (.int .u32 0), (.int .u32 0)])⟩, ⟨none, none, (.store 7 (.tmp 3) (.tmp 9))⟩]) (.seq (.seq (.reg [⟨(some 4), none, (.mv (.const (.int .i64 0)))⟩]) (.block 0 (.loop (.seq (.seq (.reg [⟨(some 10), none, (.mv (.tmp 4))⟩, ⟨(some 11), none, (.mv (.tmp 0))⟩, ⟨(some 12), none, (.lens (.tmp 11))⟩, ⟨(some 13), none, (.bin .lss (.tmp 10) (.tmp 12))⟩]) (.cond (.tmp 13) .skip (.exit 0))) (.seq (.block 1 (.dreg 0 [⟨0, ⟨(some 17), none, (.load true 7 (.tmp 3))⟩, [], []⟩, ⟨1, ⟨(some 18), none, (.mv (.tmp 0))⟩, [], []⟩, ⟨2, ⟨(some 19), none, (.mv (.tmp 4))⟩, [], []⟩, ⟨3, ⟨(some 20), none, (.isl 7 (.tmp 18) (.tmp 19))⟩, [1, 2], []⟩, ⟨4, ⟨(some 21), none, (.load true 7 (.tmp 20))⟩, [3, 1, 2], []⟩, ⟨5, ⟨(some 22), none, (.call F.S_CommonWide [(.tmp 17), (.tmp 21)])⟩, [0, 4, 3, 1, 2], []⟩, ⟨6, ⟨(some 16), none, (.mv (.tmp 22))⟩, [5, 0, 4, 3, 1, 2], []⟩, ⟨7, ⟨(some 23), none, (.ext 0 (.tmp 16))⟩, [6, 5, 0, 4, 3, 1, 2], []⟩, ⟨8, ⟨(some 24), none, (.ext 1 (.tmp 16))⟩, [6, 5, 0, 4, 3, 1, 2], []⟩, ⟨9, ⟨none, none, (.store 7 (.tmp 3) (.tmp 23))⟩, [7, 5, 0, 1, 2, 3, 4, 6], []⟩])) (.reg [⟨(some 14), none, (.mv (.tmp 4))⟩, ⟨(some 15), none, (.bin .add (.tmp 14) (.const (.int .i64 1)))⟩, ⟨(some 4), none, (.mv (.tmp 15))⟩])))))) (.seq (.reg [⟨(some 25), none, (.bsl 7 0 [(.bool false), (.int .u32 0), (.int .u32 0), (.int .u32 0), (.int .u32 0), (.int .u32 0), (.int .u32 0)] [])⟩, ⟨(some 5), none, (.mv (.tmp 25))⟩]) (.seq (.seq (.reg [⟨(some 6), none, (.mv (.const (.int .i64 0)))⟩]) (.block 2 (.loop (.seq (.seq (.reg [⟨(some 26), none, (.mv (.tmp 6))⟩, ⟨(some 27), none, (.mv (.tmp 0))⟩, ⟨(some 28), none, (.lens (.tmp 27))⟩, ⟨(some 29), none, (.bin .lss (.tmp 26) (.tmp 28))⟩]) (.cond (.tmp 29) .skip (.exit 2))) (.seq (.block 3 (.seq (.dreg 2 [⟨0, ⟨(some 33), none, (.mv (.tmp 0))⟩, [], []⟩, ⟨1, ⟨(some 34), none, (.mv (.tmp 6))⟩, [], []⟩, ⟨2, ⟨(some 35), none, (.isl 7 (.tmp 33) (.tmp 34))⟩, [0, 1], []⟩, ⟨3, ⟨(some 36), none, (.load true 7 (.tmp 35))⟩, [2, 0, 1], []⟩, ⟨4, ⟨(some 37), none, (.load true 7 (.tmp 3))⟩, [], []⟩, ⟨5, ⟨(some 38), none, (.call F.S_l01Div [(.tmp 36), (.tmp 37)])⟩, [3, 4, 2, 0, 1], []⟩, ⟨6, ⟨(some 32), none, (.mv (.tmp 38))⟩, [5, 3, 4, 2, 0, 1], []⟩, ⟨7, ⟨(some 39), none, (.ext 0 (.tmp 32))⟩, [6, 5, 3, 4, 2, 0, 1], []⟩, ⟨8, ⟨(some 40), none, (.ext 1 (.tmp 32))⟩, [6, 5, 3, 4, 2, 0, 1], []⟩, ⟨9, ⟨(some 7), none, (.allocAt 0 [(.bool false), (.int .u32 0), (.int .u32 0), (.int .u32 0), (.int .u32 0), (.int .u32 0), (.int .u32 0)])⟩, [], []⟩, ⟨10, ⟨(some 8), none, (.allocAt 1 [(.bool false), (.int .u32 0), (.int .u32 0), (.int .u32 0), (.int .u32 0), (.int .u32 0), (.int .u32 0)])⟩, [], []⟩, ⟨11, ⟨none, none, (.store 7 (.tmp 7) (.tmp 39))⟩, [9, 7, 5, 0, 1, 2, 3, 4, 6, 10], []⟩, ⟨12, ⟨none, none, (.store 7 (.tmp 8) (.tmp 40))⟩, [10, 8, 11, 0, 1, 2, 3, 4, 5, 6, 7, 9], []⟩]) (.reg [⟨(some 41), none, (.mv (.tmp 5))⟩, ⟨(some 42), none, (.load true 7 (.tmp 7))⟩, ⟨(some 43), none, (.bsl 7 1 [(.bool false), (.int .u32 0), (.int .u32 0), (.int .u32 0), (.int .u32 0), (.int .u32 0), (.int .u32 0)] [(0, (.tmp 42))])⟩, ⟨(some 44), none, (.app 7 28 (.tmp 41) (.tmp 43))⟩, ⟨(some 5), none, (.mv (.tmp 44))⟩]))) (.reg [⟨(some 30), none, (.mv (.tmp 6))⟩, ⟨(some 31), none, (.bin .add (.tmp 30) (.const (.int .i64 1)))⟩, ⟨(some 6), none, (.mv (.tmp 31))⟩])))))) (.seq (.reg [⟨(some 45), none, (.mv (.tmp 5))⟩, ⟨(some 2), none, (.mv (.tmp 45))⟩]) .ret)))))), 46, [(.tmp 2)]⟩
def S_l05Opposite_c (F : FnsA) : LF := ⟨(.seq (.reg [⟨(some 2), none, (.mv (.const (.slice none 0 0)))⟩]) (.seq (.reg [⟨(some 5), none, (.bsl 7 0 [(.bool false), (.int .u32 0), (.int .u32 0), (.int .u32 0), (.int .u32 0), (.int .u32 0), (.int .u32 0)] [])⟩, ⟨(some 3), none, (.mv (.tmp 5))⟩]) (.seq (.seq (.reg [⟨(some 4), none, (.mv (.const (.int .i64 0)))⟩]) (.block 0 (.loop (.seq (.seq (.reg [⟨(some 6), none, (.mv (.tmp 4))⟩, ⟨(some 7), none, (.mv (.tmp 0))⟩, ⟨(some 8), none, (.lens (.tmp 7))⟩, ⟨(some 9), none, (.bin .lss (.tmp 6) (.tmp 8))⟩]) (.cond (.tmp 9) .skip (.exit 0))) (.seq (.block 1 (.reg [⟨(some 12), none, (.mv (.tmp 3))⟩, ⟨(some 13), none, (.mv (.tmp 0))⟩, ⟨(some 14), none, (.mv (.tmp 4))⟩, ⟨(some 15), none, (.isl 7 (.tmp 13) (.tmp 14))⟩, ⟨(some 16), none, (.load true 7 (.tmp 15))⟩, ⟨(some 17), none, (.call F.S_l01Neg [(.tmp 16)])⟩, ⟨(some 18), none, (.bsl 7 1 [(.bool false), (.int .u32 0), (.int .u32 0), (.int .u32 0), (.int .u32 0), (.int .u32 0), (.int .u32 0)] [(0, (.tmp 17))])⟩, ⟨(some 19), none, (.app 7 28 (.tmp 12) (.tmp 18))⟩, ⟨(some 3), none, (.mv (.tmp 19))⟩])) (.reg [⟨(some 10), none, (.mv (.tmp 4))⟩, ⟨(some 11), none, (.bin .add (.tmp 10) (.const (.int .i64 1)))⟩, ⟨(some 4), none, (.mv (.tmp 11))⟩])))))) (.seq (.reg [⟨(some 20), none, (.mv (.tmp 3))⟩, ⟨(some 2), none, (.mv (.tmp 20))⟩]) .ret)))), 21, [(.tmp 2)]⟩
def S_l01Cmp_c (F : FnsA) : LF := ⟨(.seq (.reg [⟨(some 4), none, (.mv (.const (.int .i64 0)))⟩]) (.seq (.seq (.reg [⟨(some 5), none, (.mv (.const (.int .i64 5)))⟩]) (.block 0 (.loop (.seq (.seq (.reg [⟨(some 6), none, (.mv (.tmp 5))⟩, ⟨(some 7), none, (.bin .geq (.tmp 6) (.const (.int .i64 0)))⟩]) (.cond (.tmp 7) .skip (.exit 0))) (.seq (.block 1 (.seq (.seq (.dreg 0 [⟨0, ⟨(some 10), none, (.mv (.tmp 0))⟩, [], []⟩, ⟨1, ⟨(some 11), none, (.mv (.tmp 5))⟩, [], []⟩, ⟨2, ⟨(some 12), none, (.nilc (.tmp 10))⟩, [0], []⟩, ⟨3, ⟨(some 13), none, (.iarr 6 1 (.tmp 12) (.tmp 11))⟩, [2, 1, 0], []⟩, ⟨4, ⟨(some 14), none, (.load false 1 (.tmp 13))⟩, [3, 2, 1, 0], []⟩, ⟨5, ⟨(some 15), none, (.mv (.tmp 1))⟩, [], []⟩, ⟨6, ⟨(some 16), none, (.mv (.tmp 5))⟩, [], []⟩, ⟨7, ⟨(some 17), none, (.nilc (.tmp 15))⟩, [5], []⟩, ⟨8, ⟨(some 18), none, (.iarr 6 1 (.tmp 17) (.tmp 16))⟩, [7, 6, 5], []⟩, ⟨9, ⟨(some 19), none, (.load false 1 (.tmp 18))⟩, [8, 7, 6, 5], []⟩, ⟨10, ⟨(some 20), none, (.bin .lss (.tmp 14) (.tmp 19))⟩, [4, 9, 3, 2, 1, 0, 8, 7, 6, 5], []⟩]) (.cond (.tmp 20) (.seq (.reg [⟨(some 4), none, (.mv (.const (.int .i64 (-1))))⟩]) .ret) .skip)) (.seq (.dreg 0 [⟨0, ⟨(some 21), none, (.mv (.tmp 0))⟩, [], []⟩, ⟨1, ⟨(some 22), none, (.mv (.tmp 5))⟩, [], []⟩, ⟨2, ⟨(some 23), none, (.nilc (.tmp 21))⟩, [0], []⟩, ⟨3, ⟨(some 24), none, (.iarr 6 1 (.tmp 23) (.tmp 22))⟩, [2, 1, 0], []⟩, ⟨4, ⟨(some 25), none, (.load false 1 (.tmp 24))⟩, [3, 2, 1, 0], []⟩, ⟨5, ⟨(some 26), none, (.mv (.tmp 1))⟩, [], []⟩, ⟨6, ⟨(some 27), none, (.mv (.tmp 5))⟩, [], []⟩, ⟨7, ⟨(some 28), none, (.nilc (.tmp 26))⟩, [5], []⟩, ⟨8, ⟨(some 29), none, (.iarr 6 1 (.tmp 28) (.tmp 27))⟩, [7, 6, 5], []⟩, ⟨9, ⟨(some 30), none, (.load false 1 (.tmp 29))⟩, [8, 7, 6, 5], []⟩, ⟨10, ⟨(some 31), none, (.bin .gtr (.tmp 25) (.tmp 30))⟩, [4, 9, 3, 2, 1, 0, 8, 7, 6, 5], []⟩]) (.cond (.tmp 31) (.seq (.reg [⟨(some 4), none, (.mv (.const (.int .i64 1)))⟩]) .ret) .skip)))) (.reg [⟨(some 8), none, (.mv (.tmp 5))⟩, ⟨(some 9), none, (.bin .sub (.tmp 8) (.const (.int .i64 1)))⟩, ⟨(some 5), none, (.mv (.tmp 9))⟩])))))) (.seq (.reg [⟨(some 4), none, (.mv (.const (.int .i64 0)))⟩]) .ret))), 32, [(.tmp 4)]⟩
def S_l05Rest_c (F : FnsA) : LF := ⟨(.seq (.reg [⟨(some 4), none, (.mv (.const (.slice none 0 0)))⟩, ⟨(some 5), none, (.mv (.const (.int .i64 0)))⟩]) (.seq (.reg [⟨(some 19), none, (.bsl 7 0 [(.bool false), (.int .u32 0), (.int .u32 0), (.int .u32 0), (.int .u32 0), (.int .u32 0), (.int .u32 0)] [])⟩, ⟨(some 20), none, (.mv (.tmp 0))⟩, ⟨(some 21), none, (.app 7 28 (.tmp 19) (.tmp 20))⟩, ⟨(some 22), none, (.call F.S_l05Short [(.tmp 21)])⟩, ⟨(some 6), none, (.mv (.tmp 22))⟩]) (.seq (.reg [⟨(some 23), none, (.mv (.tmp 1))⟩, ⟨(some 24), none, (.mv (.tmp 1))⟩, ⟨(some 25), none, (.lens (.tmp 24))⟩, ⟨(some 26), none, (.bin .sub (.tmp 25) (.const (.int .i64 1)))⟩, ⟨(some 27), none, (.isl 7 (.tmp 23) (.tmp 26))⟩, ⟨(some 28), none, (.load true 7 (.tmp 27))⟩, ⟨(some 7), none, (.alloc [(.bool false), (.int .u32 0), (.int .u32 0), (.int .u32 0), (.int .u32 0), (.int .u32 0), (.int .u32 0)])⟩, ⟨none, none, (.store 7 (.tmp 7) (.tmp 28))⟩]) (.seq (.reg [⟨(some 29), none, (.load true 7 (.tmp 7))⟩, ⟨(some 8), none, (.alloc [(.bool false), (.int .u32 0), (.int .u32 0), (.int .u32 0), (.int .u32 0), (.int .u32 0), (.int .u32 0)])⟩, ⟨none, none, (.store 7 (.tmp 8) (.tmp 29))⟩]) (.seq (.reg [⟨(some 30), none, (.fad 0 (.tmp 8))⟩, ⟨none, none, (.store 1 (.tmp 30) (.const (.bool false)))⟩]) (.seq (.block 0 (.loop (.seq (.seq (.reg [⟨(some 31), none, (.mv (.tmp 6))⟩, ⟨(some 32), none, (.lens (.tmp 31))⟩, ⟨(some 33), none, (.mv (.tmp 1))⟩, ⟨(some 34), none, (.lens (.tmp 33))⟩, ⟨(some 35), none, (.bin .geq (.tmp 32) (.tmp 34))⟩]) (.cond (.tmp 35) .skip (.exit 0))) (.block 1 (.seq (.reg [⟨(some 36), none, (.mv (.tmp 6))⟩, ⟨(some 37), none, (.mv (.tmp 6))⟩, ⟨(some 38), none, (.lens (.tmp 37))⟩, ⟨(some 39), none, (.bin .sub (.tmp 38) (.const (.int .i64 1)))⟩, ⟨(some 40), none, (.isl 7 (.tmp 36) (.tmp 39))⟩, ⟨(some 41), none, (.load true 7 (.tmp 40))⟩, ⟨(some 9), none, (.alloc [(.bool false), (.int .u32 0), (.int .u32 0), (.int .u32 0), (.int .u32 0), (.int .u32 0), (.int .u32 0)])⟩, ⟨none, none, (.store 7 (.tmp 9) (.tmp 41))⟩]) (.seq (.seq (.reg [⟨(some 42), none, (.fad 0 (.tmp 7))⟩, ⟨(some 43), none, (.load false 1 (.tmp 42))⟩]) (.cond (.tmp 43) (.reg [⟨(some 44), none, (.load true 7 (.tmp 9))⟩, ⟨(some 45), none, (.call F.S_l01Neg [(.tmp 44)])⟩, ⟨none, none, (.store 7 (.tmp 9) (.tmp 45))⟩]) .skip)) (.seq (.reg [⟨(some 46), none, (.bsl 7 0 [(.bool false), (.int .u32 0), (.int .u32 0), (.int .u32 0), (.int .u32 0), (.int .u32 0), (.int .u32 0)] [])⟩, ⟨(some 10), none, (.mv (.tmp 46))⟩]) (.seq (.seq (.reg [⟨(some 11), none, (.mv (.const (.int .i64 0)))⟩]) (.block 2 (.loop (.seq (.seq (.reg [⟨(some 47), none, (.mv (.tmp 11))⟩, ⟨(some 48), none, (.mv (.tmp 6))⟩, ⟨(some 49), none, (.lens (.tmp 48))⟩, ⟨(some 50), none, (.bin .lss (.tmp 47) (.tmp 49))⟩]) (.cond (.tmp 50) .skip (.exit 2))) (.seq (.block 3 (.seq (.dreg 1 [⟨0, ⟨(some 54), none, (.load true 7 (.tmp 8))⟩, [], []⟩, ⟨1, ⟨(some 55), none, (.mv (.tmp 6))⟩, [], []⟩, ⟨2, ⟨(some 56), none, (.mv (.tmp 11))⟩, [], []⟩, ⟨3, ⟨(some 57), none, (.isl 7 (.tmp 55) (.tmp 56))⟩, [1, 2], []⟩, ⟨4, ⟨(some 58), none, (.load true 7 (.tmp 57))⟩, [3, 1, 2], []⟩, ⟨5, ⟨(some 59), none, (.call F.S_l01Mul [(.tmp 54), (.tmp 58)])⟩, [0, 4, 3, 1, 2], []⟩, ⟨6, ⟨(some 53), none, (.mv (.tmp 59))⟩, [5, 0, 4, 3, 1, 2], []⟩, ⟨7, ⟨(some 60), none, (.ext 0 (.tmp 53))⟩, [6, 5, 0, 4, 3, 1, 2], []⟩, ⟨8, ⟨(some 61), none, (.ext 1 (.tmp 53))⟩, [6, 5, 0, 4, 3, 1, 2], []⟩, ⟨9, ⟨(some 12), none, (.allocAt 0 [(.bool false), (.int .u32 0), (.int .u32 0), (.int .u32 0), (.int .u32 0), (.int .u32 0), (.int .u32 0)])⟩, [], []⟩, ⟨10, ⟨none, none, (.store 7 (.tmp 12) (.tmp 60))⟩, [9, 7, 5, 0, 1, 2, 3, 4, 6], []⟩, ⟨11, ⟨(some 13), none, (.mv (.tmp 61))⟩, [8, 10, 0, 1, 2, 3, 4, 5, 6, 7, 9], []⟩]) (.seq (.seq (.reg [⟨(some 62), none, (.mv (.tmp 13))⟩, ⟨(some 63), none, (.bin .neq (.tmp 62) (.const (.int .i64 0)))⟩]) (.cond (.tmp 63) (.seq (.reg [⟨(some 64), none, (.bsl 7 0 [(.bool false), (.int .u32 0), (.int .u32 0), (.int .u32 0), (.int .u32 0), (.int .u32 0), (.int .u32 0)] [])⟩, ⟨(some 65), none, (.mv (.tmp 13))⟩, ⟨(some 4), none, (.mv (.tmp 64))⟩, ⟨(some 5), none, (.mv (.tmp 65))⟩]) .ret) .skip)) (.seq (.seq (.reg [⟨(some 66), none, (.mv (.tmp 11))⟩, ⟨(some 67), none, (.mv (.tmp 6))⟩, ⟨(some 68), none, (.lens (.tmp 67))⟩, ⟨(some 69), none, (.mv (.tmp 1))⟩, ⟨(some 70), none, (.lens (.tmp 69))⟩, ⟨(some 71), none, (.bin .sub (.tmp 68) (.tmp 70))⟩, ⟨(some 72), none, (.bin .sub (.tmp 66) (.tmp 71))⟩, ⟨(some 14), none, (.mv (.tmp 72))⟩]) (.seq (.reg [⟨(some 73), none, (.mv (.tmp 14))⟩, ⟨(some 74), none, (.bin .geq (.tmp 73) (.const (.int .i64 0)))⟩]) (.cond (.tmp 74) (.seq (.dreg 1 [⟨0, ⟨(some 76), none, (.load true 7 (.tmp 9))⟩, [], []⟩, ⟨1, ⟨(some 77), none, (.mv (.tmp 1))⟩, [], []⟩, ⟨2, ⟨(some 78), none, (.mv (.tmp 14))⟩, [], []⟩, ⟨3, ⟨(some 79), none, (.isl 7 (.tmp 77) (.tmp 78))⟩, [1, 2], []⟩, ⟨4, ⟨(some 80), none, (.load true 7 (.tmp 79))⟩, [3, 1, 2], []⟩, ⟨5, ⟨(some 81), none, (.call F.S_l01Mul [(.tmp 76), (.tmp 80)])⟩, [0, 4, 3, 1, 2], []⟩, ⟨6, ⟨(some 75), none, (.mv (.tmp 81))⟩, [5, 0, 4, 3, 1, 2], []⟩, ⟨7, ⟨(some 82), none, (.ext 0 (.tmp 75))⟩, [6, 5, 0, 4, 3, 1, 2], []⟩, ⟨8, ⟨(some 83), none, (.ext 1 (.tmp 75))⟩, [6, 5, 0, 4, 3, 1, 2], []⟩, ⟨9, ⟨(some 15), none, (.allocAt 0 [(.bool false), (.int .u32 0), (.int .u32 0), (.int .u32 0), (.int .u32 0), (.int .u32 0), (.int .u32 0)])⟩, [], []⟩, ⟨10, ⟨none, none, (.store 7 (.tmp 15) (.tmp 82))⟩, [9, 7, 5, 0, 1, 2, 3, 4, 6], []⟩, ⟨11, ⟨(some 16), none, (.mv (.tmp 83))⟩, [8, 10, 0, 1, 2, 3, 4, 5, 6, 7, 9], []⟩]) (.seq (.seq (.reg [⟨(some 84), none, (.mv (.tmp 16))⟩, ⟨(some 85), none, (.bin .neq (.tmp 84) (.const (.int .i64 0)))⟩]) (.cond (.tmp 85) (.seq (.reg [⟨(some 86), none, (.bsl 7 0 [(.bool false), (.int .u32 0), (.int .u32 0), (.int .u32 0), (.int .u32 0), (.int .u32 0), (.int .u32 0)] [])⟩, ⟨(some 87), none, (.mv (.tmp 16))⟩, ⟨(some 4), none, (.mv (.tmp 86))⟩, ⟨(some 5), none, (.mv (.tmp 87))⟩]) .ret) .skip)) (.seq (.dreg 1 [⟨0, ⟨(some 89), none, (.load true 7 (.tmp 12))⟩, [], []⟩, ⟨1, ⟨(some 90), none, (.load true 7 (.tmp 15))⟩, [], []⟩, ⟨2, ⟨(some 91), none, (.call F.S_l01Neg [(.tmp 90)])⟩, [1], [0]⟩, ⟨3, ⟨(some 92), none, (.call F.S_l01Add [(.tmp 89), (.tmp 91)])⟩, [0, 2, 1], []⟩, ⟨4, ⟨(some 88), none, (.mv (.tmp 92))⟩, [3, 0, 2, 1], []⟩, ⟨5, ⟨(some 93), none, (.ext 0 (.tmp 88))⟩, [4, 3, 0, 2, 1], []⟩, ⟨6, ⟨(some 94), none, (.ext 1 (.tmp 88))⟩, [4, 3, 0, 2, 1], []⟩, ⟨7, ⟨(some 17), none, (.allocAt 0 [(.bool false), (.int .u32 0), (.int .u32 0), (.int .u32 0), (.int .u32 0), (.int .u32 0), (.int .u32 0)])⟩, [], []⟩, ⟨8, ⟨none, none, (.store 7 (.tmp 17) (.tmp 93))⟩, [7, 5, 3, 0, 1, 2, 4], []⟩, ⟨9, ⟨(some 18), none, (.mv (.tmp 94))⟩, [6, 8, 0, 1, 2, 3, 4, 5, 7], []⟩]) (.seq (.seq (.reg [⟨(some 95), none, (.mv (.tmp 18))⟩, ⟨(some 96), none, (.bin .neq (.tmp 95) (.const (.int .i64 0)))⟩]) (.cond (.tmp 96) (.seq (.reg [⟨(some 97), none, (.bsl 7 0 [(.bool false), (.int .u32 0), (.int .u32 0), (.int .u32 0), (.int .u32 0), (.int .u32 0), (.int .u32 0)] [])⟩, ⟨(some 98), none, (.mv (.tmp 18))⟩, ⟨(some 4), none, (.mv (.tmp 97))⟩, ⟨(some 5), none, (.mv (.tmp 98))⟩]) .ret) .skip)) (.reg [⟨(some 99), none, (.load true 7 (.tmp 17))⟩, ⟨none, none, (.store 7 (.tmp 12) (.tmp 99))⟩]))))) .skip))) (.reg [⟨(some 100), none, (.mv (.tmp 10))⟩, ⟨(some 101), none, (.load true 7 (.tmp 12))⟩, ⟨(some 102), none, (.bsl 7 1 [(.bool false), (.int .u32 0), (.int .u32 0), (.int .u32 0), (.int .u32 0), (.int .u32 0), (.int .u32 0)] [(0, (.tmp 101))])⟩, ⟨(some 103), none, (.app 7 28 (.tmp 100) (.tmp 102))⟩, ⟨(some 10), none, (.mv (.tmp 103))⟩]))))) (.reg [⟨(some 51), none, (.mv (.tmp 11))⟩, ⟨(some 52), none, (.bin .add (.tmp 51) (.const (.int .i64 1)))⟩, ⟨(some 11), none, (.mv (.tmp 52))⟩])))))) (.reg [⟨(some 104), none, (.mv (.tmp 10))⟩, ⟨(some 105), none, (.call F.S_l05Short [(.tmp 104)])⟩, ⟨(some 6), none, (.mv (.tmp 105))⟩]))))))))) (.seq (.reg [⟨(some 106), none, (.mv (.tmp 6))⟩, ⟨(some 4), none, (.mv (.tmp 106))⟩, ⟨(some 5), none, (.mv (.const (.int .i64 0)))⟩]) .ret))))))), 107, [(.tmp 4), (.tmp 5)]⟩
def S_l05Turns_c (F : FnsA) : LF := ⟨(.seq (.reg [⟨(some 4), none, (.box (.tmp 1))⟩, ⟨(some 6), none, (.mv (.const (.int .i64 0)))⟩, ⟨(some 7), none, (.mv (.const (.int .i64 0)))⟩]) (.seq (.reg [⟨(some 8), none, (.mv (.const (.int .i64 0)))⟩]) (.seq (.reg [⟨(some 9), none, (.mv (.const (.int .i64 0)))⟩]) (.seq (.seq (.reg [⟨(some 10), none, (.mv (.const (.int .i64 0)))⟩]) (.block 0 (.loop (.seq (.seq (.reg [⟨(some 14), none, (.mv (.tmp 10))⟩, ⟨(some 15), none, (.mv (.tmp 0))⟩, ⟨(some 16), none, (.lens (.tmp 15))⟩, ⟨(some 17), none, (.bin .lss (.tmp 14) (.tmp 16))⟩]) (.cond (.tmp 17) .skip (.exit 0))) (.seq (.block 1 (.seq (.dreg 1 [⟨0, ⟨(some 21), none, (.mv (.tmp 0))⟩, [], []⟩, ⟨1, ⟨(some 22), none, (.mv (.tmp 10))⟩, [], []⟩, ⟨2, ⟨(some 23), none, (.isl 1 (.tmp 21) (.tmp 22))⟩, [0, 1], []⟩, ⟨3, ⟨(some 24), none, (.load false 1 (.tmp 23))⟩, [2, 0, 1], []⟩, ⟨4, ⟨(some 25), none, (.load true 7 (.tmp 4))⟩, [], []⟩, ⟨5, ⟨(some 26), none, (.mv (.tmp 2))⟩, [], []⟩, ⟨6, ⟨(some 27), none, (.call F.S_l05Value [(.tmp 24), (.tmp 25), (.tmp 26)])⟩, [3, 4, 5, 2, 0, 1], []⟩, ⟨7, ⟨(some 20), none, (.mv (.tmp 27))⟩, [6, 3, 4, 5, 2, 0, 1], []⟩, ⟨8, ⟨(some 28), none, (.ext 0 (.tmp 20))⟩, [7, 6, 3, 4, 5, 2, 0, 1], []⟩, ⟨9, ⟨(some 29), none, (.ext 1 (.tmp 20))⟩, [7, 6, 3, 4, 5, 2, 0, 1], []⟩, ⟨10, ⟨(some 11), none, (.allocAt 0 [(.bool false), (.int .u32 0), (.int .u32 0), (.int .u32 0), (.int .u32 0), (.int .u32 0), (.int .u32 0)])⟩, [], []⟩, ⟨11, ⟨none, none, (.store 7 (.tmp 11) (.tmp 28))⟩, [10, 8, 6, 0, 1, 2, 3, 4, 5, 7], []⟩, ⟨12, ⟨(some 12), none, (.mv (.tmp 29))⟩, [9, 11, 0, 1, 2, 3, 4, 5, 6, 7, 8, 10], []⟩]) (.seq (.seq (.reg [⟨(some 30), none, (.mv (.tmp 12))⟩, ⟨(some 31), none, (.bin .neq (.tmp 30) (.const (.int .i64 0)))⟩]) (.cond (.tmp 31) (.seq (.reg [⟨(some 32), none, (.mv (.tmp 12))⟩, ⟨(some 6), none, (.mv (.const (.int .i64 0)))⟩, ⟨(some 7), none, (.mv (.tmp 32))⟩]) .ret) .skip)) (.seq (.reg [⟨(some 33), none, (.call F.S_l01Sign [(.tmp 11)])⟩, ⟨(some 13), none, (.mv (.tmp 33))⟩]) (.seq (.seq (.reg [⟨(some 34), none, (.mv (.tmp 13))⟩, ⟨(some 35), none, (.bin .eql (.tmp 34) (.const (.int .i64 0)))⟩]) (.cond (.tmp 35) (.exit 1) .skip)) (.seq (.seq (.reg [⟨(some 36), none, (.mv (.tmp 13))⟩, ⟨(some 37), none, (.mv (.tmp 9))⟩, ⟨(some 38), none, (.un .neg (.tmp 37))⟩, ⟨(some 39), none, (.bin .eql (.tmp 36) (.tmp 38))⟩]) (.cond (.tmp 39) (.reg [⟨(some 40), none, (.mv (.tmp 8))⟩, ⟨(some 41), none, (.bin .add (.tmp 40) (.const (.int .i64 1)))⟩, ⟨(some 8), none, (.mv (.tmp 41))⟩]) .skip)) (.reg [⟨(some 42), none, (.mv (.tmp 13))⟩, ⟨(some 9), none, (.mv (.tmp 42))⟩]))))))) (.reg [⟨(some 18), none, (.mv (.tmp 10))⟩, ⟨(some 19), none, (.bin .add (.tmp 18) (.const (.int .i64 1)))⟩, ⟨(some 10), none, (.mv (.tmp 19))⟩])))))) (.seq (.reg [⟨(some 43), none, (.mv (.tmp 8))⟩, ⟨(some 6), none, (.mv (.tmp 43))⟩, ⟨(some 7), none, (.mv (.const (.int .i64 0)))⟩]) .ret))))), 44, [(.tmp 6), (.tmp 7)]⟩
def I_widen_c (F : FnsA) : LF := ⟨(.seq (.reg [⟨(some 2), none, (.mv (.const (.slice none 0 0)))⟩]) (.seq (.reg [⟨(some 6), none, (.mv (.tmp 0))⟩, ⟨(some 7), none, (.lens (.tmp 6))⟩, ⟨(some 8), none, (.msl 7 28 [(.bool false), (.int .u32 0), (.int .u32 0), (.int .u32 0), (.int .u32 0), (.int .u32 0), (.int .u32 0)] (.tmp 7) (.tmp 7))⟩, ⟨(some 3), none, (.mv (.tmp 8))⟩]) (.seq (.seq (.reg [⟨(some 9), none, (.mv (.tmp 0))⟩, ⟨(some 10), none, (.lens (.tmp 9))⟩, ⟨(some 11), none, (.mv (.const (.int .i64 0)))⟩]) (.block 0 (.loop (.seq (.reg [⟨(some 12), none, (.bin .lss (.tmp 11) (.tmp 10))⟩]) (.seq (.cond (.tmp 12) .skip (.exit 0)) (.seq (.block 1 (.seq (.reg [⟨(some 13), none, (.mv (.tmp 11))⟩, ⟨(some 14), none, (.isl 1 (.tmp 9) (.tmp 11))⟩, ⟨(some 15), none, (.load false 1 (.tmp 14))⟩, ⟨(some 4), none, (.mv (.tmp 13))⟩, ⟨(some 5), none, (.mv (.tmp 15))⟩]) (.reg [⟨(some 16), none, (.mv (.tmp 3))⟩, ⟨(some 17), none, (.mv (.tmp 4))⟩, ⟨(some 18), none, (.mv (.tmp 5))⟩, ⟨(some 19), none, (.call F.I_WideOf [(.tmp 18)])⟩, ⟨(some 20), none, (.isl 7 (.tmp 16) (.tmp 17))⟩, ⟨none, none, (.store 7 (.tmp 20) (.tmp 19))⟩]))) (.reg [⟨(some 21), none, (.bin .add (.tmp 11) (.const (.int .i64 1)))⟩, ⟨(some 11), none, (.mv (.tmp 21))⟩]))))))) (.seq (.reg [⟨(some 22), none, (.mv (.tmp 3))⟩, ⟨(some 2), none, (.mv (.tmp 22))⟩]) .ret)))), 23, [(.tmp 2)]⟩
def I_lighter_c (F : FnsA) : LF := ⟨(.seq (.reg [⟨(some 4), none, (.mv (.const (.slice none 0 0)))⟩]) (.seq (.reg [⟨(some 13), none, (.build [(.int .u32 0), (.int .u32 0), (.int .u32 0), (.int .u32 0), (.int .u32 0), (.int .u32 0)] [])⟩, ⟨(some 5), none, (.alloc [(.int .u32 0), (.int .u32 0), (.int .u32 0), (.int .u32 0), (.int .u32 0), (.int .u32 0)])⟩, ⟨none, none, (.store 6 (.tmp 5) (.tmp 13))⟩]) (.seq (.seq (.reg [⟨(some 14), none, (.mv (.tmp 0))⟩, ⟨(some 15), none, (.lens (.tmp 14))⟩, ⟨(some 16), none, (.mv (.const (.int .i64 0)))⟩]) (.block 0 (.loop (.seq (.reg [⟨(some 17), none, (.bin .lss (.tmp 16) (.tmp 15))⟩]) (.seq (.cond (.tmp 17) .skip (.exit 0)) (.seq (.block 1 (.seq (.reg [⟨(some 18), none, (.isl 7 (.tmp 14) (.tmp 16))⟩, ⟨(some 19), none, (.load true 7 (.tmp 18))⟩, ⟨(some 7), none, (.alloc [(.bool false), (.int .u32 0), (.int .u32 0), (.int .u32 0), (.int .u32 0), (.int .u32 0), (.int .u32 0)])⟩, ⟨none, none, (.store 7 (.tmp 7) (.tmp 19))⟩]) (.reg [⟨(some 20), none, (.load true 6 (.tmp 5))⟩, ⟨(some 21), none, (.fad 1 (.tmp 7))⟩, ⟨(some 22), none, (.load true 6 (.tmp 21))⟩, ⟨(some 23), none, (.call F.I_commonSize [(.tmp 20), (.tmp 22)])⟩, ⟨none, none, (.store 6 (.tmp 5) (.tmp 23))⟩]))) (.reg [⟨(some 24), none, (.bin .add (.tmp 16) (.const (.int .i64 1)))⟩, ⟨(some 16), none, (.mv (.tmp 24))⟩]))))))) (.seq (.reg [⟨(some 25), none, (.mv (.tmp 0))⟩, ⟨(some 26), none, (.lens (.tmp 25))⟩, ⟨(some 27), none, (.msl 7 28 [(.bool false), (.int .u32 0), (.int .u32 0), (.int .u32 0), (.int .u32 0), (.int .u32 0), (.int .u32 0)] (.tmp 26) (.tmp 26))⟩, ⟨(some 8), none, (.mv (.tmp 27))⟩]) (.seq (.seq (.reg [⟨(some 28), none, (.mv (.tmp 0))⟩, ⟨(some 29), none, (.lens (.tmp 28))⟩, ⟨(some 30), none, (.mv (.const (.int .i64 0)))⟩]) (.block 2 (.loop (.seq (.reg [⟨(some 31), none, (.bin .lss (.tmp 30) (.tmp 29))⟩]) (.seq (.cond (.tmp 31) .skip (.exit 2)) (.seq (.block 3 (.seq (.reg [⟨(some 32), none, (.mv (.tmp 30))⟩, ⟨(some 33), none, (.isl 7 (.tmp 28) (.tmp 30))⟩, ⟨(some 34), none, (.load true 7 (.tmp 33))⟩, ⟨(some 10), none, (.alloc [(.bool false), (.int .u32 0), (.int .u32 0), (.int .u32 0), (.int .u32 0), (.int .u32 0), (.int .u32 0)])⟩, ⟨(some 9), none, (.mv (.tmp 32))⟩, ⟨none, none, (.store 7 (.tmp 10) (.tmp 34))⟩]) (.seq (.reg [⟨(some 36), none, (.fad 1 (.tmp 10))⟩, ⟨(some 37), none, (.load true 6 (.tmp 36))⟩, ⟨(some 38), none, (.load true 6 (.tmp 5))⟩, ⟨(some 39), none, (.call F.I_size_by [(.tmp 37), (.tmp 38)])⟩, ⟨(some 35), none, (.mv (.tmp 39))⟩, ⟨(some 40), none, (.ext 0 (.tmp 35))⟩, ⟨(some 41), none, (.ext 1 (.tmp 35))⟩, ⟨(some 11), none, (.alloc [(.int .u32 0), (.int .u32 0), (.int .u32 0), (.int .u32 0), (.int .u32 0), (.int .u32 0)])⟩, ⟨(some 12), none, (.alloc [(.int .u32 0), (.int .u32 0), (.int .u32 0), (.int .u32 0), (.int .u32 0), (.int .u32 0)])⟩, ⟨none, none, (.store 6 (.tmp 11) (.tmp 40))⟩, ⟨none, none, (.store 6 (.tmp 12) (.tmp 41))⟩]) (.reg [⟨(some 42), none, (.mv (.tmp 8))⟩, ⟨(some 43), none, (.mv (.tmp 9))⟩, ⟨(some 44), none, (.fad 0 (.tmp 10))⟩, ⟨(some 45), none, (.load false 1 (.tmp 44))⟩, ⟨(some 46), none, (.mv (.tmp 1))⟩, ⟨(some 47), none, (.beq true (.tmp 45) (.tmp 46))⟩, ⟨(some 48), none, (.load true 6 (.tmp 11))⟩, ⟨(some 49), none, (.call F.I_wide [(.tmp 47), (.tmp 48)])⟩, ⟨(some 50), none, (.isl 7 (.tmp 42) (.tmp 43))⟩, ⟨none, none, (.store 7 (.tmp 50) (.tmp 49))⟩])))) (.reg [⟨(some 51), none, (.bin .add (.tmp 30) (.const (.int .i64 1)))⟩, ⟨(some 30), none, (.mv (.tmp 51))⟩]))))))) (.seq (.reg [⟨(some 52), none, (.mv (.tmp 8))⟩, ⟨(some 4), none, (.mv (.tmp 52))⟩]) .ret)))))), 53, [(.tmp 4)]⟩
def I_size_bits_c (F : FnsA) : LF := ⟨(.seq (.reg [⟨(some 1), none, (.box (.tmp 0))⟩, ⟨(some 2), none, (.mv (.const (.int .i64 0)))⟩]) (.seq (.seq (.reg [⟨(some 3), none, (.mv (.const (.int .i64 5)))⟩]) (.block 0 (.loop (.seq (.seq (.reg [⟨(some 4), none, (.mv (.tmp 3))⟩, ⟨(some 5), none, (.bin .geq (.tmp 4) (.const (.int .i64 0)))⟩]) (.cond (.tmp 5) .skip (.exit 0))) (.seq (.block 1 (.seq (.reg [⟨(some 8), none, (.mv (.tmp 3))⟩, ⟨(some 9), none, (.iarr 6 1 (.tmp 1) (.tmp 8))⟩, ⟨(some 10), none, (.load false 1 (.tmp 9))⟩, ⟨(some 11), none, (.bin .neq (.tmp 10) (.const (.int .u32 0)))⟩]) (.cond (.tmp 11) (.seq (.reg [⟨(some 12), none, (.mv (.tmp 3))⟩, ⟨(some 13), none, (.bin .mul (.const (.int .i64 32)) (.tmp 12))⟩, ⟨(some 14), none, (.mv (.tmp 3))⟩, ⟨(some 15), none, (.iarr 6 1 (.tmp 1) (.tmp 14))⟩, ⟨(some 16), none, (.load false 1 (.tmp 15))⟩, ⟨(some 17), none, (.call F.X_Len32 [(.tmp 16)])⟩, ⟨(some 18), none, (.bin .add (.tmp 13) (.tmp 17))⟩, ⟨(some 2), none, (.mv (.tmp 18))⟩]) .ret) .skip))) (.reg [⟨(some 6), none, (.mv (.tmp 3))⟩, ⟨(some 7), none, (.bin .sub (.tmp 6) (.const (.int .i64 1)))⟩, ⟨(some 3), none, (.mv (.tmp 7))⟩])))))) (.seq (.reg [⟨(some 2), none, (.mv (.const (.int .i64 0)))⟩]) .ret))), 19, [(.tmp 2)]⟩
def I_size_up_c (F : FnsA) : LF := ⟨(.seq (.reg [⟨(some 2), none, (.box (.tmp 0))⟩, ⟨(some 4), none, (.alloc [(.int .u32 0), (.int .u32 0), (.int .u32 0), (.int .u32 0), (.int .u32 0), (.int .u32 0)])⟩]) (.seq (.reg [⟨(some 9), none, (.build [(.int .u32 0), (.int .u32 0), (.int .u32 0), (.int .u32 0), (.int .u32 0), (.int .u32 0)] [])⟩, ⟨(some 5), none, (.alloc [(.int .u32 0), (.int .u32 0), (.int .u32 0), (.int .u32 0), (.int .u32 0), (.int .u32 0)])⟩, ⟨none, none, (.store 6 (.tmp 5) (.tmp 9))⟩]) (.seq (.reg [⟨(some 10), none, (.mv (.tmp 1))⟩, ⟨(some 11), none, (.bin .quo (.tmp 10) (.const (.int .i64 32)))⟩, ⟨(some 12), none, (.mv (.tmp 1))⟩, ⟨(some 13), none, (.bin .rem (.tmp 12) (.const (.int .i64 32)))⟩, ⟨(some 6), none, (.mv (.tmp 11))⟩, ⟨(some 7), none, (.mv (.tmp 13))⟩]) (.seq (.seq (.reg [⟨(some 8), none, (.mv (.const (.int .i64 5)))⟩]) (.block 0 (.loop (.seq (.seq (.reg [⟨(some 14), none, (.mv (.tmp 8))⟩, ⟨(some 15), none, (.mv (.tmp 6))⟩, ⟨(some 16), none, (.bin .geq (.tmp 14) (.tmp 15))⟩]) (.cond (.tmp 16) .skip (.exit 0))) (.seq (.block 1 (.seq (.reg [⟨(some 19), none, (.mv (.tmp 8))⟩, ⟨(some 20), none, (.mv (.tmp 8))⟩, ⟨(some 21), none, (.mv (.tmp 6))⟩, ⟨(some 22), none, (.bin .sub (.tmp 20) (.tmp 21))⟩, ⟨(some 23), none, (.iarr 6 1 (.tmp 2) (.tmp 22))⟩, ⟨(some 24), none, (.load false 1 (.tmp 23))⟩, ⟨(some 25), none, (.mv (.tmp 7))⟩, ⟨(some 26), none, (.bin .shl (.tmp 24) (.tmp 25))⟩, ⟨(some 27), none, (.iarr 6 1 (.tmp 5) (.tmp 19))⟩, ⟨none, none, (.store 1 (.tmp 27) (.tmp 26))⟩]) (.seq (.reg [⟨(some 28), none, (.mv (.tmp 7))⟩, ⟨(some 29), none, (.bin .gtr (.tmp 28) (.const (.int .i64 0)))⟩, ⟨(some 30), none, (.mv (.tmp 29))⟩, ⟨(some 31), (some (30, true)), (.mv (.tmp 8))⟩, ⟨(some 32), (some (30, true)), (.mv (.tmp 6))⟩, ⟨(some 33), (some (30, true)), (.bin .gtr (.tmp 31) (.tmp 32))⟩, ⟨(some 34), none, (.pick (.tmp 30) (.tmp 33) (.const (.bool false)))⟩]) (.cond (.tmp 34) (.dreg 0 [⟨0, ⟨(some 35), none, (.mv (.tmp 8))⟩, [], []⟩, ⟨1, ⟨(some 36), none, (.iarr 6 1 (.tmp 5) (.tmp 35))⟩, [0], []⟩, ⟨2, ⟨(some 37), none, (.load false 1 (.tmp 36))⟩, [1, 0], []⟩, ⟨3, ⟨(some 38), none, (.mv (.tmp 8))⟩, [], []⟩, ⟨4, ⟨(some 39), none, (.mv (.tmp 6))⟩, [], []⟩, ⟨5, ⟨(some 40), none, (.bin .sub (.tmp 38) (.tmp 39))⟩, [3, 4], []⟩, ⟨6, ⟨(some 41), none, (.bin .sub (.tmp 40) (.const (.int .i64 1)))⟩, [5, 3, 4], []⟩, ⟨7, ⟨(some 42), none, (.iarr 6 1 (.tmp 2) (.tmp 41))⟩, [6, 5, 3, 4], []⟩, ⟨8, ⟨(some 43), none, (.load false 1 (.tmp 42))⟩, [7, 6, 5, 3, 4], []⟩, ⟨9, ⟨(some 44), none, (.mv (.tmp 7))⟩, [], []⟩, ⟨10, ⟨(some 45), none, (.bin .sub (.const (.int .i64 32)) (.tmp 44))⟩, [9], []⟩, ⟨11, ⟨(some 46), none, (.bin .shr (.tmp 43) (.tmp 45))⟩, [8, 10, 7, 6, 5, 3, 4, 9], []⟩, ⟨12, ⟨(some 47), none, (.bin .or (.tmp 37) (.tmp 46))⟩, [2, 11, 1, 0, 8, 10, 7, 6, 5, 3, 4, 9], []⟩, ⟨13, ⟨(some 48), none, (.iarr 6 1 (.tmp 5) (.tmp 35))⟩, [0, 1, 2, 3, 4, 5, 6, 7, 8, 9, 10, 11, 12], []⟩, ⟨14, ⟨none, none, (.store 1 (.tmp 48) (.tmp 47))⟩, [13, 12, 0, 1, 2, 3, 4, 5, 6, 7, 8, 9, 10, 11], []⟩]) .skip)))) (.reg [⟨(some 17), none, (.mv (.tmp 8))⟩, ⟨(some 18), none, (.bin .sub (.tmp 17) (.const (.int .i64 1)))⟩, ⟨(some 8), none, (.mv (.tmp 18))⟩])))))) (.seq (.reg [⟨(some 49), none, (.load true 6 (.tmp 5))⟩, ⟨none, none, (.store 6 (.tmp 4) (.tmp 49))⟩]) .ret))))), 50, [(.cell true 6 4)]⟩
def I_size_compare_c (F : FnsA) : LF := ⟨(.seq (.reg [⟨(some 2), none, (.box (.tmp 0))⟩, ⟨(some 3), none, (.box (.tmp 1))⟩, ⟨(some 4), none, (.mv (.const (.int .i64 0)))⟩]) (.seq (.seq (.reg [⟨(some 5), none, (.mv (.const (.int .i64 5)))⟩]) (.block 0 (.loop (.seq (.seq (.reg [⟨(some 6), none, (.mv (.tmp 5))⟩, ⟨(some 7), none, (.bin .geq (.tmp 6) (.const (.int .i64 0)))⟩]) (.cond (.tmp 7) .skip (.exit 0))) (.seq (.block 1 (.seq (.dreg 0 [⟨0, ⟨(some 10), none, (.mv (.tmp 5))⟩, [], []⟩, ⟨1, ⟨(some 11), none, (.iarr 6 1 (.tmp 2) (.tmp 10))⟩, [0], []⟩, ⟨2, ⟨(some 12), none, (.load false 1 (.tmp 11))⟩, [1, 0], []⟩, ⟨3, ⟨(some 13), none, (.mv (.tmp 5))⟩, [], []⟩, ⟨4, ⟨(some 14), none, (.iarr 6 1 (.tmp 3) (.tmp 13))⟩, [3], []⟩, ⟨5, ⟨(some 15), none, (.load false 1 (.tmp 14))⟩, [4, 3], []⟩, ⟨6, ⟨(some 16), none, (.bin .neq (.tmp 12) (.tmp 15))⟩, [2, 5, 1, 0, 4, 3], []⟩]) (.cond (.tmp 16) (.seq (.seq (.dreg 0 [⟨0, ⟨(some 17), none, (.mv (.tmp 5))⟩, [], []⟩, ⟨1, ⟨(some 18), none, (.iarr 6 1 (.tmp 2) (.tmp 17))⟩, [0], []⟩, ⟨2, ⟨(some 19), none, (.load false 1 (.tmp 18))⟩, [1, 0], []⟩, ⟨3, ⟨(some 20), none, (.mv (.tmp 5))⟩, [], []⟩, ⟨4, ⟨(some 21), none, (.iarr 6 1 (.tmp 3) (.tmp 20))⟩, [3], []⟩, ⟨5, ⟨(some 22), none, (.load false 1 (.tmp 21))⟩, [4, 3], []⟩, ⟨6, ⟨(some 23), none, (.bin .lss (.tmp 19) (.tmp 22))⟩, [2, 5, 1, 0, 4, 3], []⟩]) (.cond (.tmp 23) (.seq (.reg [⟨(some 4), none, (.mv (.const (.int .i64 (-1))))⟩]) .ret) .skip)) (.seq (.reg [⟨(some 4), none, (.mv (.const (.int .i64 1)))⟩]) .ret)) .skip))) (.reg [⟨(some 8), none, (.mv (.tmp 5))⟩, ⟨(some 9), none, (.bin .sub (.tmp 8) (.const (.int .i64 1)))⟩, ⟨(some 5), none, (.mv (.tmp 9))⟩])))))) (.seq (.reg [⟨(some 4), none, (.mv (.const (.int .i64 0)))⟩]) .ret))), 24, [(.tmp 4)]⟩
def I_calc_rest_c (F : FnsA) : LF := ⟨(.seq (.reg [⟨(some 6), none, (.mv (.const (.slice none 0 0)))⟩]) (.seq (.reg [⟨(some 13), none, (.mv (.tmp 1))⟩, ⟨(some 14), none, (.call F.X_Clone_Wide [(.tmp 13)])⟩, ⟨(some 15), none, (.call F.I_trimmed [(.tmp 14)])⟩, ⟨(some 7), none, (.mv (.tmp 15))⟩]) (.seq (.reg [⟨(some 16), none, (.mv (.tmp 2))⟩, ⟨(some 17), none, (.mv (.tmp 2))⟩, ⟨(some 18), none, (.lens (.tmp 17))⟩, ⟨(some 19), none, (.bin .sub (.tmp 18) (.const (.int .i64 1)))⟩, ⟨(some 20), none, (.isl 7 (.tmp 16) (.tmp 19))⟩, ⟨(some 21), none, (.load true 7 (.tmp 20))⟩, ⟨(some 8), none, (.alloc [(.bool false), (.int .u32 0), (.int .u32 0), (.int .u32 0), (.int .u32 0), (.int .u32 0), (.int .u32 0)])⟩, ⟨none, none, (.store 7 (.tmp 8) (.tmp 21))⟩]) (.seq (.reg [⟨(some 22), none, (.fad 1 (.tmp 8))⟩, ⟨(some 23), none, (.load true 6 (.tmp 22))⟩, ⟨(some 24), none, (.call F.I_wide [(.const (.bool false)), (.tmp 23)])⟩, ⟨(some 9), none, (.alloc [(.bool false), (.int .u32 0), (.int .u32 0), (.int .u32 0), (.int .u32 0), (.int .u32 0), (.int .u32 0)])⟩, ⟨none, none, (.store 7 (.tmp 9) (.tmp 24))⟩]) (.seq (.block 0 (.loop (.seq (.seq (.reg [⟨(some 25), none, (.mv (.tmp 7))⟩, ⟨(some 26), none, (.lens (.tmp 25))⟩, ⟨(some 27), none, (.mv (.tmp 2))⟩, ⟨(some 28), none, (.lens (.tmp 27))⟩, ⟨(some 29), none, (.bin .geq (.tmp 26) (.tmp 28))⟩, ⟨(some 30), none, (.mv (.tmp 29))⟩, ⟨(some 31), (some (30, true)), (.mv (.tmp 0))⟩, ⟨(some 32), (some (30, true)), (.nilc (.tmp 31))⟩, ⟨(some 33), (some (30, true)), (.fad 0 (.tmp 32))⟩, ⟨(some 34), (some (30, true)), (.load false 1 (.tmp 33))⟩, ⟨(some 35), (some (30, true)), (.un .not (.tmp 34))⟩, ⟨(some 36), none, (.pick (.tmp 30) (.tmp 35) (.const (.bool false)))⟩]) (.cond (.tmp 36) .skip (.exit 0))) (.block 1 (.seq (.reg [⟨(some 37), none, (.mv (.tmp 7))⟩, ⟨(some 38), none, (.mv (.tmp 7))⟩, ⟨(some 39), none, (.lens (.tmp 38))⟩, ⟨(some 40), none, (.bin .sub (.tmp 39) (.const (.int .i64 1)))⟩, ⟨(some 41), none, (.isl 7 (.tmp 37) (.tmp 40))⟩, ⟨(some 42), none, (.load true 7 (.tmp 41))⟩, ⟨(some 10), none, (.alloc [(.bool false), (.int .u32 0), (.int .u32 0), (.int .u32 0), (.int .u32 0), (.int .u32 0), (.int .u32 0)])⟩, ⟨none, none, (.store 7 (.tmp 10) (.tmp 42))⟩]) (.seq (.seq (.reg [⟨(some 43), none, (.fad 0 (.tmp 8))⟩, ⟨(some 44), none, (.load false 1 (.tmp 43))⟩]) (.cond (.tmp 44) (.reg [⟨(some 45), none, (.load true 7 (.tmp 10))⟩, ⟨(some 46), none, (.call F.I_opposite [(.tmp 45)])⟩, ⟨none, none, (.store 7 (.tmp 10) (.tmp 46))⟩]) .skip)) (.seq (.reg [⟨(some 47), none, (.mv (.tmp 7))⟩, ⟨(some 48), none, (.lens (.tmp 47))⟩, ⟨(some 49), none, (.mv (.tmp 2))⟩, ⟨(some 50), none, (.lens (.tmp 49))⟩, ⟨(some 51), none, (.bin .sub (.tmp 48) (.tmp 50))⟩, ⟨(some 11), none, (.mv (.tmp 51))⟩]) (.seq (.seq (.reg [⟨(some 52), none, (.mv (.tmp 7))⟩, ⟨(some 53), none, (.lens (.tmp 52))⟩, ⟨(some 54), none, (.mv (.const (.int .i64 0)))⟩]) (.block 2 (.loop (.seq (.reg [⟨(some 55), none, (.bin .lss (.tmp 54) (.tmp 53))⟩]) (.seq (.cond (.tmp 55) .skip (.exit 2)) (.seq (.block 3 (.seq (.reg [⟨(some 56), none, (.mv (.tmp 54))⟩, ⟨(some 12), none, (.mv (.tmp 56))⟩]) (.seq (.dreg 0 [⟨0, ⟨(some 57), none, (.mv (.tmp 7))⟩, [], []⟩, ⟨1, ⟨(some 58), none, (.mv (.tmp 12))⟩, [], []⟩, ⟨2, ⟨(some 59), none, (.mv (.tmp 0))⟩, [], []⟩, ⟨3, ⟨(some 60), none, (.load true 7 (.tmp 9))⟩, [], []⟩, ⟨4, ⟨(some 61), none, (.mv (.tmp 7))⟩, [], []⟩, ⟨5, ⟨(some 62), none, (.mv (.tmp 12))⟩, [], []⟩, ⟨6, ⟨(some 63), none, (.isl 7 (.tmp 61) (.tmp 62))⟩, [4, 5], []⟩, ⟨7, ⟨(some 64), none, (.load true 7 (.tmp 63))⟩, [6, 4, 5], []⟩, ⟨8, ⟨(some 65), none, (.call F.I_calc_mul [(.tmp 59), (.tmp 60), (.tmp 64)])⟩, [2, 3, 7, 6, 4, 5], []⟩, ⟨9, ⟨(some 66), none, (.isl 7 (.tmp 57) (.tmp 58))⟩, [0, 1, 2, 3, 4, 5, 6, 7, 8], []⟩, ⟨10, ⟨none, none, (.store 7 (.tmp 66) (.tmp 65))⟩, [9, 8, 0, 1, 2, 3, 4, 5, 6, 7], []⟩]) (.seq (.reg [⟨(some 67), none, (.mv (.tmp 12))⟩, ⟨(some 68), none, (.mv (.tmp 11))⟩, ⟨(some 69), none, (.bin .geq (.tmp 67) (.tmp 68))⟩]) (.cond (.tmp 69) (.dreg 0 [⟨0, ⟨(some 70), none, (.mv (.tmp 7))⟩, [], []⟩, ⟨1, ⟨(some 71), none, (.mv (.tmp 12))⟩, [], []⟩, ⟨2, ⟨(some 72), none, (.mv (.tmp 0))⟩, [], []⟩, ⟨3, ⟨(some 73), none, (.mv (.tmp 7))⟩, [], []⟩, ⟨4, ⟨(some 74), none, (.mv (.tmp 12))⟩, [], []⟩, ⟨5, ⟨(some 75), none, (.isl 7 (.tmp 73) (.tmp 74))⟩, [3, 4], []⟩, ⟨6, ⟨(some 76), none, (.load true 7 (.tmp 75))⟩, [5, 3, 4], []⟩, ⟨7, ⟨(some 77), none, (.mv (.tmp 0))⟩, [], []⟩, ⟨8, ⟨(some 78), none, (.load true 7 (.tmp 10))⟩, [], []⟩, ⟨9, ⟨(some 79), none, (.mv (.tmp 2))⟩, [], []⟩, ⟨10, ⟨(some 80), none, (.mv (.tmp 12))⟩, [], []⟩, ⟨11, ⟨(some 81), none, (.mv (.tmp 11))⟩, [], []⟩, ⟨12, ⟨(some 82), none, (.bin .sub (.tmp 80) (.tmp 81))⟩, [10, 11], []⟩, ⟨13, ⟨(some 83), none, (.isl 7 (.tmp 79) (.tmp 82))⟩, [9, 12, 10, 11], []⟩, ⟨14, ⟨(some 84), none, (.load true 7 (.tmp 83))⟩, [13, 9, 12, 10, 11], []⟩, ⟨15, ⟨(some 85), none, (.call F.I_calc_mul [(.tmp 77), (.tmp 78), (.tmp 84)])⟩, [7, 8, 14, 13, 9, 12, 10, 11], [6]⟩, ⟨16, ⟨(some 86), none, (.call F.I_calc_sub [(.tmp 72), (.tmp 76), (.tmp 85)])⟩, [2, 6, 15, 5, 3, 4, 7, 8, 14, 13, 9, 12, 10, 11], []⟩, ⟨17, ⟨(some 87), none, (.isl 7 (.tmp 70) (.tmp 71))⟩, [0, 1, 2, 3, 4, 5, 6, 7, 8, 9, 10, 11, 12, 13, 14, 15, 16], []⟩, ⟨18, ⟨none, none, (.store 7 (.tmp 87) (.tmp 86))⟩, [17, 16, 0, 1, 2, 3, 4, 5, 6, 7, 8, 9, 10, 11, 12, 13, 14, 15], []⟩]) .skip))))) (.reg [⟨(some 88), none, (.bin .add (.tmp 54) (.const (.int .i64 1)))⟩, ⟨(some 54), none, (.mv (.tmp 88))⟩]))))))) (.reg [⟨(some 89), none, (.mv (.tmp 7))⟩, ⟨(some 90), none, (.call F.I_trimmed [(.tmp 89)])⟩, ⟨(some 7), none, (.mv (.tmp 90))⟩]))))))))) (.seq (.reg [⟨(some 91), none, (.mv (.tmp 7))⟩, ⟨(some 6), none, (.mv (.tmp 91))⟩]) .ret)))))), 92, [(.tmp 6)]⟩
def I_sturm_turns_c (F : FnsA) : LF := ⟨(.seq (.reg [⟨(some 4), none, (.box (.tmp 1))⟩, ⟨(some 6), none, (.mv (.const (.int .i64 0)))⟩]) (.seq (.reg [⟨(some 7), none, (.mv (.const (.int .i64 0)))⟩, ⟨(some 8), none, (.mv (.const (.int .i64 0)))⟩]) (.seq (.seq (.reg [⟨(some 12), none, (.mv (.tmp 0))⟩, ⟨(some 13), none, (.nilc (.tmp 12))⟩, ⟨(some 14), none, (.fad 1 (.tmp 13))⟩, ⟨(some 15), none, (.load false 1 (.tmp 14))⟩, ⟨(some 16), none, (.lens (.tmp 15))⟩, ⟨(some 17), none, (.mv (.const (.int .i64 0)))⟩]) (.block 0 (.loop (.seq (.reg [⟨(some 18), none, (.bin .lss (.tmp 17) (.tmp 16))⟩]) (.seq (.cond (.tmp 18) .skip (.exit 0)) (.seq (.block 1 (.seq (.reg [⟨(some 19), none, (.isl 1 (.tmp 15) (.tmp 17))⟩, ⟨(some 20), none, (.load false 1 (.tmp 19))⟩, ⟨(some 10), none, (.mv (.tmp 20))⟩]) (.seq (.dreg 0 [⟨0, ⟨(some 21), none, (.mv (.tmp 0))⟩, [], []⟩, ⟨1, ⟨(some 22), none, (.nilc (.tmp 21))⟩, [0], []⟩, ⟨2, ⟨(some 23), none, (.fad 0 (.tmp 22))⟩, [1, 0], []⟩, ⟨3, ⟨(some 24), none, (.mv (.tmp 10))⟩, [], []⟩, ⟨4, ⟨(some 25), none, (.load true 7 (.tmp 4))⟩, [], []⟩, ⟨5, ⟨(some 26), none, (.mv (.tmp 2))⟩, [], []⟩, ⟨6, ⟨(some 27), none, (.call F.I_calc_valueAt [(.tmp 23), (.tmp 24), (.tmp 25), (.tmp 26)])⟩, [2, 3, 4, 5, 1, 0], []⟩, ⟨7, ⟨(some 28), none, (.call F.I_sign [(.tmp 27)])⟩, [6, 2, 3, 4, 5, 1, 0], []⟩, ⟨8, ⟨(some 11), none, (.mv (.tmp 28))⟩, [7, 0, 1, 2, 3, 4, 5, 6], []⟩]) (.seq (.seq (.reg [⟨(some 29), none, (.mv (.tmp 11))⟩, ⟨(some 30), none, (.bin .eql (.tmp 29) (.const (.int .i64 0)))⟩]) (.cond (.tmp 30) (.exit 1) .skip)) (.seq (.seq (.reg [⟨(some 31), none, (.mv (.tmp 11))⟩, ⟨(some 32), none, (.mv (.tmp 8))⟩, ⟨(some 33), none, (.un .neg (.tmp 32))⟩, ⟨(some 34), none, (.bin .eql (.tmp 31) (.tmp 33))⟩]) (.cond (.tmp 34) (.reg [⟨(some 35), none, (.mv (.tmp 7))⟩, ⟨(some 36), none, (.bin .add (.tmp 35) (.const (.int .i64 1)))⟩, ⟨(some 7), none, (.mv (.tmp 36))⟩]) .skip)) (.reg [⟨(some 37), none, (.mv (.tmp 11))⟩, ⟨(some 8), none, (.mv (.tmp 37))⟩])))))) (.reg [⟨(some 38), none, (.bin .add (.tmp 17) (.const (.int .i64 1)))⟩, ⟨(some 17), none, (.mv (.tmp 38))⟩]))))))) (.seq (.reg [⟨(some 39), none, (.mv (.tmp 7))⟩, ⟨(some 6), none, (.mv (.tmp 39))⟩]) .ret)))), 40, [(.tmp 6)]⟩
def S_l01Div_c (F : FnsA) : LF := ⟨(.seq (.reg [⟨(some 2), none, (.box (.tmp 0))⟩, ⟨(some 3), none, (.box (.tmp 1))⟩, ⟨(some 4), none, (.alloc [(.bool false), (.int .u32 0), (.int .u32 0), (.int .u32 0), (.int .u32 0), (.int .u32 0), (.int .u32 0)])⟩, ⟨(some 5), none, (.alloc [(.bool false), (.int .u32 0), (.int .u32 0), (.int .u32 0), (.int .u32 0), (.int .u32 0), (.int .u32 0)])⟩]) (.seq (.reg [⟨(some 11), none, (.fad 1 (.tmp 2))⟩, ⟨(some 12), none, (.load true 6 (.tmp 11))⟩, ⟨(some 6), none, (.alloc [(.int .u32 0), (.int .u32 0), (.int .u32 0), (.int .u32 0), (.int .u32 0), (.int .u32 0)])⟩, ⟨none, none, (.store 6 (.tmp 6) (.tmp 12))⟩]) (.seq (.reg [⟨(some 13), none, (.fad 1 (.tmp 3))⟩, ⟨(some 14), none, (.load true 6 (.tmp 13))⟩, ⟨(some 7), none, (.alloc [(.int .u32 0), (.int .u32 0), (.int .u32 0), (.int .u32 0), (.int .u32 0), (.int .u32 0)])⟩, ⟨none, none, (.store 6 (.tmp 7) (.tmp 14))⟩]) (.seq (.reg [⟨(some 16), none, (.call F.S_l01DivMag [(.tmp 6), (.tmp 7)])⟩, ⟨(some 15), none, (.mv (.tmp 16))⟩, ⟨(some 17), none, (.ext 0 (.tmp 15))⟩, ⟨(some 18), none, (.ext 1 (.tmp 15))⟩, ⟨(some 8), none, (.alloc [(.int .u32 0), (.int .u32 0), (.int .u32 0), (.int .u32 0), (.int .u32 0), (.int .u32 0)])⟩, ⟨(some 9), none, (.alloc [(.int .u32 0), (.int .u32 0), (.int .u32 0), (.int .u32 0), (.int .u32 0), (.int .u32 0)])⟩, ⟨none, none, (.store 6 (.tmp 8) (.tmp 17))⟩, ⟨none, none, (.store 6 (.tmp 9) (.tmp 18))⟩]) (.seq (.seq (.reg [⟨(some 19), none, (.fad 0 (.tmp 2))⟩, ⟨(some 20), none, (.load false 1 (.tmp 19))⟩, ⟨(some 21), none, (.fad 0 (.tmp 3))⟩, ⟨(some 22), none, (.load false 1 (.tmp 21))⟩, ⟨(some 23), none, (.beq true (.tmp 20) (.tmp 22))⟩, ⟨(some 24), none, (.mv (.tmp 23))⟩, ⟨(some 25), (some (24, true)), (.call F.S_l01Zero [(.tmp 9)])⟩, ⟨(some 26), (some (24, true)), (.un .not (.tmp 25))⟩, ⟨(some 27), none, (.pick (.tmp 24) (.tmp 26) (.const (.bool false)))⟩]) (.cond (.tmp 27) (.seq (.reg [⟨(some 28), none, (.build [(.int .u32 0), (.int .u32 0), (.int .u32 0), (.int .u32 0), (.int .u32 0), (.int .u32 0)] [(0, (1, (.const (.int .u32 1))))])⟩, ⟨(some 10), none, (.alloc [(.int .u32 0), (.int .u32 0), (.int .u32 0), (.int .u32 0), (.int .u32 0), (.int .u32 0)])⟩, ⟨none, none, (.store 6 (.tmp 10) (.tmp 28))⟩]) (.seq (.reg [⟨(some 30), none, (.call F.S_l01Plus [(.tmp 8), (.tmp 10)])⟩, ⟨(some 29), none, (.mv (.tmp 30))⟩, ⟨(some 31), none, (.ext 0 (.tmp 29))⟩, ⟨(some 32), none, (.ext 1 (.tmp 29))⟩, ⟨none, none, (.store 6 (.tmp 8) (.tmp 31))⟩]) (.reg [⟨(some 33), none, (.call F.S_l01Minus [(.tmp 7), (.tmp 9)])⟩, ⟨none, none, (.store 6 (.tmp 9) (.tmp 33))⟩]))) .skip)) (.seq (.dreg 0 [⟨0, ⟨(some 34), none, (.fad 0 (.tmp 2))⟩, [], []⟩, ⟨1, ⟨(some 35), none, (.load false 1 (.tmp 34))⟩, [0], []⟩, ⟨2, ⟨(some 36), none, (.fad 0 (.tmp 3))⟩, [], []⟩, ⟨3, ⟨(some 37), none, (.load false 1 (.tmp 36))⟩, [2], []⟩, ⟨4, ⟨(some 38), none, (.beq true (.tmp 35) (.tmp 37))⟩, [1, 3, 0, 2], []⟩, ⟨5, ⟨(some 39), none, (.load true 6 (.tmp 8))⟩, [], []⟩, ⟨7, ⟨(some 41), none, (.fad 0 (.tmp 3))⟩, [], []⟩, ⟨8, ⟨(some 42), none, (.load false 1 (.tmp 41))⟩, [7], []⟩, ⟨9, ⟨(some 43), none, (.load true 6 (.tmp 9))⟩, [], []⟩, ⟨6, ⟨(some 40), none, (.call F.S_l01Made [(.tmp 38), (.tmp 39)])⟩, [4, 5, 1, 3, 0, 2], [8, 9]⟩, ⟨10, ⟨(some 44), none, (.call F.S_l01Made [(.tmp 42), (.tmp 43)])⟩, [8, 9, 6, 7, 4, 5, 1, 3, 0, 2], []⟩, ⟨11, ⟨none, none, (.store 7 (.tmp 4) (.tmp 40))⟩, [6, 10, 0, 1, 2, 3, 4, 5, 8, 9, 7], []⟩, ⟨12, ⟨none, none, (.store 7 (.tmp 5) (.tmp 44))⟩, [10, 11, 0, 1, 2, 3, 4, 5, 6, 7, 8, 9], []⟩]) .ret)))))), 45, [(.cell true 7 4), (.cell true 7 5)]⟩
def X_IndexFunc_int64_c (F : FnsA) : LF := ⟨(.seq (.reg [⟨(some 4), none, (.mv (.const (.int .i64 0)))⟩]) (.seq (.seq (.reg [⟨(some 6), none, (.mv (.tmp 0))⟩, ⟨(some 7), none, (.lens (.tmp 6))⟩, ⟨(some 8), none, (.mv (.const (.int .i64 0)))⟩]) (.block 0 (.loop (.seq (.reg [⟨(some 9), none, (.bin .lss (.tmp 8) (.tmp 7))⟩]) (.seq (.cond (.tmp 9) .skip (.exit 0)) (.seq (.block 1 (.seq (.reg [⟨(some 10), none, (.mv (.tmp 8))⟩, ⟨(some 5), none, (.mv (.tmp 10))⟩]) (.seq (.reg [⟨(some 11), none, (.mv (.tmp 1))⟩, ⟨(some 12), none, (.mv (.tmp 0))⟩, ⟨(some 13), none, (.mv (.tmp 5))⟩, ⟨(some 14), none, (.isl 1 (.tmp 12) (.tmp 13))⟩, ⟨(some 15), none, (.load false 1 (.tmp 14))⟩, ⟨(some 16), none, (.callv (.tmp 11) [(.tmp 15)])⟩]) (.cond (.tmp 16) (.seq (.reg [⟨(some 17), none, (.mv (.tmp 5))⟩, ⟨(some 4), none, (.mv (.tmp 17))⟩]) .ret) .skip)))) (.reg [⟨(some 18), none, (.bin .add (.tmp 8) (.const (.int .i64 1)))⟩, ⟨(some 8), none, (.mv (.tmp 18))⟩]))))))) (.seq (.reg [⟨(some 4), none, (.mv (.const (.int .i64 (-1))))⟩]) .ret))), 19, [(.tmp 4)]⟩
def S_l05Slope_c (F : FnsA) : LF := ⟨(.seq (.reg [⟨(some 2), none, (.mv (.const (.slice none 0 0)))⟩]) (.seq (.reg [⟨(some 5), none, (.bsl 1 0 [(.int .i64 0)] [])⟩, ⟨(some 3), none, (.mv (.tmp 5))⟩]) (.seq (.seq (.reg [⟨(some 4), none, (.mv (.const (.int .i64 1)))⟩]) (.block 0 (.loop (.seq (.seq (.reg [⟨(some 6), none, (.mv (.tmp 4))⟩, ⟨(some 7), none, (.mv (.tmp 0))⟩, ⟨(some 8), none, (.lens (.tmp 7))⟩, ⟨(some 9), none, (.bin .lss (.tmp 6) (.tmp 8))⟩]) (.cond (.tmp 9) .skip (.exit 0))) (.seq (.block 1 (.reg [⟨(some 12), none, (.mv (.tmp 3))⟩, ⟨(some 13), none, (.mv (.tmp 4))⟩, ⟨(some 14), none, (.mv (.tmp 0))⟩, ⟨(some 15), none, (.mv (.tmp 4))⟩, ⟨(some 16), none, (.isl 1 (.tmp 14) (.tmp 15))⟩, ⟨(some 17), none, (.load false 1 (.tmp 16))⟩, ⟨(some 18), none, (.bin .mul (.tmp 13) (.tmp 17))⟩, ⟨(some 19), none, (.bsl 1 1 [(.int .i64 0)] [(0, (.tmp 18))])⟩, ⟨(some 20), none, (.app 1 8 (.tmp 12) (.tmp 19))⟩, ⟨(some 3), none, (.mv (.tmp 20))⟩])) (.reg [⟨(some 10), none, (.mv (.tmp 4))⟩, ⟨(some 11), none, (.bin .add (.tmp 10) (.const (.int .i64 1)))⟩, ⟨(some 4), none, (.mv (.tmp 11))⟩])))))) (.seq (.reg [⟨(some 21), none, (.mv (.tmp 3))⟩, ⟨(some 2), none, (.mv (.tmp 21))⟩]) .ret)))), 22, [(.tmp 2)]⟩
def S_l01Bits_c (F : FnsA) : LF := ⟨(.seq (.reg [⟨(some 2), none, (.mv (.const (.int .i64 0)))⟩]) (.seq (.seq (.reg [⟨(some 3), none, (.mv (.const (.int .i64 5)))⟩]) (.block 0 (.loop (.seq (.seq (.reg [⟨(some 6), none, (.mv (.tmp 3))⟩, ⟨(some 7), none, (.bin .geq (.tmp 6) (.const (.int .i64 0)))⟩]) (.cond (.tmp 7) .skip (.exit 0))) (.seq (.block 1 (.seq (.seq (.reg [⟨(some 10), none, (.mv (.tmp 0))⟩, ⟨(some 11), none, (.mv (.tmp 3))⟩, ⟨(some 12), none, (.nilc (.tmp 10))⟩, ⟨(some 13), none, (.iarr 6 1 (.tmp 12) (.tmp 11))⟩, ⟨(some 14), none, (.load false 1 (.tmp 13))⟩, ⟨(some 15), none, (.bin .eql (.tmp 14) (.const (.int .u32 0)))⟩]) (.cond (.tmp 15) (.exit 1) .skip)) (.seq (.reg [⟨(some 4), none, (.mv (.const (.int .i64 0)))⟩]) (.seq (.seq (.reg [⟨(some 16), none, (.mv (.tmp 0))⟩, ⟨(some 17), none, (.mv (.tmp 3))⟩, ⟨(some 18), none, (.nilc (.tmp 16))⟩, ⟨(some 19), none, (.iarr 6 1 (.tmp 18) (.tmp 17))⟩, ⟨(some 20), none, (.load false 1 (.tmp 19))⟩, ⟨(some 5), none, (.mv (.tmp 20))⟩]) (.block 2 (.loop (.seq (.seq (.reg [⟨(some 21), none, (.mv (.tmp 5))⟩, ⟨(some 22), none, (.bin .gtr (.tmp 21) (.const (.int .u32 0)))⟩]) (.cond (.tmp 22) .skip (.exit 2))) (.seq (.block 3 (.reg [⟨(some 25), none, (.mv (.tmp 4))⟩, ⟨(some 26), none, (.bin .add (.tmp 25) (.const (.int .i64 1)))⟩, ⟨(some 4), none, (.mv (.tmp 26))⟩])) (.reg [⟨(some 23), none, (.mv (.tmp 5))⟩, ⟨(some 24), none, (.bin .shr (.tmp 23) (.const (.int .u64 1)))⟩, ⟨(some 5), none, (.mv (.tmp 24))⟩])))))) (.seq (.reg [⟨(some 27), none, (.mv (.tmp 3))⟩, ⟨(some 28), none, (.bin .mul (.const (.int .i64 32)) (.tmp 27))⟩, ⟨(some 29), none, (.mv (.tmp 4))⟩, ⟨(some 30), none, (.bin .add (.tmp 28) (.tmp 29))⟩, ⟨(some 2), none, (.mv (.tmp 30))⟩]) .ret))))) (.reg [⟨(some 8), none, (.mv (.tmp 3))⟩, ⟨(some 9), none, (.bin .sub (.tmp 8) (.const (.int .i64 1)))⟩, ⟨(some 3), none, (.mv (.tmp 9))⟩])))))) (.seq (.reg [⟨(some 2), none, (.mv (.const (.int .i64 0)))⟩]) .ret))), 31, [(.tmp 2)]⟩
def S_l01Zero_c (F : FnsA) : LF := ⟨(.seq (.reg [⟨(some 2), none, (.mv (.const (.bool false)))⟩]) (.seq (.reg [⟨(some 3), none, (.mv (.tmp 0))⟩, ⟨(some 4), none, (.nilc (.tmp 3))⟩, ⟨(some 5), none, (.load true 6 (.tmp 4))⟩, ⟨(some 6), none, (.build [(.int .u32 0), (.int .u32 0), (.int .u32 0), (.int .u32 0), (.int .u32 0), (.int .u32 0)] [])⟩, ⟨(some 7), none, (.eqs false 6 (.tmp 5) (.tmp 6))⟩, ⟨(some 2), none, (.mv (.tmp 7))⟩]) .ret)), 8, [(.tmp 2)]⟩
def S_l01Plus_c (F : FnsA) : LF := ⟨(.seq (.reg [⟨(some 4), none, (.alloc [(.int .u32 0), (.int .u32 0), (.int .u32 0), (.int .u32 0), (.int .u32 0), (.int .u32 0)])⟩, ⟨(some 5), none, (.mv (.const (.bool false)))⟩]) (.seq (.reg [⟨(some 10), none, (.build [(.int .u32 0), (.int .u32 0), (.int .u32 0), (.int .u32 0), (.int .u32 0), (.int .u32 0)] [])⟩, ⟨(some 6), none, (.alloc [(.int .u32 0), (.int .u32 0), (.int .u32 0), (.int .u32 0), (.int .u32 0), (.int .u32 0)])⟩, ⟨none, none, (.store 6 (.tmp 6) (.tmp 10))⟩]) (.seq (.reg [⟨(some 7), none, (.mv (.const (.int .u64 0)))⟩]) (.seq (.seq (.reg [⟨(some 8), none, (.mv (.const (.int .i64 0)))⟩]) (.block 0 (.loop (.seq (.seq (.reg [⟨(some 11), none, (.mv (.tmp 8))⟩, ⟨(some 12), none, (.bin .lss (.tmp 11) (.const (.int .i64 6)))⟩]) (.cond (.tmp 12) .skip (.exit 0))) (.seq (.block 1 (.seq (.dreg 0 [⟨0, ⟨(some 15), none, (.mv (.tmp 0))⟩, [], []⟩, ⟨1, ⟨(some 16), none, (.mv (.tmp 8))⟩, [], []⟩, ⟨2, ⟨(some 17), none, (.nilc (.tmp 15))⟩, [0], []⟩, ⟨3, ⟨(some 18), none, (.iarr 6 1 (.tmp 17) (.tmp 16))⟩, [2, 1, 0], []⟩, ⟨4, ⟨(some 19), none, (.load false 1 (.tmp 18))⟩, [3, 2, 1, 0], []⟩, ⟨5, ⟨(some 20), none, (.conv .u64 (.tmp 19))⟩, [4, 3, 2, 1, 0], []⟩, ⟨6, ⟨(some 21), none, (.mv (.tmp 1))⟩, [], []⟩, ⟨7, ⟨(some 22), none, (.mv (.tmp 8))⟩, [], []⟩, ⟨8, ⟨(some 23), none, (.nilc (.tmp 21))⟩, [6], []⟩, ⟨9, ⟨(some 24), none, (.iarr 6 1 (.tmp 23) (.tmp 22))⟩, [8, 7, 6], []⟩, ⟨10, ⟨(some 25), none, (.load false 1 (.tmp 24))⟩, [9, 8, 7, 6], []⟩, ⟨11, ⟨(some 26), none, (.conv .u64 (.tmp 25))⟩, [10, 9, 8, 7, 6], []⟩, ⟨12, ⟨(some 27), none, (.bin .add (.tmp 20) (.tmp 26))⟩, [5, 11, 4, 3, 2, 1, 0, 10, 9, 8, 7, 6], []⟩, ⟨13, ⟨(some 28), none, (.mv (.tmp 7))⟩, [], []⟩, ⟨14, ⟨(some 29), none, (.bin .add (.tmp 27) (.tmp 28))⟩, [12, 13, 5, 11, 4, 3, 2, 1, 0, 10, 9, 8, 7, 6], []⟩, ⟨15, ⟨(some 9), none, (.mv (.tmp 29))⟩, [14, 0, 1, 2, 3, 4, 5, 6, 7, 8, 9, 10, 11, 12, 13], []⟩]) (.seq (.reg [⟨(some 30), none, (.mv (.tmp 8))⟩, ⟨(some 31), none, (.mv (.tmp 9))⟩, ⟨(some 32), none, (.conv .u32 (.tmp 31))⟩, ⟨(some 33), none, (.iarr 6 1 (.tmp 6) (.tmp 30))⟩, ⟨none, none, (.store 1 (.tmp 33) (.tmp 32))⟩]) (.reg [⟨(some 34), none, (.mv (.tmp 9))⟩, ⟨(some 35), none, (.bin .shr (.tmp 34) (.const (.int .u64 32)))⟩, ⟨(some 7), none, (.mv (.tmp 35))⟩])))) (.reg [⟨(some 13), none, (.mv (.tmp 8))⟩, ⟨(some 14), none, (.bin .add (.tmp 13) (.const (.int .i64 1)))⟩, ⟨(some 8), none, (.mv (.tmp 14))⟩])))))) (.seq (.reg [⟨(some 36), none, (.load true 6 (.tmp 6))⟩, ⟨(some 37), none, (.mv (.tmp 7))⟩, ⟨(some 38), none, (.bin .eql (.tmp 37) (.const (.int .u64 0)))⟩, ⟨none, none, (.store 6 (.tmp 4) (.tmp 36))⟩, ⟨(some 5), none, (.mv (.tmp 38))⟩]) .ret))))), 39, [(.cell true 6 4), (.tmp 5)]⟩
def S_l01Minus_c (F : FnsA) : LF := ⟨(.seq (.reg [⟨(some 4), none, (.alloc [(.int .u32 0), (.int .u32 0), (.int .u32 0), (.int .u32 0), (.int .u32 0), (.int .u32 0)])⟩]) (.seq (.reg [⟨(some 9), none, (.build [(.int .u32 0), (.int .u32 0), (.int .u32 0), (.int .u32 0), (.int .u32 0), (.int .u32 0)] [])⟩, ⟨(some 5), none, (.alloc [(.int .u32 0), (.int .u32 0), (.int .u32 0), (.int .u32 0), (.int .u32 0), (.int .u32 0)])⟩, ⟨none, none, (.store 6 (.tmp 5) (.tmp 9))⟩]) (.seq (.reg [⟨(some 6), none, (.mv (.const (.int .i64 0)))⟩]) (.seq (.seq (.reg [⟨(some 7), none, (.mv (.const (.int .i64 0)))⟩]) (.block 0 (.loop (.seq (.seq (.reg [⟨(some 10), none, (.mv (.tmp 7))⟩, ⟨(some 11), none, (.bin .lss (.tmp 10) (.const (.int .i64 6)))⟩]) (.cond (.tmp 11) .skip (.exit 0))) (.seq (.block 1 (.seq (.dreg 0 [⟨0, ⟨(some 14), none, (.mv (.tmp 0))⟩, [], []⟩, ⟨1, ⟨(some 15), none, (.mv (.tmp 7))⟩, [], []⟩, ⟨2, ⟨(some 16), none, (.nilc (.tmp 14))⟩, [0], []⟩, ⟨3, ⟨(some 17), none, (.iarr 6 1 (.tmp 16) (.tmp 15))⟩, [2, 1, 0], []⟩, ⟨4, ⟨(some 18), none, (.load false 1 (.tmp 17))⟩, [3, 2, 1, 0], []⟩, ⟨5, ⟨(some 19), none, (.conv .i64 (.tmp 18))⟩, [4, 3, 2, 1, 0], []⟩, ⟨6, ⟨(some 20), none, (.mv (.tmp 1))⟩, [], []⟩, ⟨7, ⟨(some 21), none, (.mv (.tmp 7))⟩, [], []⟩, ⟨8, ⟨(some 22), none, (.nilc (.tmp 20))⟩, [6], []⟩, ⟨9, ⟨(some 23), none, (.iarr 6 1 (.tmp 22) (.tmp 21))⟩, [8, 7, 6], []⟩, ⟨10, ⟨(some 24), none, (.load false 1 (.tmp 23))⟩, [9, 8, 7, 6], []⟩, ⟨11, ⟨(some 25), none, (.conv .i64 (.tmp 24))⟩, [10, 9, 8, 7, 6], []⟩, ⟨12, ⟨(some 26), none, (.bin .sub (.tmp 19) (.tmp 25))⟩, [5, 11, 4, 3, 2, 1, 0, 10, 9, 8, 7, 6], []⟩, ⟨13, ⟨(some 27), none, (.mv (.tmp 6))⟩, [], []⟩, ⟨14, ⟨(some 28), none, (.bin .sub (.tmp 26) (.tmp 27))⟩, [12, 13, 5, 11, 4, 3, 2, 1, 0, 10, 9, 8, 7, 6], []⟩, ⟨15, ⟨(some 8), none, (.mv (.tmp 28))⟩, [14, 0, 1, 2, 3, 4, 5, 6, 7, 8, 9, 10, 11, 12, 13], []⟩]) (.seq (.reg [⟨(some 6), none, (.mv (.const (.int .i64 0)))⟩]) (.seq (.seq (.reg [⟨(some 29), none, (.mv (.tmp 8))⟩, ⟨(some 30), none, (.bin .lss (.tmp 29) (.const (.int .i64 0)))⟩]) (.cond (.tmp 30) (.seq (.reg [⟨(some 31), none, (.mv (.tmp 8))⟩, ⟨(some 32), none, (.bin .add (.tmp 31) (.const (.int .i64 4294967296)))⟩, ⟨(some 8), none, (.mv (.tmp 32))⟩]) (.reg [⟨(some 6), none, (.mv (.const (.int .i64 1)))⟩])) .skip)) (.reg [⟨(some 33), none, (.mv (.tmp 7))⟩, ⟨(some 34), none, (.mv (.tmp 8))⟩, ⟨(some 35), none, (.conv .u32 (.tmp 34))⟩, ⟨(some 36), none, (.iarr 6 1 (.tmp 5) (.tmp 33))⟩, ⟨none, none, (.store 1 (.tmp 36) (.tmp 35))⟩]))))) (.reg [⟨(some 12), none, (.mv (.tmp 7))⟩, ⟨(some 13), none, (.bin .add (.tmp 12) (.const (.int .i64 1)))⟩, ⟨(some 7), none, (.mv (.tmp 13))⟩])))))) (.seq (.reg [⟨(some 37), none, (.load true 6 (.tmp 5))⟩, ⟨none, none, (.store 6 (.tmp 4) (.tmp 37))⟩]) .ret))))), 38, [(.cell true 6 4)]⟩
def I_slope_c (F : FnsA) : LF := ⟨(.seq (.reg [⟨(some 2), none, (.mv (.const (.slice none 0 0)))⟩]) (.seq (.reg [⟨(some 5), none, (.mv (.tmp 0))⟩, ⟨(some 6), none, (.lens (.tmp 5))⟩, ⟨(some 7), none, (.bin .sub (.tmp 6) (.const (.int .i64 1)))⟩, ⟨(some 8), none, (.msl 1 8 [(.int .i64 0)] (.tmp 7) (.tmp 7))⟩, ⟨(some 3), none, (.mv (.tmp 8))⟩]) (.seq (.seq (.reg [⟨(some 9), none, (.mv (.tmp 3))⟩, ⟨(some 10), none, (.lens (.tmp 9))⟩, ⟨(some 11), none, (.mv (.const (.int .i64 0)))⟩]) (.block 0 (.loop (.seq (.reg [⟨(some 12), none, (.bin .lss (.tmp 11) (.tmp 10))⟩]) (.seq (.cond (.tmp 12) .skip (.exit 0)) (.seq (.block 1 (.seq (.reg [⟨(some 13), none, (.mv (.tmp 11))⟩, ⟨(some 4), none, (.mv (.tmp 13))⟩]) (.reg [⟨(some 14), none, (.mv (.tmp 3))⟩, ⟨(some 15), none, (.mv (.tmp 4))⟩, ⟨(some 16), none, (.mv (.tmp 4))⟩, ⟨(some 17), none, (.bin .add (.tmp 16) (.const (.int .i64 1)))⟩, ⟨(some 18), none, (.mv (.tmp 0))⟩, ⟨(some 19), none, (.mv (.tmp 4))⟩, ⟨(some 20), none, (.bin .add (.tmp 19) (.const (.int .i64 1)))⟩, ⟨(some 21), none, (.isl 1 (.tmp 18) (.tmp 20))⟩, ⟨(some 22), none, (.load false 1 (.tmp 21))⟩, ⟨(some 23), none, (.bin .mul (.tmp 17) (.tmp 22))⟩, ⟨(some 24), none, (.isl 1 (.tmp 14) (.tmp 15))⟩, ⟨none, none, (.store 1 (.tmp 24) (.tmp 23))⟩]))) (.reg [⟨(some 25), none, (.bin .add (.tmp 11) (.const (.int .i64 1)))⟩, ⟨(some 11), none, (.mv (.tmp 25))⟩]))))))) (.seq (.reg [⟨(some 26), none, (.mv (.tmp 3))⟩, ⟨(some 2), none, (.mv (.tmp 26))⟩]) .ret)))), 27, [(.tmp 2)]⟩
def I_size_plus_c (F : FnsA) : LF := ⟨(.seq (.reg [⟨(some 2), none, (.box (.tmp 0))⟩, ⟨(some 3), none, (.box (.tmp 1))⟩, ⟨(some 4), none, (.alloc [(.int .u32 0), (.int .u32 0), (.int .u32 0), (.int .u32 0), (.int .u32 0), (.int .u32 0)])⟩, ⟨(some 5), none, (.mv (.const (.bool false)))⟩]) (.seq (.reg [⟨(some 6), none, (.mv (.const (.int .u64 0)))⟩]) (.seq (.seq (.reg [⟨(some 8), none, (.mv (.const (.int .i64 0)))⟩]) (.block 0 (.loop (.seq (.reg [⟨(some 9), none, (.bin .lss (.tmp 8) (.const (.int .i64 6)))⟩]) (.seq (.cond (.tmp 9) .skip (.exit 0)) (.seq (.block 1 (.seq (.reg [⟨(some 10), none, (.mv (.tmp 8))⟩, ⟨(some 7), none, (.mv (.tmp 10))⟩]) (.seq (.dreg 0 [⟨0, ⟨(some 11), none, (.mv (.tmp 6))⟩, [], []⟩, ⟨1, ⟨(some 12), none, (.mv (.tmp 7))⟩, [], []⟩, ⟨2, ⟨(some 13), none, (.iarr 6 1 (.tmp 2) (.tmp 12))⟩, [1], []⟩, ⟨3, ⟨(some 14), none, (.load false 1 (.tmp 13))⟩, [2, 1], []⟩, ⟨4, ⟨(some 15), none, (.conv .u64 (.tmp 14))⟩, [3, 2, 1], []⟩, ⟨5, ⟨(some 16), none, (.mv (.tmp 7))⟩, [], []⟩, ⟨6, ⟨(some 17), none, (.iarr 6 1 (.tmp 3) (.tmp 16))⟩, [5], []⟩, ⟨7, ⟨(some 18), none, (.load false 1 (.tmp 17))⟩, [6, 5], []⟩, ⟨8, ⟨(some 19), none, (.conv .u64 (.tmp 18))⟩, [7, 6, 5], []⟩, ⟨9, ⟨(some 20), none, (.bin .add (.tmp 15) (.tmp 19))⟩, [4, 8, 3, 2, 1, 7, 6, 5], []⟩, ⟨10, ⟨(some 21), none, (.bin .add (.tmp 11) (.tmp 20))⟩, [0, 9, 4, 8, 3, 2, 1, 7, 6, 5], []⟩, ⟨11, ⟨(some 6), none, (.mv (.tmp 21))⟩, [10, 0, 1, 2, 3, 4, 5, 6, 7, 8, 9], []⟩]) (.seq (.reg [⟨(some 22), none, (.mv (.tmp 7))⟩, ⟨(some 23), none, (.mv (.tmp 6))⟩, ⟨(some 24), none, (.conv .u32 (.tmp 23))⟩, ⟨(some 25), none, (.iarr 6 1 (.tmp 2) (.tmp 22))⟩, ⟨none, none, (.store 1 (.tmp 25) (.tmp 24))⟩]) (.reg [⟨(some 26), none, (.mv (.tmp 6))⟩, ⟨(some 27), none, (.bin .shr (.tmp 26) (.const (.int .u64 32)))⟩, ⟨(some 6), none, (.mv (.tmp 27))⟩]))))) (.reg [⟨(some 28), none, (.bin .add (.tmp 8) (.const (.int .i64 1)))⟩, ⟨(some 8), none, (.mv (.tmp 28))⟩]))))))) (.seq (.reg [⟨(some 29), none, (.load true 6 (.tmp 2))⟩, ⟨(some 30), none, (.mv (.tmp 6))⟩, ⟨(some 31), none, (.bin .neq (.tmp 30) (.const (.int .u64 0)))⟩, ⟨none, none, (.store 6 (.tmp 4) (.tmp 29))⟩, ⟨(some 5), none, (.mv (.tmp 31))⟩]) .ret)))), 32, [(.cell true 6 4), (.tmp 5)]⟩
def I_size_minus_c (F : FnsA) : LF := ⟨(.seq (.reg [⟨(some 2), none, (.box (.tmp 0))⟩, ⟨(some 3), none, (.box (.tmp 1))⟩, ⟨(some 4), none, (.alloc [(.int .u32 0), (.int .u32 0), (.int .u32 0), (.int .u32 0), (.int .u32 0), (.int .u32 0)])⟩]) (.seq (.reg [⟨(some 5), none, (.mv (.const (.int .u64 0)))⟩]) (.seq (.seq (.reg [⟨(some 8), none, (.mv (.const (.int .i64 0)))⟩]) (.block 0 (.loop (.seq (.reg [⟨(some 9), none, (.bin .lss (.tmp 8) (.const (.int .i64 6)))⟩]) (.seq (.cond (.tmp 9) .skip (.exit 0)) (.seq (.block 1 (.seq (.reg [⟨(some 10), none, (.mv (.tmp 8))⟩, ⟨(some 6), none, (.mv (.tmp 10))⟩]) (.seq (.dreg 0 [⟨0, ⟨(some 11), none, (.mv (.tmp 6))⟩, [], []⟩, ⟨1, ⟨(some 12), none, (.iarr 6 1 (.tmp 2) (.tmp 11))⟩, [0], []⟩, ⟨2, ⟨(some 13), none, (.load false 1 (.tmp 12))⟩, [1, 0], []⟩, ⟨3, ⟨(some 14), none, (.conv .u64 (.tmp 13))⟩, [2, 1, 0], []⟩, ⟨4, ⟨(some 15), none, (.mv (.tmp 6))⟩, [], []⟩, ⟨5, ⟨(some 16), none, (.iarr 6 1 (.tmp 3) (.tmp 15))⟩, [4], []⟩, ⟨6, ⟨(some 17), none, (.load false 1 (.tmp 16))⟩, [5, 4], []⟩, ⟨7, ⟨(some 18), none, (.conv .u64 (.tmp 17))⟩, [6, 5, 4], []⟩, ⟨8, ⟨(some 19), none, (.bin .sub (.tmp 14) (.tmp 18))⟩, [3, 7, 2, 1, 0, 6, 5, 4], []⟩, ⟨9, ⟨(some 20), none, (.mv (.tmp 5))⟩, [], []⟩, ⟨10, ⟨(some 21), none, (.bin .sub (.tmp 19) (.tmp 20))⟩, [8, 9, 3, 7, 2, 1, 0, 6, 5, 4], []⟩, ⟨11, ⟨(some 7), none, (.mv (.tmp 21))⟩, [10, 0, 1, 2, 3, 4, 5, 6, 7, 8, 9], []⟩]) (.seq (.reg [⟨(some 22), none, (.mv (.tmp 6))⟩, ⟨(some 23), none, (.mv (.tmp 7))⟩, ⟨(some 24), none, (.conv .u32 (.tmp 23))⟩, ⟨(some 25), none, (.iarr 6 1 (.tmp 2) (.tmp 22))⟩, ⟨none, none, (.store 1 (.tmp 25) (.tmp 24))⟩]) (.reg [⟨(some 26), none, (.mv (.tmp 7))⟩, ⟨(some 27), none, (.bin .shr (.tmp 26) (.const (.int .u64 63)))⟩, ⟨(some 5), none, (.mv (.tmp 27))⟩]))))) (.reg [⟨(some 28), none, (.bin .add (.tmp 8) (.const (.int .i64 1)))⟩, ⟨(some 8), none, (.mv (.tmp 28))⟩]))))))) (.seq (.reg [⟨(some 29), none, (.load true 6 (.tmp 2))⟩, ⟨none, none, (.store 6 (.tmp 4) (.tmp 29))⟩]) .ret)))), 30, [(.cell true 6 4)]⟩
def I_size_times_c (F : FnsA) : LF := ⟨(.seq (.reg [⟨(some 2), none, (.box (.tmp 0))⟩, ⟨(some 3), none, (.box (.tmp 1))⟩, ⟨(some 4), none, (.alloc [(.int .u32 0), (.int .u32 0), (.int .u32 0), (.int .u32 0), (.int .u32 0), (.int .u32 0)])⟩, ⟨(some 5), none, (.mv (.const (.bool false)))⟩]) (.seq (.reg [⟨(some 6), none, (.alloc [(.int .u32 0), (.int .u32 0), (.int .u32 0), (.int .u32 0), (.int .u32 0), (.int .u32 0), (.int .u32 0), (.int .u32 0), (.int .u32 0), (.int .u32 0), (.int .u32 0), (.int .u32 0)])⟩]) (.seq (.seq (.reg [⟨(some 14), none, (.load true 6 (.tmp 2))⟩, ⟨(some 15), none, (.mv (.const (.int .i64 0)))⟩]) (.block 0 (.loop (.seq (.reg [⟨(some 16), none, (.bin .lss (.tmp 15) (.const (.int .i64 6)))⟩]) (.seq (.cond (.tmp 16) .skip (.exit 0)) (.seq (.block 1 (.seq (.reg [⟨(some 17), none, (.mv (.tmp 15))⟩, ⟨(some 18), none, (.aidx false 6 1 (.tmp 14) (.tmp 15))⟩, ⟨(some 7), none, (.mv (.tmp 17))⟩, ⟨(some 8), none, (.mv (.tmp 18))⟩]) (.seq (.reg [⟨(some 9), none, (.mv (.const (.int .u64 0)))⟩]) (.seq (.seq (.reg [⟨(some 19), none, (.load true 6 (.tmp 3))⟩, ⟨(some 20), none, (.mv (.const (.int .i64 0)))⟩]) (.block 2 (.loop (.seq (.reg [⟨(some 21), none, (.bin .lss (.tmp 20) (.const (.int .i64 6)))⟩]) (.seq (.cond (.tmp 21) .skip (.exit 2)) (.seq (.block 3 (.seq (.reg [⟨(some 22), none, (.mv (.tmp 20))⟩, ⟨(some 23), none, (.aidx false 6 1 (.tmp 19) (.tmp 20))⟩, ⟨(some 10), none, (.mv (.tmp 22))⟩, ⟨(some 11), none, (.mv (.tmp 23))⟩]) (.seq (.reg [⟨(some 24), none, (.mv (.tmp 9))⟩, ⟨(some 25), none, (.mv (.tmp 8))⟩, ⟨(some 26), none, (.conv .u64 (.tmp 25))⟩, ⟨(some 27), none, (.mv (.tmp 11))⟩, ⟨(some 28), none, (.conv .u64 (.tmp 27))⟩, ⟨(some 29), none, (.bin .mul (.tmp 26) (.tmp 28))⟩, ⟨(some 30), none, (.mv (.tmp 7))⟩, ⟨(some 31), none, (.mv (.tmp 10))⟩, ⟨(some 32), none, (.bin .add (.tmp 30) (.tmp 31))⟩, ⟨(some 33), none, (.iarr 12 1 (.tmp 6) (.tmp 32))⟩, ⟨(some 34), none, (.load false 1 (.tmp 33))⟩, ⟨(some 35), none, (.conv .u64 (.tmp 34))⟩, ⟨(some 36), none, (.bin .add (.tmp 29) (.tmp 35))⟩, ⟨(some 37), none, (.bin .add (.tmp 24) (.tmp 36))⟩, ⟨(some 9), none, (.mv (.tmp 37))⟩]) (.seq (.reg [⟨(some 38), none, (.mv (.tmp 7))⟩, ⟨(some 39), none, (.mv (.tmp 10))⟩, ⟨(some 40), none, (.bin .add (.tmp 38) (.tmp 39))⟩, ⟨(some 41), none, (.mv (.tmp 9))⟩, ⟨(some 42), none, (.conv .u32 (.tmp 41))⟩, ⟨(some 43), none, (.iarr 12 1 (.tmp 6) (.tmp 40))⟩, ⟨none, none, (.store 1 (.tmp 43) (.tmp 42))⟩]) (.reg [⟨(some 44), none, (.mv (.tmp 9))⟩, ⟨(some 45), none, (.bin .shr (.tmp 44) (.const (.int .u64 32)))⟩, ⟨(some 9), none, (.mv (.tmp 45))⟩]))))) (.reg [⟨(some 46), none, (.bin .add (.tmp 20) (.const (.int .i64 1)))⟩, ⟨(some 20), none, (.mv (.tmp 46))⟩]))))))) (.reg [⟨(some 47), none, (.mv (.tmp 7))⟩, ⟨(some 48), none, (.bin .add (.tmp 47) (.const (.int .i64 6)))⟩, ⟨(some 49), none, (.mv (.tmp 9))⟩, ⟨(some 50), none, (.conv .u32 (.tmp 49))⟩, ⟨(some 51), none, (.iarr 12 1 (.tmp 6) (.tmp 48))⟩, ⟨none, none, (.store 1 (.tmp 51) (.tmp 50))⟩]))))) (.reg [⟨(some 52), none, (.bin .add (.tmp 15) (.const (.int .i64 1)))⟩, ⟨(some 15), none, (.mv (.tmp 52))⟩]))))))) (.seq (.seq (.reg [⟨(some 53), none, (.sarr 12 1 (.tmp 6) (some (.const (.int .i64 6))) none)⟩, ⟨(some 54), none, (.lens (.tmp 53))⟩, ⟨(some 55), none, (.mv (.const (.int .i64 0)))⟩]) (.block 4 (.loop (.seq (.reg [⟨(some 56), none, (.bin .lss (.tmp 55) (.tmp 54))⟩]) (.seq (.cond (.tmp 56) .skip (.exit 4)) (.seq (.block 5 (.seq (.reg [⟨(some 57), none, (.isl 1 (.tmp 53) (.tmp 55))⟩, ⟨(some 58), none, (.load false 1 (.tmp 57))⟩, ⟨(some 13), none, (.mv (.tmp 58))⟩]) (.seq (.reg [⟨(some 59), none, (.mv (.tmp 13))⟩, ⟨(some 60), none, (.bin .neq (.tmp 59) (.const (.int .u32 0)))⟩]) (.cond (.tmp 60) (.seq (.reg [⟨(some 61), none, (.build [(.int .u32 0), (.int .u32 0), (.int .u32 0), (.int .u32 0), (.int .u32 0), (.int .u32 0)] [])⟩, ⟨none, none, (.store 6 (.tmp 4) (.tmp 61))⟩, ⟨(some 5), none, (.mv (.const (.bool true)))⟩]) .ret) .skip)))) (.reg [⟨(some 62), none, (.bin .add (.tmp 55) (.const (.int .i64 1)))⟩, ⟨(some 55), none, (.mv (.tmp 62))⟩]))))))) (.seq (.reg [⟨(some 63), none, (.sarr 12 1 (.tmp 6) none (some (.const (.int .i64 6))))⟩, ⟨(some 64), none, (.s2a 6 1 (.tmp 63))⟩, ⟨(some 65), none, (.load true 6 (.tmp 64))⟩, ⟨none, none, (.store 6 (.tmp 4) (.tmp 65))⟩, ⟨(some 5), none, (.mv (.const (.bool false)))⟩]) .ret))))), 66, [(.cell true 6 4), (.tmp 5)]⟩
def S_CommonWide_c (F : FnsA) : LF := ⟨(.seq (.reg [⟨(some 2), none, (.box (.tmp 0))⟩, ⟨(some 3), none, (.box (.tmp 1))⟩, ⟨(some 4), none, (.alloc [(.bool false), (.int .u32 0), (.int .u32 0), (.int .u32 0), (.int .u32 0), (.int .u32 0), (.int .u32 0)])⟩, ⟨(some 5), none, (.mv (.const (.int .i64 0)))⟩]) (.seq (.seq (.reg [⟨(some 10), none, (.call F.S_l01Ok [(.tmp 2)])⟩, ⟨(some 11), none, (.un .not (.tmp 10))⟩, ⟨(some 12), none, (.mv (.tmp 11))⟩, ⟨(some 13), (some (12, false)), (.call F.S_l01Ok [(.tmp 3)])⟩, ⟨(some 14), (some (12, false)), (.un .not (.tmp 13))⟩, ⟨(some 15), none, (.pick (.tmp 12) (.const (.bool true)) (.tmp 14))⟩]) (.cond (.tmp 15) (.seq (.reg [⟨(some 16), none, (.build [(.bool false), (.int .u32 0), (.int .u32 0), (.int .u32 0), (.int .u32 0), (.int .u32 0), (.int .u32 0)] [])⟩, ⟨none, none, (.store 7 (.tmp 4) (.tmp 16))⟩, ⟨(some 5), none, (.mv (.const (.int .i64 1)))⟩]) .ret) .skip)) (.seq (.reg [⟨(some 17), none, (.fad 1 (.tmp 2))⟩, ⟨(some 18), none, (.load true 6 (.tmp 17))⟩, ⟨(some 6), none, (.alloc [(.int .u32 0), (.int .u32 0), (.int .u32 0), (.int .u32 0), (.int .u32 0), (.int .u32 0)])⟩, ⟨none, none, (.store 6 (.tmp 6) (.tmp 18))⟩]) (.seq (.reg [⟨(some 19), none, (.fad 1 (.tmp 3))⟩, ⟨(some 20), none, (.load true 6 (.tmp 19))⟩, ⟨(some 7), none, (.alloc [(.int .u32 0), (.int .u32 0), (.int .u32 0), (.int .u32 0), (.int .u32 0), (.int .u32 0)])⟩, ⟨none, none, (.store 6 (.tmp 7) (.tmp 20))⟩]) (.seq (.block 0 (.loop (.seq (.seq (.reg [⟨(some 21), none, (.call F.S_l01Zero [(.tmp 7)])⟩, ⟨(some 22), none, (.un .not (.tmp 21))⟩]) (.cond (.tmp 22) .skip (.exit 0))) (.block 1 (.seq (.reg [⟨(some 24), none, (.call F.S_l01DivMag [(.tmp 6), (.tmp 7)])⟩, ⟨(some 23), none, (.mv (.tmp 24))⟩, ⟨(some 25), none, (.ext 0 (.tmp 23))⟩, ⟨(some 26), none, (.ext 1 (.tmp 23))⟩, ⟨(some 8), none, (.alloc [(.int .u32 0), (.int .u32 0), (.int .u32 0), (.int .u32 0), (.int .u32 0), (.int .u32 0)])⟩, ⟨(some 9), none, (.alloc [(.int .u32 0), (.int .u32 0), (.int .u32 0), (.int .u32 0), (.int .u32 0), (.int .u32 0)])⟩, ⟨none, none, (.store 6 (.tmp 8) (.tmp 25))⟩, ⟨none, none, (.store 6 (.tmp 9) (.tmp 26))⟩]) (.seq (.reg [⟨(some 27), none, (.load true 6 (.tmp 7))⟩, ⟨none, none, (.store 6 (.tmp 6) (.tmp 27))⟩]) (.reg [⟨(some 28), none, (.load true 6 (.tmp 9))⟩, ⟨none, none, (.store 6 (.tmp 7) (.tmp 28))⟩]))))))) (.seq (.reg [⟨(some 29), none, (.load true 6 (.tmp 6))⟩, ⟨(some 30), none, (.call F.S_l01Made [(.const (.bool false)), (.tmp 29)])⟩, ⟨none, none, (.store 7 (.tmp 4) (.tmp 30))⟩, ⟨(some 5), none, (.mv (.const (.int .i64 0)))⟩]) .ret)))))), 31, [(.cell true 7 4), (.tmp 5)]⟩
def S_l05Short_c (F : FnsA) : LF := ⟨(.seq (.reg [⟨(some 2), none, (.mv (.const (.slice none 0 0)))⟩]) (.seq (.reg [⟨(some 4), none, (.mv (.tmp 0))⟩, ⟨(some 5), none, (.lens (.tmp 4))⟩, ⟨(some 3), none, (.mv (.tmp 5))⟩]) (.seq (.block 0 (.loop (.seq (.seq (.reg [⟨(some 6), none, (.mv (.tmp 3))⟩, ⟨(some 7), none, (.bin .gtr (.tmp 6) (.const (.int .i64 0)))⟩, ⟨(some 8), none, (.mv (.tmp 7))⟩, ⟨(some 9), (some (8, true)), (.mv (.tmp 0))⟩, ⟨(some 10), (some (8, true)), (.mv (.tmp 3))⟩, ⟨(some 11), (some (8, true)), (.bin .sub (.tmp 10) (.const (.int .i64 1)))⟩, ⟨(some 12), (some (8, true)), (.isl 7 (.tmp 9) (.tmp 11))⟩, ⟨(some 13), (some (8, true)), (.call F.S_l01Sign [(.tmp 12)])⟩, ⟨(some 14), (some (8, true)), (.bin .eql (.tmp 13) (.const (.int .i64 0)))⟩, ⟨(some 15), none, (.pick (.tmp 8) (.tmp 14) (.const (.bool false)))⟩]) (.cond (.tmp 15) .skip (.exit 0))) (.block 1 (.reg [⟨(some 16), none, (.mv (.tmp 3))⟩, ⟨(some 17), none, (.bin .sub (.tmp 16) (.const (.int .i64 1)))⟩, ⟨(some 3), none, (.mv (.tmp 17))⟩]))))) (.seq (.reg [⟨(some 18), none, (.mv (.tmp 0))⟩, ⟨(some 19), none, (.mv (.tmp 3))⟩, ⟨(some 20), none, (.ssl 7 (.tmp 18) none (some (.tmp 19)))⟩, ⟨(some 2), none, (.mv (.tmp 20))⟩]) .ret)))), 21, [(.tmp 2)]⟩
def S_l05Value_c (F : FnsA) : LF := ⟨(.seq (.reg [⟨(some 4), none, (.box (.tmp 1))⟩, ⟨(some 6), none, (.alloc [(.bool false), (.int .u32 0), (.int .u32 0), (.int .u32 0), (.int .u32 0), (.int .u32 0), (.int .u32 0)])⟩, ⟨(some 7), none, (.mv (.const (.int .i64 0)))⟩]) (.seq (.reg [⟨(some 17), none, (.mv (.tmp 0))⟩, ⟨(some 18), none, (.lens (.tmp 17))⟩, ⟨(some 8), none, (.mv (.tmp 18))⟩]) (.seq (.reg [⟨(some 19), none, (.mv (.tmp 0))⟩, ⟨(some 20), none, (.mv (.tmp 8))⟩, ⟨(some 21), none, (.bin .sub (.tmp 20) (.const (.int .i64 1)))⟩, ⟨(some 22), none, (.isl 7 (.tmp 19) (.tmp 21))⟩, ⟨(some 23), none, (.load true 7 (.tmp 22))⟩, ⟨(some 9), none, (.alloc [(.bool false), (.int .u32 0), (.int .u32 0), (.int .u32 0), (.int .u32 0), (.int .u32 0), (.int .u32 0)])⟩, ⟨none, none, (.store 7 (.tmp 9) (.tmp 23))⟩]) (.seq (.seq (.reg [⟨(some 24), none, (.mv (.tmp 8))⟩, ⟨(some 25), none, (.bin .sub (.tmp 24) (.const (.int .i64 2)))⟩, ⟨(some 10), none, (.mv (.tmp 25))⟩]) (.block 0 (.loop (.seq (.seq (.reg [⟨(some 26), none, (.mv (.tmp 10))⟩, ⟨(some 27), none, (.bin .geq (.tmp 26) (.const (.int .i64 0)))⟩]) (.cond (.tmp 27) .skip (.exit 0))) (.seq (.block 1 (.seq (.reg [⟨(some 31), none, (.load true 7 (.tmp 9))⟩, ⟨(some 32), none, (.load true 7 (.tmp 4))⟩, ⟨(some 33), none, (.call F.S_l01Mul [(.tmp 31), (.tmp 32)])⟩, ⟨(some 30), none, (.mv (.tmp 33))⟩, ⟨(some 34), none, (.ext 0 (.tmp 30))⟩, ⟨(some 35), none, (.ext 1 (.tmp 30))⟩, ⟨(some 11), none, (.alloc [(.bool false), (.int .u32 0), (.int .u32 0), (.int .u32 0), (.int .u32 0), (.int .u32 0), (.int .u32 0)])⟩, ⟨none, none, (.store 7 (.tmp 11) (.tmp 34))⟩, ⟨(some 12), none, (.mv (.tmp 35))⟩]) (.seq (.seq (.reg [⟨(some 36), none, (.mv (.tmp 12))⟩, ⟨(some 37), none, (.bin .neq (.tmp 36) (.const (.int .i64 0)))⟩]) (.cond (.tmp 37) (.seq (.reg [⟨(some 38), none, (.build [(.bool false), (.int .u32 0), (.int .u32 0), (.int .u32 0), (.int .u32 0), (.int .u32 0), (.int .u32 0)] [])⟩, ⟨(some 39), none, (.mv (.tmp 12))⟩, ⟨none, none, (.store 7 (.tmp 6) (.tmp 38))⟩, ⟨(some 7), none, (.mv (.tmp 39))⟩]) .ret) .skip)) (.seq (.reg [⟨(some 41), none, (.mv (.tmp 0))⟩, ⟨(some 42), none, (.mv (.tmp 10))⟩, ⟨(some 43), none, (.isl 7 (.tmp 41) (.tmp 42))⟩, ⟨(some 44), none, (.load true 7 (.tmp 43))⟩, ⟨(some 45), none, (.mv (.tmp 2))⟩, ⟨(some 46), none, (.mv (.tmp 8))⟩, ⟨(some 47), none, (.bin .sub (.tmp 46) (.const (.int .i64 1)))⟩, ⟨(some 48), none, (.mv (.tmp 10))⟩, ⟨(some 49), none, (.bin .sub (.tmp 47) (.tmp 48))⟩, ⟨(some 50), none, (.bin .mul (.tmp 45) (.tmp 49))⟩, ⟨(some 51), none, (.call F.S_l02Up [(.tmp 44), (.tmp 50)])⟩, ⟨(some 40), none, (.mv (.tmp 51))⟩, ⟨(some 52), none, (.ext 0 (.tmp 40))⟩, ⟨(some 53), none, (.ext 1 (.tmp 40))⟩, ⟨(some 13), none, (.alloc [(.bool false), (.int .u32 0), (.int .u32 0), (.int .u32 0), (.int .u32 0), (.int .u32 0), (.int .u32 0)])⟩, ⟨none, none, (.store 7 (.tmp 13) (.tmp 52))⟩, ⟨(some 14), none, (.mv (.tmp 53))⟩]) (.seq (.seq (.reg [⟨(some 54), none, (.mv (.tmp 14))⟩, ⟨(some 55), none, (.bin .neq (.tmp 54) (.const (.int .i64 0)))⟩]) (.cond (.tmp 55) (.seq (.reg [⟨(some 56), none, (.build [(.bool false), (.int .u32 0), (.int .u32 0), (.int .u32 0), (.int .u32 0), (.int .u32 0), (.int .u32 0)] [])⟩, ⟨(some 57), none, (.mv (.tmp 14))⟩, ⟨none, none, (.store 7 (.tmp 6) (.tmp 56))⟩, ⟨(some 7), none, (.mv (.tmp 57))⟩]) .ret) .skip)) (.seq (.reg [⟨(some 59), none, (.load true 7 (.tmp 11))⟩, ⟨(some 60), none, (.load true 7 (.tmp 13))⟩, ⟨(some 61), none, (.call F.S_l01Add [(.tmp 59), (.tmp 60)])⟩, ⟨(some 58), none, (.mv (.tmp 61))⟩, ⟨(some 62), none, (.ext 0 (.tmp 58))⟩, ⟨(some 63), none, (.ext 1 (.tmp 58))⟩, ⟨(some 15), none, (.alloc [(.bool false), (.int .u32 0), (.int .u32 0), (.int .u32 0), (.int .u32 0), (.int .u32 0), (.int .u32 0)])⟩, ⟨none, none, (.store 7 (.tmp 15) (.tmp 62))⟩, ⟨(some 16), none, (.mv (.tmp 63))⟩]) (.seq (.seq (.reg [⟨(some 64), none, (.mv (.tmp 16))⟩, ⟨(some 65), none, (.bin .neq (.tmp 64) (.const (.int .i64 0)))⟩]) (.cond (.tmp 65) (.seq (.reg [⟨(some 66), none, (.build [(.bool false), (.int .u32 0), (.int .u32 0), (.int .u32 0), (.int .u32 0), (.int .u32 0), (.int .u32 0)] [])⟩, ⟨(some 67), none, (.mv (.tmp 16))⟩, ⟨none, none, (.store 7 (.tmp 6) (.tmp 66))⟩, ⟨(some 7), none, (.mv (.tmp 67))⟩]) .ret) .skip)) (.reg [⟨(some 68), none, (.load true 7 (.tmp 15))⟩, ⟨none, none, (.store 7 (.tmp 9) (.tmp 68))⟩])))))))) (.reg [⟨(some 28), none, (.mv (.tmp 10))⟩, ⟨(some 29), none, (.bin .sub (.tmp 28) (.const (.int .i64 1)))⟩, ⟨(some 10), none, (.mv (.tmp 29))⟩])))))) (.seq (.reg [⟨(some 69), none, (.load true 7 (.tmp 9))⟩, ⟨none, none, (.store 7 (.tmp 6) (.tmp 69))⟩, ⟨(some 7), none, (.mv (.const (.int .i64 0)))⟩]) .ret))))), 70, [(.cell true 7 6), (.tmp 7)]⟩
def S_l01Sign_c (F : FnsA) : LF := ⟨(.seq (.reg [⟨(some 2), none, (.mv (.const (.int .i64 0)))⟩]) (.seq (.block 0 (.seq (.reg [⟨(some 4), none, (.mv (.tmp 0))⟩, ⟨(some 5), none, (.nilc (.tmp 4))⟩, ⟨(some 6), none, (.fad 0 (.tmp 5))⟩, ⟨(some 7), none, (.load false 1 (.tmp 6))⟩, ⟨(some 3), none, (.mv (.tmp 7))⟩]) (.cond (.tmp 3) (.seq (.reg [⟨(some 2), none, (.mv (.const (.int .i64 (-1))))⟩]) .ret) (.seq (.reg [⟨(some 9), none, (.mv (.tmp 0))⟩, ⟨(some 10), none, (.nilc (.tmp 9))⟩, ⟨(some 11), none, (.fad 1 (.tmp 10))⟩, ⟨(some 12), none, (.load true 6 (.tmp 11))⟩, ⟨(some 13), none, (.build [(.int .u32 0), (.int .u32 0), (.int .u32 0), (.int .u32 0), (.int .u32 0), (.int .u32 0)] [])⟩, ⟨(some 14), none, (.eqs false 6 (.tmp 12) (.tmp 13))⟩, ⟨(some 8), none, (.mv (.tmp 14))⟩]) (.cond (.tmp 8) (.seq (.reg [⟨(some 2), none, (.mv (.const (.int .i64 0)))⟩]) .ret) .skip))))) (.seq (.reg [⟨(some 2), none, (.mv (.const (.int .i64 1)))⟩]) .ret))), 15, [(.tmp 2)]⟩
def I_commonSize_c (F : FnsA) : LF := ⟨(.seq (.reg [⟨(some 2), none, (.box (.tmp 0))⟩, ⟨(some 3), none, (.box (.tmp 1))⟩, ⟨(some 4), none, (.alloc [(.int .u32 0), (.int .u32 0), (.int .u32 0), (.int .u32 0), (.int .u32 0), (.int .u32 0)])⟩]) (.seq (.block 0 (.loop (.seq (.seq (.reg [⟨(some 7), none, (.load true 6 (.tmp 3))⟩, ⟨(some 8), none, (.build [(.int .u32 0), (.int .u32 0), (.int .u32 0), (.int .u32 0), (.int .u32 0), (.int .u32 0)] [])⟩, ⟨(some 9), none, (.eqs true 6 (.tmp 7) (.tmp 8))⟩]) (.cond (.tmp 9) .skip (.exit 0))) (.block 1 (.seq (.reg [⟨(some 11), none, (.load true 6 (.tmp 2))⟩, ⟨(some 12), none, (.load true 6 (.tmp 3))⟩, ⟨(some 13), none, (.call F.I_size_by [(.tmp 11), (.tmp 12)])⟩, ⟨(some 10), none, (.mv (.tmp 13))⟩, ⟨(some 14), none, (.ext 0 (.tmp 10))⟩, ⟨(some 15), none, (.ext 1 (.tmp 10))⟩, ⟨(some 5), none, (.alloc [(.int .u32 0), (.int .u32 0), (.int .u32 0), (.int .u32 0), (.int .u32 0), (.int .u32 0)])⟩, ⟨(some 6), none, (.alloc [(.int .u32 0), (.int .u32 0), (.int .u32 0), (.int .u32 0), (.int .u32 0), (.int .u32 0)])⟩, ⟨none, none, (.store 6 (.tmp 5) (.tmp 14))⟩, ⟨none, none, (.store 6 (.tmp 6) (.tmp 15))⟩]) (.dreg 0 [⟨0, ⟨(some 16), none, (.load true 6 (.tmp 3))⟩, [], []⟩, ⟨1, ⟨(some 17), none, (.load true 6 (.tmp 6))⟩, [], []⟩, ⟨2, ⟨none, none, (.store 6 (.tmp 2) (.tmp 16))⟩, [0], [1]⟩, ⟨3, ⟨none, none, (.store 6 (.tmp 3) (.tmp 17))⟩, [1, 2, 0], []⟩])))))) (.seq (.reg [⟨(some 18), none, (.load true 6 (.tmp 2))⟩, ⟨none, none, (.store 6 (.tmp 4) (.tmp 18))⟩]) .ret))), 19, [(.cell true 6 4)]⟩
def I_size_by_c (F : FnsA) : LF := ⟨(.seq (.reg [⟨(some 2), none, (.box (.tmp 0))⟩, ⟨(some 3), none, (.box (.tmp 1))⟩, ⟨(some 4), none, (.alloc [(.int .u32 0), (.int .u32 0), (.int .u32 0), (.int .u32 0), (.int .u32 0), (.int .u32 0)])⟩, ⟨(some 5), none, (.alloc [(.int .u32 0), (.int .u32 0), (.int .u32 0), (.int .u32 0), (.int .u32 0), (.int .u32 0)])⟩]) (.seq (.reg [⟨(some 16), none, (.load true 6 (.tmp 3))⟩, ⟨(some 17), none, (.call F.I_size_bits [(.tmp 16)])⟩, ⟨(some 18), none, (.bin .add (.tmp 17) (.const (.int .i64 31)))⟩, ⟨(some 19), none, (.bin .quo (.tmp 18) (.const (.int .i64 32)))⟩, ⟨(some 6), none, (.mv (.tmp 19))⟩]) (.seq (.seq (.reg [⟨(some 20), none, (.mv (.tmp 6))⟩, ⟨(some 21), none, (.bin .eql (.tmp 20) (.const (.int .i64 1)))⟩]) (.cond (.tmp 21) (.seq (.reg [⟨(some 23), none, (.load true 6 (.tmp 2))⟩, ⟨(some 24), none, (.iarr 6 1 (.tmp 3) (.const (.int .i64 0)))⟩, ⟨(some 25), none, (.load false 1 (.tmp 24))⟩, ⟨(some 26), none, (.call F.I_size_bySmall [(.tmp 23), (.tmp 25)])⟩, ⟨(some 22), none, (.mv (.tmp 26))⟩, ⟨(some 27), none, (.ext 0 (.tmp 22))⟩, ⟨(some 28), none, (.ext 1 (.tmp 22))⟩, ⟨(some 7), none, (.alloc [(.int .u32 0), (.int .u32 0), (.int .u32 0), (.int .u32 0), (.int .u32 0), (.int .u32 0)])⟩, ⟨none, none, (.store 6 (.tmp 7) (.tmp 27))⟩, ⟨(some 8), none, (.mv (.tmp 28))⟩]) (.seq (.reg [⟨(some 29), none, (.load true 6 (.tmp 7))⟩, ⟨(some 30), none, (.mv (.tmp 8))⟩, ⟨(some 31), none, (.build [(.int .u32 0), (.int .u32 0), (.int .u32 0), (.int .u32 0), (.int .u32 0), (.int .u32 0)] [(0, (1, (.tmp 30)))])⟩, ⟨none, none, (.store 6 (.tmp 4) (.tmp 29))⟩, ⟨none, none, (.store 6 (.tmp 5) (.tmp 31))⟩]) .ret)) .skip)) (.seq (.seq (.reg [⟨(some 32), none, (.load true 6 (.tmp 2))⟩, ⟨(some 33), none, (.load true 6 (.tmp 3))⟩, ⟨(some 34), none, (.call F.I_size_compare [(.tmp 32), (.tmp 33)])⟩, ⟨(some 35), none, (.bin .lss (.tmp 34) (.const (.int .i64 0)))⟩]) (.cond (.tmp 35) (.seq (.dreg 0 [⟨0, ⟨(some 36), none, (.build [(.int .u32 0), (.int .u32 0), (.int .u32 0), (.int .u32 0), (.int .u32 0), (.int .u32 0)] [])⟩, [], []⟩, ⟨1, ⟨(some 37), none, (.load true 6 (.tmp 2))⟩, [], []⟩, ⟨2, ⟨none, none, (.store 6 (.tmp 4) (.tmp 36))⟩, [0], [1]⟩, ⟨3, ⟨none, none, (.store 6 (.tmp 5) (.tmp 37))⟩, [1, 2, 0], []⟩]) .ret) .skip)) (.seq (.reg [⟨(some 38), none, (.mv (.tmp 6))⟩, ⟨(some 39), none, (.bin .sub (.tmp 38) (.const (.int .i64 1)))⟩, ⟨(some 40), none, (.iarr 6 1 (.tmp 3) (.tmp 39))⟩, ⟨(some 41), none, (.load false 1 (.tmp 40))⟩, ⟨(some 42), none, (.call F.X_LeadingZeros32 [(.tmp 41)])⟩, ⟨(some 9), none, (.mv (.tmp 42))⟩]) (.seq (.reg [⟨(some 43), none, (.load true 6 (.tmp 3))⟩, ⟨(some 44), none, (.mv (.tmp 9))⟩, ⟨(some 45), none, (.call F.I_size_up [(.tmp 43), (.tmp 44)])⟩, ⟨(some 10), none, (.alloc [(.int .u32 0), (.int .u32 0), (.int .u32 0), (.int .u32 0), (.int .u32 0), (.int .u32 0)])⟩, ⟨none, none, (.store 6 (.tmp 10) (.tmp 45))⟩]) (.seq (.reg [⟨(some 11), none, (.alloc [(.int .u32 0), (.int .u32 0), (.int .u32 0), (.int .u32 0), (.int .u32 0), (.int .u32 0), (.int .u32 0)])⟩]) (.seq (.reg [⟨(some 46), none, (.load true 6 (.tmp 2))⟩, ⟨(some 47), none, (.mv (.tmp 9))⟩, ⟨(some 48), none, (.call F.I_size_up [(.tmp 46), (.tmp 47)])⟩, ⟨(some 12), none, (.alloc [(.int .u32 0), (.int .u32 0), (.int .u32 0), (.int .u32 0), (.int .u32 0), (.int .u32 0)])⟩, ⟨none, none, (.store 6 (.tmp 12) (.tmp 48))⟩]) (.seq (.dreg 0 [⟨0, ⟨(some 49), none, (.sarr 7 1 (.tmp 11) none none)⟩, [], []⟩, ⟨1, ⟨(some 50), none, (.sarr 6 1 (.tmp 12) none none)⟩, [], []⟩, ⟨2, ⟨(some 51), none, (.cpy 1 (.tmp 49) (.tmp 50))⟩, [0, 1], []⟩]) (.seq (.seq (.reg [⟨(some 52), none, (.mv (.tmp 9))⟩, ⟨(some 53), none, (.bin .gtr (.tmp 52) (.const (.int .i64 0)))⟩]) (.cond (.tmp 53) (.reg [⟨(some 54), none, (.iarr 6 1 (.tmp 2) (.const (.int .i64 5)))⟩, ⟨(some 55), none, (.load false 1 (.tmp 54))⟩, ⟨(some 56), none, (.mv (.tmp 9))⟩, ⟨(some 57), none, (.bin .sub (.const (.int .i64 32)) (.tmp 56))⟩, ⟨(some 58), none, (.bin .shr (.tmp 55) (.tmp 57))⟩, ⟨(some 59), none, (.iarr 7 1 (.tmp 11) (.const (.int .i64 6)))⟩, ⟨none, none, (.store 1 (.tmp 59) (.tmp 58))⟩]) .skip)) (.seq (.reg [⟨(some 60), none, (.build [(.int .u32 0), (.int .u32 0), (.int .u32 0), (.int .u32 0), (.int .u32 0), (.int .u32 0)] [])⟩, ⟨(some 13), none, (.alloc [(.int .u32 0), (.int .u32 0), (.int .u32 0), (.int .u32 0), (.int .u32 0), (.int .u32 0)])⟩, ⟨none, none, (.store 6 (.tmp 13) (.tmp 60))⟩]) (.seq (.seq (.reg [⟨(some 61), none, (.mv (.tmp 6))⟩, ⟨(some 62), none, (.bin .sub (.const (.int .i64 6)) (.tmp 61))⟩, ⟨(some 14), none, (.mv (.tmp 62))⟩]) (.block 0 (.loop (.seq (.seq (.reg [⟨(some 63), none, (.mv (.tmp 14))⟩, ⟨(some 64), none, (.bin .geq (.tmp 63) (.const (.int .i64 0)))⟩]) (.cond (.tmp 64) .skip (.exit 0))) (.seq (.block 1 (.dreg 0 [⟨0, ⟨(some 67), none, (.mv (.tmp 14))⟩, [], []⟩, ⟨1, ⟨(some 68), none, (.mv (.tmp 14))⟩, [], []⟩, ⟨2, ⟨(some 69), none, (.mv (.tmp 14))⟩, [], []⟩, ⟨3, ⟨(some 70), none, (.mv (.tmp 6))⟩, [], []⟩, ⟨4, ⟨(some 71), none, (.bin .add (.tmp 69) (.tmp 70))⟩, [2, 3], []⟩, ⟨5, ⟨(some 72), none, (.bin .add (.tmp 71) (.const (.int .i64 1)))⟩, [4, 2, 3], []⟩, ⟨6, ⟨(some 73), none, (.sarr 7 1 (.tmp 11) (some (.tmp 68)) (some (.tmp 72)))⟩, [1, 5, 4, 2, 3], []⟩, ⟨7, ⟨(some 74), none, (.mv (.tmp 6))⟩, [], []⟩, ⟨8, ⟨(some 75), none, (.sarr 6 1 (.tmp 10) none (some (.tmp 74)))⟩, [7], []⟩, ⟨9, ⟨(some 76), none, (.call F.I_divideStep [(.tmp 73), (.tmp 75)])⟩, [6, 8, 1, 5, 4, 2, 3, 7], []⟩, ⟨10, ⟨(some 77), none, (.iarr 6 1 (.tmp 13) (.tmp 67))⟩, [0, 1, 2, 3, 4, 5, 6, 7, 8, 9], []⟩, ⟨11, ⟨none, none, (.store 1 (.tmp 77) (.tmp 76))⟩, [10, 9, 0, 1, 2, 3, 4, 5, 6, 7, 8], []⟩])) (.reg [⟨(some 65), none, (.mv (.tmp 14))⟩, ⟨(some 66), none, (.bin .sub (.tmp 65) (.const (.int .i64 1)))⟩, ⟨(some 14), none, (.mv (.tmp 66))⟩])))))) (.seq (.reg [⟨(some 78), none, (.build [(.int .u32 0), (.int .u32 0), (.int .u32 0), (.int .u32 0), (.int .u32 0), (.int .u32 0)] [])⟩, ⟨(some 15), none, (.alloc [(.int .u32 0), (.int .u32 0), (.int .u32 0), (.int .u32 0), (.int .u32 0), (.int .u32 0)])⟩, ⟨none, none, (.store 6 (.tmp 15) (.tmp 78))⟩]) (.seq (.dreg 0 [⟨0, ⟨(some 79), none, (.sarr 6 1 (.tmp 15) none none)⟩, [], []⟩, ⟨1, ⟨(some 80), none, (.sarr 7 1 (.tmp 11) none (some (.const (.int .i64 6))))⟩, [], []⟩, ⟨2, ⟨(some 81), none, (.cpy 1 (.tmp 79) (.tmp 80))⟩, [0, 1], []⟩]) (.seq (.dreg 0 [⟨0, ⟨(some 82), none, (.load true 6 (.tmp 13))⟩, [], []⟩, ⟨1, ⟨(some 83), none, (.load true 6 (.tmp 15))⟩, [], []⟩, ⟨2, ⟨(some 84), none, (.mv (.tmp 9))⟩, [], []⟩, ⟨3, ⟨(some 85), none, (.call F.I_size_down [(.tmp 83), (.tmp 84)])⟩, [1, 2], [0]⟩, ⟨4, ⟨none, none, (.store 6 (.tmp 4) (.tmp 82))⟩, [0, 3, 1, 2], []⟩, ⟨5, ⟨none, none, (.store 6 (.tmp 5) (.tmp 85))⟩, [3, 4, 0, 1, 2], []⟩]) .ret))))))))))))))), 86, [(.cell true 6 4), (.cell true 6 5)]⟩
def X_Len32_c (F : FnsA) : LF := ⟨(.seq (.reg [⟨(some 2), none, (.mv (.const (.int .i64 0)))⟩]) (.seq (.seq (.reg [⟨(some 3), none, (.mv (.tmp 0))⟩, ⟨(some 4), none, (.bin .geq (.tmp 3) (.const (.int .u32 65536)))⟩]) (.cond (.tmp 4) (.seq (.reg [⟨(some 5), none, (.mv (.tmp 0))⟩, ⟨(some 6), none, (.bin .shr (.tmp 5) (.const (.int .u64 16)))⟩, ⟨(some 0), none, (.mv (.tmp 6))⟩]) (.reg [⟨(some 2), none, (.mv (.const (.int .i64 16)))⟩])) .skip)) (.seq (.seq (.reg [⟨(some 7), none, (.mv (.tmp 0))⟩, ⟨(some 8), none, (.bin .geq (.tmp 7) (.const (.int .u32 256)))⟩]) (.cond (.tmp 8) (.seq (.reg [⟨(some 9), none, (.mv (.tmp 0))⟩, ⟨(some 10), none, (.bin .shr (.tmp 9) (.const (.int .u64 8)))⟩, ⟨(some 0), none, (.mv (.tmp 10))⟩]) (.reg [⟨(some 11), none, (.mv (.tmp 2))⟩, ⟨(some 12), none, (.bin .add (.tmp 11) (.const (.int .i64 8)))⟩, ⟨(some 2), none, (.mv (.tmp 12))⟩])) .skip)) (.seq (.reg [⟨(some 13), none, (.mv (.tmp 2))⟩, ⟨(some 14), none, (.mv (.tmp 0))⟩, ⟨(some 15), none, (.conv .u8 (.tmp 14))⟩, ⟨(some 16), none, (.sidx (.const (.string ⟨#[0, 1, 2, 2, 3, 3, 3, 3, 4, 4, 4, 4, 4, 4, 4, 4, 5, 5, 5, 5, 5, 5, 5, 5, 5, 5, 5, 5, 5, 5, 5, 5, 6, 6, 6, 6, 6, 6, 6, 6, 6, 6, 6, 6, 6, 6, 6, 6, 6, 6, 6, 6, 6, 6, 6, 6, 6, 6, 6, 6, 6, 6, 6, 6, 7, 7, 7, 7, 7, 7, 7, 7, 7, 7, 7, 7, 7, 7, 7, 7, 7, 7, 7, 7, 7, 7, 7, 7, 7, 7, 7, 7, 7, 7, 7, 7, 7, 7, 7, 7, 7, 7, 7, 7, 7, 7, 7, 7, 7, 7, 7, 7, 7, 7, 7, 7, 7, 7, 7, 7, 7, 7, 7, 7, 7, 7, 7, 7, 8, 8, 8, 8, 8, 8, 8, 8, 8, 8, 8, 8, 8, 8, 8, 8, 8, 8, 8, 8, 8, 8, 8, 8, 8, 8, 8, 8, 8, 8, 8, 8, 8, 8, 8, 8, 8, 8, 8, 8, 8, 8, 8, 8, 8, 8, 8, 8, 8, 8, 8, 8, 8, 8, 8, 8, 8, 8, 8, 8, 8, 8, 8, 8, 8, 8, 8, 8, 8, 8, 8, 8, 8, 8, 8, 8, 8, 8, 8, 8, 8, 8, 8, 8, 8, 8, 8, 8, 8, 8, 8, 8, 8, 8, 8, 8, 8, 8, 8, 8, 8, 8, 8, 8, 8, 8, 8, 8, 8, 8, 8, 8, 8, 8, 8, 8, 8, 8, 8, 8, 8, 8, 8, 8, 8, 8, 8, 8]⟩)) (.tmp 15))⟩, ⟨(some 17), none, (.conv .i64 (.tmp 16))⟩, ⟨(some 18), none, (.bin .add (.tmp 13) (.tmp 17))⟩, ⟨(some 2), none, (.mv (.tmp 18))⟩]) .ret)))), 19, [(.tmp 2)]⟩
def I_trimmed_c (F : FnsA) : LF := ⟨(.seq (.reg [⟨(some 2), none, (.mv (.const (.slice none 0 0)))⟩]) (.seq (.block 0 (.loop (.seq (.seq (.reg [⟨(some 3), none, (.mv (.tmp 0))⟩, ⟨(some 4), none, (.lens (.tmp 3))⟩, ⟨(some 5), none, (.bin .gtr (.tmp 4) (.const (.int .i64 0)))⟩, ⟨(some 6), none, (.mv (.tmp 5))⟩, ⟨(some 7), (some (6, true)), (.mv (.tmp 0))⟩, ⟨(some 8), (some (6, true)), (.mv (.tmp 0))⟩, ⟨(some 9), (some (6, true)), (.lens (.tmp 8))⟩, ⟨(some 10), (some (6, true)), (.bin .sub (.tmp 9) (.const (.int .i64 1)))⟩, ⟨(some 11), (some (6, true)), (.isl 7 (.tmp 7) (.tmp 10))⟩, ⟨(some 12), (some (6, true)), (.load true 7 (.tmp 11))⟩, ⟨(some 13), (some (6, true)), (.call F.I_sign [(.tmp 12)])⟩, ⟨(some 14), (some (6, true)), (.bin .eql (.tmp 13) (.const (.int .i64 0)))⟩, ⟨(some 15), none, (.pick (.tmp 6) (.tmp 14) (.const (.bool false)))⟩]) (.cond (.tmp 15) .skip (.exit 0))) (.block 1 (.reg [⟨(some 16), none, (.mv (.tmp 0))⟩, ⟨(some 17), none, (.mv (.tmp 0))⟩, ⟨(some 18), none, (.lens (.tmp 17))⟩, ⟨(some 19), none, (.bin .sub (.tmp 18) (.const (.int .i64 1)))⟩, ⟨(some 20), none, (.ssl 7 (.tmp 16) none (some (.tmp 19)))⟩, ⟨(some 0), none, (.mv (.tmp 20))⟩]))))) (.seq (.reg [⟨(some 21), none, (.mv (.tmp 0))⟩, ⟨(some 2), none, (.mv (.tmp 21))⟩]) .ret))), 22, [(.tmp 2)]⟩
def X_Clone_Wide_c (F : FnsA) : LF := ⟨(.seq (.reg [⟨(some 2), none, (.mv (.const (.slice none 0 0)))⟩]) (.seq (.seq (.reg [⟨(some 3), none, (.mv (.tmp 0))⟩, ⟨(some 4), none, (.snil false (.tmp 3))⟩]) (.cond (.tmp 4) (.seq (.reg [⟨(some 2), none, (.mv (.const (.slice none 0 0)))⟩]) .ret) .skip)) (.seq (.reg [⟨(some 5), none, (.bsl 7 0 [(.bool false), (.int .u32 0), (.int .u32 0), (.int .u32 0), (.int .u32 0), (.int .u32 0), (.int .u32 0)] [])⟩, ⟨(some 6), none, (.mv (.tmp 0))⟩, ⟨(some 7), none, (.app 7 28 (.tmp 5) (.tmp 6))⟩, ⟨(some 2), none, (.mv (.tmp 7))⟩]) .ret))), 8, [(.tmp 2)]⟩
def I_calc_sub_c (F : FnsA) : LF := ⟨(.seq (.reg [⟨(some 4), none, (.box (.tmp 1))⟩, ⟨(some 5), none, (.box (.tmp 2))⟩, ⟨(some 6), none, (.alloc [(.bool false), (.int .u32 0), (.int .u32 0), (.int .u32 0), (.int .u32 0), (.int .u32 0), (.int .u32 0)])⟩]) (.seq (.dreg 0 [⟨0, ⟨(some 7), none, (.mv (.tmp 0))⟩, [], []⟩, ⟨1, ⟨(some 8), none, (.load true 7 (.tmp 4))⟩, [], []⟩, ⟨2, ⟨(some 9), none, (.load true 7 (.tmp 5))⟩, [], []⟩, ⟨3, ⟨(some 10), none, (.call F.I_opposite [(.tmp 9)])⟩, [2], [1]⟩, ⟨4, ⟨(some 11), none, (.call F.I_calc_add [(.tmp 7), (.tmp 8), (.tmp 10)])⟩, [0, 1, 3, 2], []⟩, ⟨5, ⟨none, none, (.store 7 (.tmp 6) (.tmp 11))⟩, [4, 0, 1, 2, 3], []⟩]) .ret)), 12, [(.cell true 7 6)]⟩
def I_sign_c (F : FnsA) : LF := ⟨(.seq (.reg [⟨(some 1), none, (.box (.tmp 0))⟩, ⟨(some 2), none, (.mv (.const (.int .i64 0)))⟩]) (.seq (.block 0 (.seq (.reg [⟨(some 4), none, (.fad 0 (.tmp 1))⟩, ⟨(some 5), none, (.load false 1 (.tmp 4))⟩, ⟨(some 3), none, (.mv (.tmp 5))⟩]) (.cond (.tmp 3) (.seq (.reg [⟨(some 2), none, (.mv (.const (.int .i64 (-1))))⟩]) .ret) (.seq (.reg [⟨(some 7), none, (.fad 1 (.tmp 1))⟩, ⟨(some 8), none, (.load true 6 (.tmp 7))⟩, ⟨(some 9), none, (.build [(.int .u32 0), (.int .u32 0), (.int .u32 0), (.int .u32 0), (.int .u32 0), (.int .u32 0)] [])⟩, ⟨(some 10), none, (.eqs false 6 (.tmp 8) (.tmp 9))⟩, ⟨(some 6), none, (.mv (.tmp 10))⟩]) (.cond (.tmp 6) (.seq (.reg [⟨(some 2), none, (.mv (.const (.int .i64 0)))⟩]) .ret) .skip))))) (.seq (.reg [⟨(some 2), none, (.mv (.const (.int .i64 1)))⟩]) .ret))), 11, [(.tmp 2)]⟩
def I_calc_valueAt_c (F : FnsA) : LF := ⟨(.seq (.reg [⟨(some 6), none, (.box (.tmp 2))⟩, ⟨(some 8), none, (.alloc [(.bool false), (.int .u32 0), (.int .u32 0), (.int .u32 0), (.int .u32 0), (.int .u32 0), (.int .u32 0)])⟩]) (.seq (.reg [⟨(some 12), none, (.mv (.tmp 1))⟩, ⟨(some 13), none, (.lens (.tmp 12))⟩, ⟨(some 14), none, (.bin .sub (.tmp 13) (.const (.int .i64 1)))⟩, ⟨(some 9), none, (.mv (.tmp 14))⟩]) (.seq (.reg [⟨(some 15), none, (.mv (.tmp 1))⟩, ⟨(some 16), none, (.mv (.tmp 9))⟩, ⟨(some 17), none, (.isl 7 (.tmp 15) (.tmp 16))⟩, ⟨(some 18), none, (.load true 7 (.tmp 17))⟩, ⟨(some 10), none, (.alloc [(.bool false), (.int .u32 0), (.int .u32 0), (.int .u32 0), (.int .u32 0), (.int .u32 0), (.int .u32 0)])⟩, ⟨none, none, (.store 7 (.tmp 10) (.tmp 18))⟩]) (.seq (.seq (.reg [⟨(some 19), none, (.mv (.tmp 9))⟩, ⟨(some 20), none, (.bin .sub (.tmp 19) (.const (.int .i64 1)))⟩, ⟨(some 11), none, (.mv (.tmp 20))⟩]) (.block 0 (.loop (.seq (.seq (.reg [⟨(some 21), none, (.mv (.tmp 11))⟩, ⟨(some 22), none, (.bin .geq (.tmp 21) (.const (.int .i64 0)))⟩]) (.cond (.tmp 22) .skip (.exit 0))) (.seq (.block 1 (.dreg 0 [⟨0, ⟨(some 25), none, (.mv (.tmp 0))⟩, [], []⟩, ⟨1, ⟨(some 26), none, (.mv (.tmp 0))⟩, [], []⟩, ⟨2, ⟨(some 27), none, (.load true 7 (.tmp 10))⟩, [], []⟩, ⟨3, ⟨(some 28), none, (.load true 7 (.tmp 6))⟩, [], []⟩, ⟨5, ⟨(some 30), none, (.mv (.tmp 0))⟩, [], []⟩, ⟨6, ⟨(some 31), none, (.mv (.tmp 1))⟩, [], []⟩, ⟨7, ⟨(some 32), none, (.mv (.tmp 11))⟩, [], []⟩, ⟨8, ⟨(some 33), none, (.isl 7 (.tmp 31) (.tmp 32))⟩, [6, 7], []⟩, ⟨9, ⟨(some 34), none, (.load true 7 (.tmp 33))⟩, [8, 6, 7], []⟩, ⟨10, ⟨(some 35), none, (.mv (.tmp 3))⟩, [], []⟩, ⟨11, ⟨(some 36), none, (.mv (.tmp 9))⟩, [], []⟩, ⟨12, ⟨(some 37), none, (.mv (.tmp 11))⟩, [], []⟩, ⟨13, ⟨(some 38), none, (.bin .sub (.tmp 36) (.tmp 37))⟩, [11, 12], []⟩, ⟨14, ⟨(some 39), none, (.bin .mul (.tmp 35) (.tmp 38))⟩, [10, 13, 11, 12], []⟩, ⟨4, ⟨(some 29), none, (.call F.I_calc_mul [(.tmp 26), (.tmp 27), (.tmp 28)])⟩, [1, 2, 3], [9]⟩, ⟨15, ⟨(some 40), none, (.call F.I_calc_up [(.tmp 30), (.tmp 34), (.tmp 39)])⟩, [5, 9, 14, 4, 8, 6, 7, 10, 13, 11, 12, 1, 2, 3], []⟩, ⟨16, ⟨(some 41), none, (.call F.I_calc_add [(.tmp 25), (.tmp 29), (.tmp 40)])⟩, [0, 4, 15, 1, 2, 3, 5, 9, 14, 8, 6, 7, 10, 13, 11, 12], []⟩, ⟨17, ⟨none, none, (.store 7 (.tmp 10) (.tmp 41))⟩, [16, 0, 1, 2, 3, 4, 5, 6, 7, 8, 9, 10, 11, 12, 13, 14, 15], []⟩])) (.reg [⟨(some 23), none, (.mv (.tmp 11))⟩, ⟨(some 24), none, (.bin .sub (.tmp 23) (.const (.int .i64 1)))⟩, ⟨(some 11), none, (.mv (.tmp 24))⟩])))))) (.seq (.reg [⟨(some 42), none, (.load true 7 (.tmp 10))⟩, ⟨none, none, (.store 7 (.tmp 8) (.tmp 42))⟩]) .ret))))), 43, [(.cell true 7 8)]⟩
def S_l01DivMag_c (F : FnsA) : LF := ⟨(.seq (.reg [⟨(some 4), none, (.alloc [(.int .u32 0), (.int .u32 0), (.int .u32 0), (.int .u32 0), (.int .u32 0), (.int .u32 0)])⟩, ⟨(some 5), none, (.alloc [(.int .u32 0), (.int .u32 0), (.int .u32 0), (.int .u32 0), (.int .u32 0), (.int .u32 0)])⟩]) (.seq (.reg [⟨(some 11), none, (.build [(.int .u32 0), (.int .u32 0), (.int .u32 0), (.int .u32 0), (.int .u32 0), (.int .u32 0)] [])⟩, ⟨(some 6), none, (.alloc [(.int .u32 0), (.int .u32 0), (.int .u32 0), (.int .u32 0), (.int .u32 0), (.int .u32 0)])⟩, ⟨none, none, (.store 6 (.tmp 6) (.tmp 11))⟩]) (.seq (.reg [⟨(some 12), none, (.build [(.int .u32 0), (.int .u32 0), (.int .u32 0), (.int .u32 0), (.int .u32 0), (.int .u32 0)] [])⟩, ⟨(some 7), none, (.alloc [(.int .u32 0), (.int .u32 0), (.int .u32 0), (.int .u32 0), (.int .u32 0), (.int .u32 0)])⟩, ⟨none, none, (.store 6 (.tmp 7) (.tmp 12))⟩]) (.seq (.seq (.reg [⟨(some 13), none, (.mv (.tmp 0))⟩, ⟨(some 14), none, (.call F.S_l01Bits [(.tmp 13)])⟩, ⟨(some 15), none, (.bin .sub (.tmp 14) (.const (.int .i64 1)))⟩, ⟨(some 8), none, (.mv (.tmp 15))⟩]) (.block 0 (.loop (.seq (.seq (.reg [⟨(some 16), none, (.mv (.tmp 8))⟩, ⟨(some 17), none, (.bin .geq (.tmp 16) (.const (.int .i64 0)))⟩]) (.cond (.tmp 17) .skip (.exit 0))) (.seq (.block 1 (.seq (.reg [⟨(some 20), none, (.iarr 6 1 (.tmp 7) (.const (.int .i64 5)))⟩, ⟨(some 21), none, (.load false 1 (.tmp 20))⟩, ⟨(some 22), none, (.bin .shr (.tmp 21) (.const (.int .u64 31)))⟩, ⟨(some 9), none, (.mv (.tmp 22))⟩]) (.seq (.seq (.reg [⟨(some 10), none, (.mv (.const (.int .i64 5)))⟩]) (.block 2 (.loop (.seq (.seq (.reg [⟨(some 23), none, (.mv (.tmp 10))⟩, ⟨(some 24), none, (.bin .gtr (.tmp 23) (.const (.int .i64 0)))⟩]) (.cond (.tmp 24) .skip (.exit 2))) (.seq (.block 3 (.dreg 0 [⟨0, ⟨(some 27), none, (.mv (.tmp 10))⟩, [], []⟩, ⟨1, ⟨(some 28), none, (.mv (.tmp 10))⟩, [], []⟩, ⟨2, ⟨(some 29), none, (.iarr 6 1 (.tmp 7) (.tmp 28))⟩, [1], []⟩, ⟨3, ⟨(some 30), none, (.load false 1 (.tmp 29))⟩, [2, 1], []⟩, ⟨4, ⟨(some 31), none, (.bin .shl (.tmp 30) (.const (.int .u64 1)))⟩, [3, 2, 1], []⟩, ⟨5, ⟨(some 32), none, (.mv (.tmp 10))⟩, [], []⟩, ⟨6, ⟨(some 33), none, (.bin .sub (.tmp 32) (.const (.int .i64 1)))⟩, [5], []⟩, ⟨7, ⟨(some 34), none, (.iarr 6 1 (.tmp 7) (.tmp 33))⟩, [6, 5], []⟩, ⟨8, ⟨(some 35), none, (.load false 1 (.tmp 34))⟩, [7, 6, 5], []⟩, ⟨9, ⟨(some 36), none, (.bin .shr (.tmp 35) (.const (.int .u64 31)))⟩, [8, 7, 6, 5], []⟩, ⟨10, ⟨(some 37), none, (.bin .or (.tmp 31) (.tmp 36))⟩, [4, 9, 3, 2, 1, 8, 7, 6, 5], []⟩, ⟨11, ⟨(some 38), none, (.iarr 6 1 (.tmp 7) (.tmp 27))⟩, [0, 1, 2, 3, 4, 5, 6, 7, 8, 9, 10], []⟩, ⟨12, ⟨none, none, (.store 1 (.tmp 38) (.tmp 37))⟩, [11, 10, 0, 1, 2, 3, 4, 5, 6, 7, 8, 9], []⟩])) (.reg [⟨(some 25), none, (.mv (.tmp 10))⟩, ⟨(some 26), none, (.bin .sub (.tmp 25) (.const (.int .i64 1)))⟩, ⟨(some 10), none, (.mv (.tmp 26))⟩])))))) (.seq (.dreg 0 [⟨0, ⟨(some 39), none, (.iarr 6 1 (.tmp 7) (.const (.int .i64 0)))⟩, [], []⟩, ⟨1, ⟨(some 40), none, (.load false 1 (.tmp 39))⟩, [0], []⟩, ⟨2, ⟨(some 41), none, (.bin .shl (.tmp 40) (.const (.int .u64 1)))⟩, [1, 0], []⟩, ⟨3, ⟨(some 42), none, (.mv (.tmp 0))⟩, [], []⟩, ⟨4, ⟨(some 43), none, (.mv (.tmp 8))⟩, [], []⟩, ⟨5, ⟨(some 44), none, (.bin .quo (.tmp 43) (.const (.int .i64 32)))⟩, [4], []⟩, ⟨6, ⟨(some 45), none, (.nilc (.tmp 42))⟩, [3], []⟩, ⟨7, ⟨(some 46), none, (.iarr 6 1 (.tmp 45) (.tmp 44))⟩, [6, 5, 3, 4], []⟩, ⟨8, ⟨(some 47), none, (.load false 1 (.tmp 46))⟩, [7, 6, 5, 3, 4], []⟩, ⟨9, ⟨(some 48), none, (.mv (.tmp 8))⟩, [], []⟩, ⟨10, ⟨(some 49), none, (.bin .rem (.tmp 48) (.const (.int .i64 32)))⟩, [9], []⟩, ⟨11, ⟨(some 50), none, (.conv .u64 (.tmp 49))⟩, [10, 9], []⟩, ⟨12, ⟨(some 51), none, (.bin .shr (.tmp 47) (.tmp 50))⟩, [8, 11, 7, 6, 5, 3, 4, 10, 9], []⟩, ⟨13, ⟨(some 52), none, (.bin .and (.tmp 51) (.const (.int .u32 1)))⟩, [12, 8, 11, 7, 6, 5, 3, 4, 10, 9], []⟩, ⟨14, ⟨(some 53), none, (.bin .or (.tmp 41) (.tmp 52))⟩, [2, 13, 1, 0, 12, 8, 11, 7, 6, 5, 3, 4, 10, 9], []⟩, ⟨15, ⟨(some 54), none, (.iarr 6 1 (.tmp 7) (.const (.int .i64 0)))⟩, [0, 1, 2, 3, 4, 5, 6, 7, 8, 9, 10, 11, 12, 13, 14], []⟩, ⟨16, ⟨none, none, (.store 1 (.tmp 54) (.tmp 53))⟩, [15, 14, 0, 1, 2, 3, 4, 5, 6, 7, 8, 9, 10, 11, 12, 13], []⟩]) (.seq (.reg [⟨(some 55), none, (.mv (.tmp 9))⟩, ⟨(some 56), none, (.bin .eql (.tmp 55) (.const (.int .u32 1)))⟩, ⟨(some 57), none, (.mv (.tmp 56))⟩, ⟨(some 58), (some (57, false)), (.mv (.tmp 1))⟩, ⟨(some 59), (some (57, false)), (.call F.S_l01Cmp [(.tmp 7), (.tmp 58)])⟩, ⟨(some 60), (some (57, false)), (.bin .geq (.tmp 59) (.const (.int .i64 0)))⟩, ⟨(some 61), none, (.pick (.tmp 57) (.const (.bool true)) (.tmp 60))⟩]) (.cond (.tmp 61) (.seq (.reg [⟨(some 62), none, (.mv (.tmp 1))⟩, ⟨(some 63), none, (.call F.S_l01Minus [(.tmp 7), (.tmp 62)])⟩, ⟨none, none, (.store 6 (.tmp 7) (.tmp 63))⟩]) (.reg [⟨(some 64), none, (.mv (.tmp 8))⟩, ⟨(some 65), none, (.bin .quo (.tmp 64) (.const (.int .i64 32)))⟩, ⟨(some 66), none, (.iarr 6 1 (.tmp 6) (.tmp 65))⟩, ⟨(some 67), none, (.load false 1 (.tmp 66))⟩, ⟨(some 68), none, (.mv (.tmp 8))⟩, ⟨(some 69), none, (.bin .rem (.tmp 68) (.const (.int .i64 32)))⟩, ⟨(some 70), none, (.conv .u64 (.tmp 69))⟩, ⟨(some 71), none, (.bin .shl (.const (.int .u32 1)) (.tmp 70))⟩, ⟨(some 72), none, (.bin .or (.tmp 67) (.tmp 71))⟩, ⟨(some 73), none, (.iarr 6 1 (.tmp 6) (.tmp 65))⟩, ⟨none, none, (.store 1 (.tmp 73) (.tmp 72))⟩])) .skip)))))) (.reg [⟨(some 18), none, (.mv (.tmp 8))⟩, ⟨(some 19), none, (.bin .sub (.tmp 18) (.const (.int .i64 1)))⟩, ⟨(some 8), none, (.mv (.tmp 19))⟩])))))) (.seq (.dreg 0 [⟨0, ⟨(some 74), none, (.load true 6 (.tmp 6))⟩, [], []⟩, ⟨1, ⟨(some 75), none, (.load true 6 (.tmp 7))⟩, [], []⟩, ⟨2, ⟨none, none, (.store 6 (.tmp 4) (.tmp 74))⟩, [0], [1]⟩, ⟨3, ⟨none, none, (.store 6 (.tmp 5) (.tmp 75))⟩, [1, 2, 0], []⟩]) .ret))))), 76, [(.cell true 6 4), (.cell true 6 5)]⟩
def I_size_down_c (F : FnsA) : LF := ⟨(.seq (.reg [⟨(some 2), none, (.box (.tmp 0))⟩, ⟨(some 4), none, (.alloc [(.int .u32 0), (.int .u32 0), (.int .u32 0), (.int .u32 0), (.int .u32 0), (.int .u32 0)])⟩]) (.seq (.reg [⟨(some 9), none, (.build [(.int .u32 0), (.int .u32 0), (.int .u32 0), (.int .u32 0), (.int .u32 0), (.int .u32 0)] [])⟩, ⟨(some 5), none, (.alloc [(.int .u32 0), (.int .u32 0), (.int .u32 0), (.int .u32 0), (.int .u32 0), (.int .u32 0)])⟩, ⟨none, none, (.store 6 (.tmp 5) (.tmp 9))⟩]) (.seq (.reg [⟨(some 10), none, (.mv (.tmp 1))⟩, ⟨(some 11), none, (.bin .quo (.tmp 10) (.const (.int .i64 32)))⟩, ⟨(some 12), none, (.mv (.tmp 1))⟩, ⟨(some 13), none, (.bin .rem (.tmp 12) (.const (.int .i64 32)))⟩, ⟨(some 6), none, (.mv (.tmp 11))⟩, ⟨(some 7), none, (.mv (.tmp 13))⟩]) (.seq (.seq (.reg [⟨(some 8), none, (.mv (.const (.int .i64 0)))⟩]) (.block 0 (.loop (.seq (.seq (.reg [⟨(some 14), none, (.mv (.tmp 8))⟩, ⟨(some 15), none, (.mv (.tmp 6))⟩, ⟨(some 16), none, (.bin .add (.tmp 14) (.tmp 15))⟩, ⟨(some 17), none, (.bin .lss (.tmp 16) (.const (.int .i64 6)))⟩]) (.cond (.tmp 17) .skip (.exit 0))) (.seq (.block 1 (.seq (.reg [⟨(some 20), none, (.mv (.tmp 8))⟩, ⟨(some 21), none, (.mv (.tmp 8))⟩, ⟨(some 22), none, (.mv (.tmp 6))⟩, ⟨(some 23), none, (.bin .add (.tmp 21) (.tmp 22))⟩, ⟨(some 24), none, (.iarr 6 1 (.tmp 2) (.tmp 23))⟩, ⟨(some 25), none, (.load false 1 (.tmp 24))⟩, ⟨(some 26), none, (.mv (.tmp 7))⟩, ⟨(some 27), none, (.bin .shr (.tmp 25) (.tmp 26))⟩, ⟨(some 28), none, (.iarr 6 1 (.tmp 5) (.tmp 20))⟩, ⟨none, none, (.store 1 (.tmp 28) (.tmp 27))⟩]) (.seq (.reg [⟨(some 29), none, (.mv (.tmp 7))⟩, ⟨(some 30), none, (.bin .gtr (.tmp 29) (.const (.int .i64 0)))⟩, ⟨(some 31), none, (.mv (.tmp 30))⟩, ⟨(some 32), (some (31, true)), (.mv (.tmp 8))⟩, ⟨(some 33), (some (31, true)), (.mv (.tmp 6))⟩, ⟨(some 34), (some (31, true)), (.bin .add (.tmp 32) (.tmp 33))⟩, ⟨(some 35), (some (31, true)), (.bin .add (.tmp 34) (.const (.int .i64 1)))⟩, ⟨(some 36), (some (31, true)), (.bin .lss (.tmp 35) (.const (.int .i64 6)))⟩, ⟨(some 37), none, (.pick (.tmp 31) (.tmp 36) (.const (.bool false)))⟩]) (.cond (.tmp 37) (.dreg 0 [⟨0, ⟨(some 38), none, (.mv (.tmp 8))⟩, [], []⟩, ⟨1, ⟨(some 39), none, (.iarr 6 1 (.tmp 5) (.tmp 38))⟩, [0], []⟩, ⟨2, ⟨(some 40), none, (.load false 1 (.tmp 39))⟩, [1, 0], []⟩, ⟨3, ⟨(some 41), none, (.mv (.tmp 8))⟩, [], []⟩, ⟨4, ⟨(some 42), none, (.mv (.tmp 6))⟩, [], []⟩, ⟨5, ⟨(some 43), none, (.bin .add (.tmp 41) (.tmp 42))⟩, [3, 4], []⟩, ⟨6, ⟨(some 44), none, (.bin .add (.tmp 43) (.const (.int .i64 1)))⟩, [5, 3, 4], []⟩, ⟨7, ⟨(some 45), none, (.iarr 6 1 (.tmp 2) (.tmp 44))⟩, [6, 5, 3, 4], []⟩, ⟨8, ⟨(some 46), none, (.load false 1 (.tmp 45))⟩, [7, 6, 5, 3, 4], []⟩, ⟨9, ⟨(some 47), none, (.mv (.tmp 7))⟩, [], []⟩, ⟨10, ⟨(some 48), none, (.bin .sub (.const (.int .i64 32)) (.tmp 47))⟩, [9], []⟩, ⟨11, ⟨(some 49), none, (.bin .shl (.tmp 46) (.tmp 48))⟩, [8, 10, 7, 6, 5, 3, 4, 9], []⟩, ⟨12, ⟨(some 50), none, (.bin .or (.tmp 40) (.tmp 49))⟩, [2, 11, 1, 0, 8, 10, 7, 6, 5, 3, 4, 9], []⟩, ⟨13, ⟨(some 51), none, (.iarr 6 1 (.tmp 5) (.tmp 38))⟩, [0, 1, 2, 3, 4, 5, 6, 7, 8, 9, 10, 11, 12], []⟩, ⟨14, ⟨none, none, (.store 1 (.tmp 51) (.tmp 50))⟩, [13, 12, 0, 1, 2, 3, 4, 5, 6, 7, 8, 9, 10, 11], []⟩]) .skip)))) (.reg [⟨(some 18), none, (.mv (.tmp 8))⟩, ⟨(some 19), none, (.bin .add (.tmp 18) (.const (.int .i64 1)))⟩, ⟨(some 8), none, (.mv (.tmp 19))⟩])))))) (.seq (.reg [⟨(some 52), none, (.load true 6 (.tmp 5))⟩, ⟨none, none, (.store 6 (.tmp 4) (.tmp 52))⟩]) .ret))))), 53, [(.cell true 6 4)]⟩
def S_l02Up_c (F : FnsA) : LF := ⟨(.seq (.reg [⟨(some 2), none, (.box (.tmp 0))⟩, ⟨(some 4), none, (.alloc [(.bool false), (.int .u32 0), (.int .u32 0), (.int .u32 0), (.int .u32 0), (.int .u32 0), (.int .u32 0)])⟩, ⟨(some 5), none, (.mv (.const (.int .i64 0)))⟩]) (.seq (.seq (.reg [⟨(some 6), none, (.mv (.tmp 1))⟩, ⟨(some 7), none, (.bin .gtr (.tmp 6) (.const (.int .i64 191)))⟩]) (.cond (.tmp 7) (.seq (.reg [⟨(some 8), none, (.build [(.bool false), (.int .u32 0), (.int .u32 0), (.int .u32 0), (.int .u32 0), (.int .u32 0), (.int .u32 0)] [])⟩, ⟨none, none, (.store 7 (.tmp 4) (.tmp 8))⟩, ⟨(some 5), none, (.mv (.const (.int .i64 3)))⟩]) .ret) .skip)) (.seq (.reg [⟨(some 9), none, (.load true 7 (.tmp 2))⟩, ⟨(some 10), none, (.mv (.tmp 1))⟩, ⟨(some 11), none, (.call F.S_l01Up [(.tmp 9), (.tmp 10)])⟩, ⟨(some 12), none, (.ext 0 (.tmp 11))⟩, ⟨(some 13), none, (.ext 1 (.tmp 11))⟩, ⟨none, none, (.store 7 (.tmp 4) (.tmp 12))⟩, ⟨(some 5), none, (.mv (.tmp 13))⟩]) .ret))), 14, [(.cell true 7 4), (.tmp 5)]⟩
def I_size_bySmall_c (F : FnsA) : LF := ⟨(.seq (.reg [⟨(some 2), none, (.box (.tmp 0))⟩, ⟨(some 4), none, (.alloc [(.int .u32 0), (.int .u32 0), (.int .u32 0), (.int .u32 0), (.int .u32 0), (.int .u32 0)])⟩, ⟨(some 5), none, (.mv (.const (.int .u32 0)))⟩]) (.seq (.reg [⟨(some 6), none, (.mv (.const (.int .u64 0)))⟩]) (.seq (.seq (.reg [⟨(some 7), none, (.mv (.const (.int .i64 5)))⟩]) (.block 0 (.loop (.seq (.seq (.reg [⟨(some 8), none, (.mv (.tmp 7))⟩, ⟨(some 9), none, (.bin .geq (.tmp 8) (.const (.int .i64 0)))⟩]) (.cond (.tmp 9) .skip (.exit 0))) (.seq (.block 1 (.seq (.reg [⟨(some 12), none, (.mv (.tmp 6))⟩, ⟨(some 13), none, (.bin .shl (.tmp 12) (.const (.int .u64 32)))⟩, ⟨(some 14), none, (.mv (.tmp 7))⟩, ⟨(some 15), none, (.iarr 6 1 (.tmp 2) (.tmp 14))⟩, ⟨(some 16), none, (.load false 1 (.tmp 15))⟩, ⟨(some 17), none, (.conv .u64 (.tmp 16))⟩, ⟨(some 18), none, (.bin .or (.tmp 13) (.tmp 17))⟩, ⟨(some 6), none, (.mv (.tmp 18))⟩]) (.seq (.reg [⟨(some 19), none, (.mv (.tmp 7))⟩, ⟨(some 20), none, (.mv (.tmp 6))⟩, ⟨(some 21), none, (.mv (.tmp 1))⟩, ⟨(some 22), none, (.conv .u64 (.tmp 21))⟩, ⟨(some 23), none, (.bin .quo (.tmp 20) (.tmp 22))⟩, ⟨(some 24), none, (.conv .u32 (.tmp 23))⟩, ⟨(some 25), none, (.iarr 6 1 (.tmp 2) (.tmp 19))⟩, ⟨none, none, (.store 1 (.tmp 25) (.tmp 24))⟩]) (.reg [⟨(some 26), none, (.mv (.tmp 6))⟩, ⟨(some 27), none, (.mv (.tmp 1))⟩, ⟨(some 28), none, (.conv .u64 (.tmp 27))⟩, ⟨(some 29), none, (.bin .rem (.tmp 26) (.tmp 28))⟩, ⟨(some 6), none, (.mv (.tmp 29))⟩])))) (.reg [⟨(some 10), none, (.mv (.tmp 7))⟩, ⟨(some 11), none, (.bin .sub (.tmp 10) (.const (.int .i64 1)))⟩, ⟨(some 7), none, (.mv (.tmp 11))⟩])))))) (.seq (.reg [⟨(some 30), none, (.load true 6 (.tmp 2))⟩, ⟨(some 31), none, (.mv (.tmp 6))⟩, ⟨(some 32), none, (.conv .u32 (.tmp 31))⟩, ⟨none, none, (.store 6 (.tmp 4) (.tmp 30))⟩, ⟨(some 5), none, (.mv (.tmp 32))⟩]) .ret)))), 33, [(.cell true 6 4), (.tmp 5)]⟩
def X_LeadingZeros32_c (F : FnsA) : LF := ⟨(.seq (.reg [⟨(some 2), none, (.mv (.const (.int .i64 0)))⟩]) (.seq (.reg [⟨(some 3), none, (.mv (.tmp 0))⟩, ⟨(some 4), none, (.call F.X_Len32 [(.tmp 3)])⟩, ⟨(some 5), none, (.bin .sub (.const (.int .i64 32)) (.tmp 4))⟩, ⟨(some 2), none, (.mv (.tmp 5))⟩]) .ret)), 6, [(.tmp 2)]⟩
def I_divideStep_c (F : FnsA) : LF := ⟨(.seq (.reg [⟨(some 4), none, (.mv (.const (.int .u32 0)))⟩]) (.seq (.reg [⟨(some 15), none, (.mv (.tmp 1))⟩, ⟨(some 16), none, (.lens (.tmp 15))⟩, ⟨(some 5), none, (.mv (.tmp 16))⟩]) (.seq (.dreg 0 [⟨0, ⟨(some 17), none, (.mv (.tmp 0))⟩, [], []⟩, ⟨1, ⟨(some 18), none, (.mv (.tmp 5))⟩, [], []⟩, ⟨2, ⟨(some 19), none, (.isl 1 (.tmp 17) (.tmp 18))⟩, [0, 1], []⟩, ⟨3, ⟨(some 20), none, (.load false 1 (.tmp 19))⟩, [2, 0, 1], []⟩, ⟨4, ⟨(some 21), none, (.conv .u64 (.tmp 20))⟩, [3, 2, 0, 1], []⟩, ⟨5, ⟨(some 22), none, (.bin .shl (.tmp 21) (.const (.int .u64 32)))⟩, [4, 3, 2, 0, 1], []⟩, ⟨6, ⟨(some 23), none, (.mv (.tmp 0))⟩, [], []⟩, ⟨7, ⟨(some 24), none, (.mv (.tmp 5))⟩, [], []⟩, ⟨8, ⟨(some 25), none, (.bin .sub (.tmp 24) (.const (.int .i64 1)))⟩, [7], []⟩, ⟨9, ⟨(some 26), none, (.isl 1 (.tmp 23) (.tmp 25))⟩, [6, 8, 7], []⟩, ⟨10, ⟨(some 27), none, (.load false 1 (.tmp 26))⟩, [9, 6, 8, 7], []⟩, ⟨11, ⟨(some 28), none, (.conv .u64 (.tmp 27))⟩, [10, 9, 6, 8, 7], []⟩, ⟨12, ⟨(some 29), none, (.bin .or (.tmp 22) (.tmp 28))⟩, [5, 11, 4, 3, 2, 0, 1, 10, 9, 6, 8, 7], []⟩, ⟨13, ⟨(some 6), none, (.mv (.tmp 29))⟩, [12, 0, 1, 2, 3, 4, 5, 6, 7, 8, 9, 10, 11], []⟩]) (.seq (.dreg 0 [⟨0, ⟨(some 30), none, (.mv (.tmp 6))⟩, [], []⟩, ⟨1, ⟨(some 31), none, (.mv (.tmp 1))⟩, [], []⟩, ⟨2, ⟨(some 32), none, (.mv (.tmp 5))⟩, [], []⟩, ⟨3, ⟨(some 33), none, (.bin .sub (.tmp 32) (.const (.int .i64 1)))⟩, [2], []⟩, ⟨4, ⟨(some 34), none, (.isl 1 (.tmp 31) (.tmp 33))⟩, [1, 3, 2], []⟩, ⟨5, ⟨(some 35), none, (.load false 1 (.tmp 34))⟩, [4, 1, 3, 2], []⟩, ⟨6, ⟨(some 36), none, (.conv .u64 (.tmp 35))⟩, [5, 4, 1, 3, 2], []⟩, ⟨7, ⟨(some 37), none, (.bin .quo (.tmp 30) (.tmp 36))⟩, [0, 6, 5, 4, 1, 3, 2], []⟩, ⟨8, ⟨(some 38), none, (.mv (.tmp 6))⟩, [], []⟩, ⟨9, ⟨(some 39), none, (.mv (.tmp 1))⟩, [], []⟩, ⟨10, ⟨(some 40), none, (.mv (.tmp 5))⟩, [], []⟩, ⟨11, ⟨(some 41), none, (.bin .sub (.tmp 40) (.const (.int .i64 1)))⟩, [10], []⟩, ⟨12, ⟨(some 42), none, (.isl 1 (.tmp 39) (.tmp 41))⟩, [9, 11, 10], []⟩, ⟨13, ⟨(some 43), none, (.load false 1 (.tmp 42))⟩, [12, 9, 11, 10], []⟩, ⟨14, ⟨(some 44), none, (.conv .u64 (.tmp 43))⟩, [13, 12, 9, 11, 10], []⟩, ⟨15, ⟨(some 45), none, (.bin .rem (.tmp 38) (.tmp 44))⟩, [8, 14, 13, 12, 9, 11, 10], []⟩, ⟨16, ⟨(some 7), none, (.mv (.tmp 37))⟩, [7, 0, 1, 2, 3, 4, 5, 6], []⟩, ⟨17, ⟨(some 8), none, (.mv (.tmp 45))⟩, [15, 16, 0, 1, 2, 3, 4, 5, 6, 7, 8, 9, 10, 11, 12, 13, 14], []⟩]) (.seq (.block 0 (.loop (.seq (.seq (.dreg 0 [⟨0, ⟨(some 46), none, (.mv (.tmp 7))⟩, [], []⟩, ⟨1, ⟨(some 47), none, (.bin .shr (.tmp 46) (.const (.int .u64 32)))⟩, [0], []⟩, ⟨2, ⟨(some 48), none, (.bin .neq (.tmp 47) (.const (.int .u64 0)))⟩, [1, 0], []⟩, ⟨3, ⟨(some 49), none, (.mv (.tmp 48))⟩, [2, 1, 0], []⟩, ⟨4, ⟨(some 50), (some (49, false)), (.mv (.tmp 7))⟩, [3, 2, 1, 0], []⟩, ⟨5, ⟨(some 51), (some (49, false)), (.mv (.tmp 1))⟩, [3, 2, 1, 0], []⟩, ⟨6, ⟨(some 52), (some (49, false)), (.mv (.tmp 5))⟩, [3, 2, 1, 0], []⟩, ⟨7, ⟨(some 53), (some (49, false)), (.bin .sub (.tmp 52) (.const (.int .i64 2)))⟩, [6, 3, 2, 1, 0], []⟩, ⟨8, ⟨(some 54), (some (49, false)), (.isl 1 (.tmp 51) (.tmp 53))⟩, [5, 7, 3, 2, 1, 0, 6], []⟩, ⟨9, ⟨(some 55), (some (49, false)), (.load false 1 (.tmp 54))⟩, [8, 3, 5, 7, 2, 1, 0, 6], []⟩, ⟨10, ⟨(some 56), (some (49, false)), (.conv .u64 (.tmp 55))⟩, [9, 3, 8, 5, 7, 2, 1, 0, 6], []⟩, ⟨11, ⟨(some 57), (some (49, false)), (.bin .mul (.tmp 50) (.tmp 56))⟩, [4, 10, 3, 2, 1, 0, 9, 8, 5, 7, 6], []⟩, ⟨12, ⟨(some 58), (some (49, false)), (.mv (.tmp 8))⟩, [3, 2, 1, 0], []⟩, ⟨13, ⟨(some 59), (some (49, false)), (.bin .shl (.tmp 58) (.const (.int .u64 32)))⟩, [12, 3, 2, 1, 0], []⟩, ⟨14, ⟨(some 60), (some (49, false)), (.mv (.tmp 0))⟩, [3, 2, 1, 0], []⟩, ⟨15, ⟨(some 61), (some (49, false)), (.mv (.tmp 5))⟩, [3, 2, 1, 0], []⟩, ⟨16, ⟨(some 62), (some (49, false)), (.bin .sub (.tmp 61) (.const (.int .i64 2)))⟩, [15, 3, 2, 1, 0], []⟩, ⟨17, ⟨(some 63), (some (49, false)), (.isl 1 (.tmp 60) (.tmp 62))⟩, [14, 16, 3, 2, 1, 0, 15], []⟩, ⟨18, ⟨(some 64), (some (49, false)), (.load false 1 (.tmp 63))⟩, [17, 3, 14, 16, 2, 1, 0, 15], []⟩, ⟨19, ⟨(some 65), (some (49, false)), (.conv .u64 (.tmp 64))⟩, [18, 3, 17, 14, 16, 2, 1, 0, 15], []⟩, ⟨20, ⟨(some 66), (some (49, false)), (.bin .or (.tmp 59) (.tmp 65))⟩, [13, 19, 3, 12, 2, 1, 0, 18, 17, 14, 16, 15], []⟩, ⟨21, ⟨(some 67), (some (49, false)), (.bin .gtr (.tmp 57) (.tmp 66))⟩, [11, 20, 3, 4, 10, 2, 1, 0, 9, 8, 5, 7, 6, 13, 19, 12, 18, 17, 14, 16, 15], []⟩, ⟨22, ⟨(some 68), none, (.pick (.tmp 49) (.const (.bool true)) (.tmp 67))⟩, [3, 21, 2, 1, 0, 11, 20, 4, 10, 9, 8, 5, 7, 6, 13, 19, 12, 18, 17, 14, 16, 15], []⟩]) (.cond (.tmp 68) .skip (.exit 0))) (.block 1 (.seq (.reg [⟨(some 69), none, (.mv (.tmp 7))⟩, ⟨(some 70), none, (.bin .sub (.tmp 69) (.const (.int .u64 1)))⟩, ⟨(some 7), none, (.mv (.tmp 70))⟩]) (.seq (.reg [⟨(some 71), none, (.mv (.tmp 8))⟩, ⟨(some 72), none, (.mv (.tmp 1))⟩, ⟨(some 73), none, (.mv (.tmp 5))⟩, ⟨(some 74), none, (.bin .sub (.tmp 73) (.const (.int .i64 1)))⟩, ⟨(some 75), none, (.isl 1 (.tmp 72) (.tmp 74))⟩, ⟨(some 76), none, (.load false 1 (.tmp 75))⟩, ⟨(some 77), none, (.conv .u64 (.tmp 76))⟩, ⟨(some 78), none, (.bin .add (.tmp 71) (.tmp 77))⟩, ⟨(some 8), none, (.mv (.tmp 78))⟩]) (.seq (.reg [⟨(some 79), none, (.mv (.tmp 8))⟩, ⟨(some 80), none, (.bin .shr (.tmp 79) (.const (.int .u64 32)))⟩, ⟨(some 81), none, (.bin .neq (.tmp 80) (.const (.int .u64 0)))⟩]) (.cond (.tmp 81) (.exit 0) .skip)))))))) (.seq (.reg [⟨(some 9), none, (.mv (.const (.int .u64 0)))⟩, ⟨(some 10), none, (.mv (.const (.int .u64 0)))⟩]) (.seq (.seq (.reg [⟨(some 82), none, (.mv (.tmp 5))⟩, ⟨(some 83), none, (.mv (.const (.int .i64 0)))⟩]) (.block 2 (.loop (.seq (.reg [⟨(some 84), none, (.bin .lss (.tmp 83) (.tmp 82))⟩]) (.seq (.cond (.tmp 84) .skip (.exit 2)) (.seq (.block 3 (.seq (.reg [⟨(some 85), none, (.mv (.tmp 83))⟩, ⟨(some 11), none, (.mv (.tmp 85))⟩]) (.seq (.reg [⟨(some 86), none, (.mv (.tmp 10))⟩, ⟨(some 87), none, (.mv (.tmp 7))⟩, ⟨(some 88), none, (.mv (.tmp 1))⟩, ⟨(some 89), none, (.mv (.tmp 11))⟩, ⟨(some 90), none, (.isl 1 (.tmp 88) (.tmp 89))⟩, ⟨(some 91), none, (.load false 1 (.tmp 90))⟩, ⟨(some 92), none, (.conv .u64 (.tmp 91))⟩, ⟨(some 93), none, (.bin .mul (.tmp 87) (.tmp 92))⟩, ⟨(some 94), none, (.bin .add (.tmp 86) (.tmp 93))⟩, ⟨(some 10), none, (.mv (.tmp 94))⟩]) (.seq (.reg [⟨(some 95), none, (.mv (.tmp 0))⟩, ⟨(some 96), none, (.mv (.tmp 11))⟩, ⟨(some 97), none, (.isl 1 (.tmp 95) (.tmp 96))⟩, ⟨(some 98), none, (.load false 1 (.tmp 97))⟩, ⟨(some 99), none, (.conv .u64 (.tmp 98))⟩, ⟨(some 100), none, (.mv (.tmp 10))⟩, ⟨(some 101), none, (.bin .and (.tmp 100) (.const (.int .u64 4294967295)))⟩, ⟨(some 102), none, (.bin .sub (.tmp 99) (.tmp 101))⟩, ⟨(some 103), none, (.mv (.tmp 9))⟩, ⟨(some 104), none, (.bin .sub (.tmp 102) (.tmp 103))⟩, ⟨(some 12), none, (.mv (.tmp 104))⟩]) (.seq (.reg [⟨(some 105), none, (.mv (.tmp 0))⟩, ⟨(some 106), none, (.mv (.tmp 11))⟩, ⟨(some 107), none, (.mv (.tmp 12))⟩, ⟨(some 108), none, (.conv .u32 (.tmp 107))⟩, ⟨(some 109), none, (.isl 1 (.tmp 105) (.tmp 106))⟩, ⟨none, none, (.store 1 (.tmp 109) (.tmp 108))⟩]) (.seq (.reg [⟨(some 110), none, (.mv (.tmp 12))⟩, ⟨(some 111), none, (.bin .shr (.tmp 110) (.const (.int .u64 63)))⟩, ⟨(some 9), none, (.mv (.tmp 111))⟩]) (.reg [⟨(some 112), none, (.mv (.tmp 10))⟩, ⟨(some 113), none, (.bin .shr (.tmp 112) (.const (.int .u64 32)))⟩, ⟨(some 10), none, (.mv (.tmp 113))⟩]))))))) (.reg [⟨(some 114), none, (.bin .add (.tmp 83) (.const (.int .i64 1)))⟩, ⟨(some 83), none, (.mv (.tmp 114))⟩]))))))) (.seq (.reg [⟨(some 115), none, (.mv (.tmp 0))⟩, ⟨(some 116), none, (.mv (.tmp 5))⟩, ⟨(some 117), none, (.isl 1 (.tmp 115) (.tmp 116))⟩, ⟨(some 118), none, (.load false 1 (.tmp 117))⟩, ⟨(some 119), none, (.conv .u64 (.tmp 118))⟩, ⟨(some 120), none, (.mv (.tmp 10))⟩, ⟨(some 121), none, (.bin .sub (.tmp 119) (.tmp 120))⟩, ⟨(some 122), none, (.mv (.tmp 9))⟩, ⟨(some 123), none, (.bin .sub (.tmp 121) (.tmp 122))⟩, ⟨(some 13), none, (.mv (.tmp 123))⟩]) (.seq (.reg [⟨(some 124), none, (.mv (.tmp 0))⟩, ⟨(some 125), none, (.mv (.tmp 5))⟩, ⟨(some 126), none, (.mv (.tmp 13))⟩, ⟨(some 127), none, (.conv .u32 (.tmp 126))⟩, ⟨(some 128), none, (.isl 1 (.tmp 124) (.tmp 125))⟩, ⟨none, none, (.store 1 (.tmp 128) (.tmp 127))⟩]) (.seq (.seq (.reg [⟨(some 129), none, (.mv (.tmp 13))⟩, ⟨(some 130), none, (.bin .shr (.tmp 129) (.const (.int .u64 63)))⟩, ⟨(some 131), none, (.bin .eql (.tmp 130) (.const (.int .u64 0)))⟩]) (.cond (.tmp 131) (.seq (.reg [⟨(some 132), none, (.mv (.tmp 7))⟩, ⟨(some 133), none, (.conv .u32 (.tmp 132))⟩, ⟨(some 4), none, (.mv (.tmp 133))⟩]) .ret) .skip)) (.seq (.reg [⟨(some 10), none, (.mv (.const (.int .u64 0)))⟩]) (.seq (.seq (.reg [⟨(some 134), none, (.mv (.tmp 5))⟩, ⟨(some 135), none, (.mv (.const (.int .i64 0)))⟩]) (.block 4 (.loop (.seq (.reg [⟨(some 136), none, (.bin .lss (.tmp 135) (.tmp 134))⟩]) (.seq (.cond (.tmp 136) .skip (.exit 4)) (.seq (.block 5 (.seq (.reg [⟨(some 137), none, (.mv (.tmp 135))⟩, ⟨(some 14), none, (.mv (.tmp 137))⟩]) (.seq (.dreg 0 [⟨0, ⟨(some 138), none, (.mv (.tmp 10))⟩, [], []⟩, ⟨1, ⟨(some 139), none, (.mv (.tmp 0))⟩, [], []⟩, ⟨2, ⟨(some 140), none, (.mv (.tmp 14))⟩, [], []⟩, ⟨3, ⟨(some 141), none, (.isl 1 (.tmp 139) (.tmp 140))⟩, [1, 2], []⟩, ⟨4, ⟨(some 142), none, (.load false 1 (.tmp 141))⟩, [3, 1, 2], []⟩, ⟨5, ⟨(some 143), none, (.conv .u64 (.tmp 142))⟩, [4, 3, 1, 2], []⟩, ⟨6, ⟨(some 144), none, (.mv (.tmp 1))⟩, [], []⟩, ⟨7, ⟨(some 145), none, (.mv (.tmp 14))⟩, [], []⟩, ⟨8, ⟨(some 146), none, (.isl 1 (.tmp 144) (.tmp 145))⟩, [6, 7], []⟩, ⟨9, ⟨(some 147), none, (.load false 1 (.tmp 146))⟩, [8, 6, 7], []⟩, ⟨10, ⟨(some 148), none, (.conv .u64 (.tmp 147))⟩, [9, 8, 6, 7], []⟩, ⟨11, ⟨(some 149), none, (.bin .add (.tmp 143) (.tmp 148))⟩, [5, 10, 4, 3, 1, 2, 9, 8, 6, 7], []⟩, ⟨12, ⟨(some 150), none, (.bin .add (.tmp 138) (.tmp 149))⟩, [0, 11, 5, 10, 4, 3, 1, 2, 9, 8, 6, 7], []⟩, ⟨13, ⟨(some 10), none, (.mv (.tmp 150))⟩, [12, 0, 1, 2, 3, 4, 5, 6, 7, 8, 9, 10, 11], []⟩]) (.seq (.reg [⟨(some 151), none, (.mv (.tmp 0))⟩, ⟨(some 152), none, (.mv (.tmp 14))⟩, ⟨(some 153), none, (.mv (.tmp 10))⟩, ⟨(some 154), none, (.conv .u32 (.tmp 153))⟩, ⟨(some 155), none, (.isl 1 (.tmp 151) (.tmp 152))⟩, ⟨none, none, (.store 1 (.tmp 155) (.tmp 154))⟩]) (.reg [⟨(some 156), none, (.mv (.tmp 10))⟩, ⟨(some 157), none, (.bin .shr (.tmp 156) (.const (.int .u64 32)))⟩, ⟨(some 10), none, (.mv (.tmp 157))⟩]))))) (.reg [⟨(some 158), none, (.bin .add (.tmp 135) (.const (.int .i64 1)))⟩, ⟨(some 135), none, (.mv (.tmp 158))⟩]))))))) (.seq (.reg [⟨(some 159), none, (.mv (.tmp 0))⟩, ⟨(some 160), none, (.mv (.tmp 5))⟩, ⟨(some 161), none, (.isl 1 (.tmp 159) (.tmp 160))⟩, ⟨(some 162), none, (.load false 1 (.tmp 161))⟩, ⟨(some 163), none, (.mv (.tmp 10))⟩, ⟨(some 164), none, (.conv .u32 (.tmp 163))⟩, ⟨(some 165), none, (.bin .add (.tmp 162) (.tmp 164))⟩, ⟨(some 166), none, (.isl 1 (.tmp 159) (.tmp 160))⟩, ⟨none, none, (.store 1 (.tmp 166) (.tmp 165))⟩]) (.seq (.reg [⟨(some 167), none, (.mv (.tmp 7))⟩, ⟨(some 168), none, (.bin .sub (.tmp 167) (.const (.int .u64 1)))⟩, ⟨(some 169), none, (.conv .u32 (.tmp 168))⟩, ⟨(some 4), none, (.mv (.tmp 169))⟩]) .ret)))))))))))))), 170, [(.tmp 4)]⟩

/-- The functions are these. -/
structure IsA (P : Program) (F : FnsA) : Prop where
  W_toInt64S : stripF P F.W_toInt64S = some (W_toInt64S_c F)
  W_eqInt64S : stripF P F.W_eqInt64S = some (W_eqInt64S_c F)
  W_markInt64S : stripF P F.W_markInt64S = some (W_markInt64S_c F)
  W_eqWide : stripF P F.W_eqWide = some (W_eqWide_c F)
  S_l05Ok : stripF P F.S_l05Ok = some (S_l05Ok_c F)
  I_ValidPoly : stripF P F.I_ValidPoly = some (I_ValidPoly_c F)
  S_l05Simple : stripF P F.S_l05Simple = some (S_l05Simple_c F)
  S_l01Up : stripF P F.S_l01Up = some (S_l01Up_c F)
  S_l01Of : stripF P F.S_l01Of = some (S_l01Of_c F)
  S_l01Neg : stripF P F.S_l01Neg = some (S_l01Neg_c F)
  I_newSturm : stripF P F.I_newSturm = some (I_newSturm_c F)
  I_WideOf : stripF P F.I_WideOf = some (I_WideOf_c F)
  I_opposite : stripF P F.I_opposite = some (I_opposite_c F)
  S_l00Max : stripF P F.S_l00Max = some (S_l00Max_c F)
  S_l01Mul : stripF P F.S_l01Mul = some (S_l01Mul_c F)
  S_l05Chain : stripF P F.S_l05Chain = some (S_l05Chain_c F)
  S_l05Count : stripF P F.S_l05Count = some (S_l05Count_c F)
  I_calc_up : stripF P F.I_calc_up = some (I_calc_up_c F)
  I_calc_chain : stripF P F.I_calc_chain = some (I_calc_chain_c F)
  I_sturm_count : stripF P F.I_sturm_count = some (I_sturm_count_c F)
  W_eqUint32A6 : stripF P F.W_eqUint32A6 = some (W_eqUint32A6_c F)
  S_l00In : stripF P F.S_l00In = some (S_l00In_c F)
  S_l01Ok : stripF P F.S_l01Ok = some (S_l01Ok_c F)
  X_ContainsFunc_int64 : stripF P F.X_ContainsFunc_int64 = some (X_ContainsFunc_int64_c F)
  I_ValidPoly_1 : stripF P F.I_ValidPoly_1 = some (I_ValidPoly_1_c F)
  I_within : stripF P F.I_within = some (I_within_c F)
  S_l05Sturm : stripF P F.S_l05Sturm = some (S_l05Sturm_c F)
  S_l01UpMag : stripF P F.S_l01UpMag = some (S_l01UpMag_c F)
  S_l01Made : stripF P F.S_l01Made = some (S_l01Made_c F)
  S_l01Add : stripF P F.S_l01Add = some (S_l01Add_c F)
  I_calc_chainOf : stripF P F.I_calc_chainOf = some (I_calc_chainOf_c F)
  I_wide : stripF P F.I_wide = some (I_wide_c F)
  I_calc_add : stripF P F.I_calc_add = some (I_calc_add_c F)
  I_calc_mul : stripF P F.I_calc_mul = some (I_calc_mul_c F)
  S_l05Wides : stripF P F.S_l05Wides = some (S_l05Wides_c F)
  S_l05Thin : stripF P F.S_l05Thin = some (S_l05Thin_c F)
  S_l05Opposite : stripF P F.S_l05Opposite = some (S_l05Opposite_c F)
  S_l01Cmp : stripF P F.S_l01Cmp = some (S_l01Cmp_c F)
  S_l05Rest : stripF P F.S_l05Rest = some (S_l05Rest_c F)
  S_l05Turns : stripF P F.S_l05Turns = some (S_l05Turns_c F)
  I_widen : stripF P F.I_widen = some (I_widen_c F)
  I_lighter : stripF P F.I_lighter = some (I_lighter_c F)
  I_size_bits : stripF P F.I_size_bits = some (I_size_bits_c F)
  I_size_up : stripF P F.I_size_up = some (I_size_up_c F)
  I_size_compare : stripF P F.I_size_compare = some (I_size_compare_c F)
  I_calc_rest : stripF P F.I_calc_rest = some (I_calc_rest_c F)
  I_sturm_turns : stripF P F.I_sturm_turns = some (I_sturm_turns_c F)
  S_l01Div : stripF P F.S_l01Div = some (S_l01Div_c F)
  X_IndexFunc_int64 : stripF P F.X_IndexFunc_int64 = some (X_IndexFunc_int64_c F)
  S_l05Slope : stripF P F.S_l05Slope = some (S_l05Slope_c F)
  S_l01Bits : stripF P F.S_l01Bits = some (S_l01Bits_c F)
  S_l01Zero : stripF P F.S_l01Zero = some (S_l01Zero_c F)
  S_l01Plus : stripF P F.S_l01Plus = some (S_l01Plus_c F)
  S_l01Minus : stripF P F.S_l01Minus = some (S_l01Minus_c F)
  I_slope : stripF P F.I_slope = some (I_slope_c F)
  I_size_plus : stripF P F.I_size_plus = some (I_size_plus_c F)
  I_size_minus : stripF P F.I_size_minus = some (I_size_minus_c F)
  I_size_times : stripF P F.I_size_times = some (I_size_times_c F)
  S_CommonWide : stripF P F.S_CommonWide = some (S_CommonWide_c F)
  S_l05Short : stripF P F.S_l05Short = some (S_l05Short_c F)
  S_l05Value : stripF P F.S_l05Value = some (S_l05Value_c F)
  S_l01Sign : stripF P F.S_l01Sign = some (S_l01Sign_c F)
  I_commonSize : stripF P F.I_commonSize = some (I_commonSize_c F)
  I_size_by : stripF P F.I_size_by = some (I_size_by_c F)
  X_Len32 : stripF P F.X_Len32 = some (X_Len32_c F)
  I_trimmed : stripF P F.I_trimmed = some (I_trimmed_c F)
  X_Clone_Wide : stripF P F.X_Clone_Wide = some (X_Clone_Wide_c F)
  I_calc_sub : stripF P F.I_calc_sub = some (I_calc_sub_c F)
  I_sign : stripF P F.I_sign = some (I_sign_c F)
  I_calc_valueAt : stripF P F.I_calc_valueAt = some (I_calc_valueAt_c F)
  S_l01DivMag : stripF P F.S_l01DivMag = some (S_l01DivMag_c F)
  I_size_down : stripF P F.I_size_down = some (I_size_down_c F)
  S_l02Up : stripF P F.S_l02Up = some (S_l02Up_c F)
  I_size_bySmall : stripF P F.I_size_bySmall = some (I_size_bySmall_c F)
  X_LeadingZeros32 : stripF P F.X_LeadingZeros32 = some (X_LeadingZeros32_c F)
  I_divideStep : stripF P F.I_divideStep = some (I_divideStep_c F)
end Go.Proofs.Lite

namespace Go.Proofs.Lite
open Go
def AS1 := And.intro @ast_call <| And.intro @ast_load <| And.intro @ast_sarr <| And.intro @ast_alloc <| And.intro @ast_allocAt <| And.intro @ast_box <| And.intro @ast_boxAt <| And.intro @ast_store <| And.intro @ast_bsl <| And.intro @ast_msl <| And.intro @ast_app <| And.intro @ast_cpy <| And.intro @ast_mv <| And.intro @ast_pick <| And.intro @ast_bin <| And.intro @ast_beq <| And.intro @ast_eqs <| And.intro @ast_un <| And.intro @ast_conv <| And.intro @ast_nilc <| And.intro @ast_fad <| And.intro @ast_fld <| And.intro @ast_iarr <| And.intro @ast_isl <| And.intro @ast_aidx <| And.intro @ast_sidx <| And.intro @ast_ssl <| And.intro @ast_sstr <| And.intro @ast_ext <| And.intro @ast_build <| And.intro @ast_lens <| And.intro @ast_lstr <| And.intro @ast_lenc <| And.intro @ast_mm <| And.intro @ast_mkfn <| And.intro @ast_s2a <| And.intro @ast_snil <| And.intro @ast_bslAt @ast_callv
def AS2 := And.intro @op_none <| And.intro @op_some <| And.intro @ops_nil <| And.intro @ops_cons <| And.intro @plan_nil <| And.intro @plan_cons <| And.intro @wok_nil <| And.intro @wok_cons <| And.intro @wp_skip' <| And.intro @wp_reg' <| And.intro @wp_dreg' <| And.intro @wp_seq' <| And.intro @wp_cond' <| And.intro @wp_block' <| And.intro @wp_loop' <| And.intro @wp_exit' <| And.intro @wp_ret' <| And.intro @th_normal <| And.intro @th_exit <| And.intro @th_ret <| And.intro @bl_normal <| And.intro @bl_exit @bl_ret
def TH0 := And.intro @List.length_nil.{0} <| And.intro @List.length_cons.{0} <| And.intro @List.cons_append.{0} <| And.intro @List.nil_append.{0} <| And.intro @List.getD_cons_succ.{0} <| And.intro @List.getD_cons_zero.{0} <| And.intro @true_and <| And.intro @and_true <| And.intro @List.map_nil.{0,0} <| And.intro @List.map_cons.{0,0} <| And.intro @raws_mg0 <| And.intro @raws_wd0 <| And.intro @mg_length <| And.intro @wd_length <| And.intro @ones_mg <| And.intro @ones_wd <| And.intro @kindL_mg <| And.intro @headK_mg <| And.intro @eqL_mg <| And.intro @take_mg <| And.intro @take_wd <| And.intro @drop1_wd <| And.intro @getD0_wd <| And.intro @beq_self_eq_true.{0} <| And.intro @beq_iff_eq.{0} <| And.intro @wr_mg <| And.intro @wr_wd <| And.intro @List.drop_zero.{0} <| And.intro @Nat.zero_mod <| And.intro @List.all_nil.{0} <| And.intro @List.all_cons.{0} <| And.intro @mk_wd <| And.intro @noix_wd <| And.intro @implies_true.{0} <| And.intro @implies_true.{1} <| And.intro @Nat.le_refl <| And.intro @Int.toNat_natCast <| And.intro @Nat.mul_one <| And.intro @Nat.zero_add <| And.intro @if_true.{1} <| And.intro @if_false.{1} <| And.intro @Bool.false_eq_true <| And.intro @ge_iff_le.{0} <| And.intro @gt_iff_lt.{0} <| And.intro @forall_const.{0} <| And.intro @forall_const.{1} <| And.intro @Option.some.injEq.{0} <| And.intro @forall_eq'.{1} <| And.intro @false_or <| And.intro @or_true <| And.intro @true_or <| And.intro @not_false_eq_true <| And.intro @false_implies <| And.intro @List.drop_succ_cons.{0} <| And.intro @List.take_succ_cons.{0} <| And.intro @List.take_zero.{0} <| And.intro @Bool.not_true <| And.intro @Bool.not_false <| And.intro @decide_true <| And.intro @decide_false <| And.intro @Bool.true_and <| And.intro @Bool.and_true <| And.intro @Bool.and_false <| And.intro @Bool.false_and <| And.intro @List.length_append.{0} <| And.intro @getD_c0 @Nat.lt_irrefl
end Go.Proofs.Lite

namespace Go.Proofs.Lite
open Go
section
variable {P : Program} {F : FnsA} (h : IsA P F)
include h
theorem S_l01Zero_ct (A : Nat) : Ct P F.S_l01Zero [.rp (mg A)] [] (fun v H => H = [] ∧ v = .raw (.bool (decide (A % bW = 0)))) := by
  refine ct_of_sound h.S_l01Zero (sound_of_awp ?_)
  simp only [seval, ↓AS1, ↓AS2, TH0, S_l01Zero_c, List.replicate, List.append, pr, lr, er, binR, ev, putA, List.set, intOf, takeAg, cellsOf, wrAll, partsOk, ones, one, isOne, wok1, findPE, List.find?, nop, prlr, isPure, pickR]
  refine aexit_ret ?_ ⟨rfl, ?_⟩ <;> simp only [seval, ↓AS1, ↓AS2, TH0, rets, rv, List.replicate, List.append, pr, lr, er, binR, ev, putA, List.set, intOf, takeAg, cellsOf, wrAll, partsOk, ones, one, isOne, wok1, findPE, List.find?, nop, prlr, isPure, pickR]
theorem S_l01Made_ct (n : Bool) (A : Nat) : Ct P F.S_l01Made [.raw (.bool n), .agg (mg A)] [] (fun v H => H = [] ∧ v = .agg (wd (n && !decide (A % bW = 0)) A)) := by
  refine ct_of_sound h.S_l01Made (sound_of_awp ?_)
  cases n with
  | true =>
    simp only [seval, ↓AS1, ↓AS2, TH0, S_l01Made_c, List.replicate, List.append, pr, lr, er, binR, ev, putA, List.set, intOf, takeAg, cellsOf, wrAll, partsOk, ones, one, isOne, wok1, findPE, List.find?, nop, prlr, isPure, pickR]
    refine CallStep.lend [0] [.rp (mg A)] (S_l01Zero_ct h A) (by simp [noixL, noix]) ?_ ?_
    · simp only [argsOk, and_true]
      exact .inr (.inl ⟨0, 0, _, mg A, rfl, rfl, rfl, by simp, by simp [mg_length], by simp [mg_length, take_mg], clean_mg A⟩)
    · rintro v H' ⟨rfl, rfl⟩
      refine ⟨rfl, trivial, ?_⟩
      simp only [seval, ↓AS1, ↓AS2, TH0, List.replicate, List.append, pr, lr, er, binR, ev, putA, List.set, intOf, takeAg, cellsOf, wrAll, partsOk, ones, one, isOne, wok1, findPE, List.find?, nop, prlr, isPure, pickR]
      refine aexit_cut ?_ ?_ ⟨rfl, ?_⟩ <;> simp only [seval, ↓AS1, ↓AS2, TH0, rets, rv, List.replicate, List.append, pr, lr, er, binR, ev, putA, List.set, intOf, takeAg, cellsOf, wrAll, partsOk, ones, one, isOne, wok1, findPE, List.find?, nop, prlr, isPure, pickR]
  | false =>
    simp only [seval, ↓AS1, ↓AS2, TH0, S_l01Made_c, List.replicate, List.append, pr, lr, er, binR, ev, putA, List.set, intOf, takeAg, cellsOf, wrAll, partsOk, ones, one, isOne, wok1, findPE, List.find?, nop, prlr, isPure, pickR]
    refine aexit_cut ?_ ?_ ⟨rfl, ?_⟩ <;> simp only [seval, ↓AS1, ↓AS2, TH0, rets, rv, List.replicate, List.append, pr, lr, er, binR, ev, putA, List.set, intOf, takeAg, cellsOf, wrAll, partsOk, ones, one, isOne, wok1, findPE, List.find?, nop, prlr, isPure, pickR]
theorem S_l01Plus_ct (A B : Nat) : Ct P F.S_l01Plus [.rp (mg A), .rp (mg B)] [] (fun v H => H = [] ∧ v = .tup [.agg (mg (A + B)), .raw (.bool (decide (A % bW + B % bW < bW)))]) := by
  refine ct_of_sound h.S_l01Plus ?_
  simp only [S_l01Plus_c, List.length_nil, List.length_cons, List.replicate, List.append, List.cons_append, List.nil_append, Nat.reduceAdd, Nat.reduceSub]
  refine Sound.seq (sound_of_awp ?_)
  simp only [seval, ↓AS1, ↓AS2, TH0, List.replicate, List.append, pr, lr, er, binR, ev, putA, List.set, intOf, takeAg, cellsOf, wrAll, partsOk, ones, one, isOne, wok1, findPE, List.find?, nop, prlr, isPure, pickR]
  refine Sound.seq (sound_of_awp ?_)
  simp only [seval, ↓AS1, ↓AS2, TH0, List.replicate, List.append, pr, lr, er, binR, ev, putA, List.set, intOf, takeAg, cellsOf, wrAll, partsOk, ones, one, isOne, wok1, findPE, List.find?, nop, prlr, isPure, pickR]
  refine Sound.seq (sound_of_awp ?_)
  simp only [seval, ↓AS1, ↓AS2, TH0, List.replicate, List.append, pr, lr, er, binR, ev, putA, List.set, intOf, takeAg, cellsOf, wrAll, partsOk, ones, one, isOne, wok1, findPE, List.find?, nop, prlr, isPure, pickR]
  refine Sound.seq (Sound.seq (sound_of_awp ?_))
  simp only [seval, ↓AS1, ↓AS2, TH0, List.replicate, List.append, pr, lr, er, binR, ev, putA, List.set, intOf, takeAg, cellsOf, wrAll, partsOk, ones, one, isOne, wok1, findPE, List.find?, nop, prlr, isPure, pickR]
  refine Sound.block (Sound.loopw (n := 6) (fun n T H => ∃ k, k + n = 6 ∧ H = [.c (mg 0), .c (mg (low (A + B) k))] ∧
    T = [.rp (mg A), .rp (mg B), .junk, .junk, .ptr 0 0, .raw (.bool false), .ptr 1 0, .raw (.int .u64 (carry A B k : Nat)), .raw (.int .i64 (k : Nat))] ++ List.replicate 30 .junk) (Wk.tmps (by
      show fits _ ([.rp (mg A), .rp (mg B), .junk, .junk, .ptr 0 0, .raw (.bool false), .ptr 1 0, .raw (.int .u64 (0 : Nat)), .raw (.int .i64 (0 : Nat))] ++ List.replicate 30 .junk)
      simp [fits, List.replicate])) ?_ ?_)
  · exact ⟨0, rfl, by rw [low_zero], by rw [carry_zero]⟩
  · rintro n T H ⟨k, hk, rfl, rfl⟩
    refine sound_of_awp ?_
    by_cases hk6 : k < 6
    · have hc := carry_le A B k
      have hA := dig_lt A k
      have hB := dig_lt B k
      have e1 := mg_drop_get (A := A) hk6
      have e2 := mg_drop_get (A := B) hk6
      have e3 : 1 ≤ 6 - k := by omega
      have e4 : (k : Int) < ((6 : Nat) : Int) := by omega
      have e5 : (k : Int) < 6 := by omega
      have e6 : (0 : Int) ≤ k := by omega
      have w1 : IntKind.u64.wrap ((dig A k : Nat) : Int) = ((dig A k : Nat) : Int) := IntWalk.u64_in _ (by omega)
      have w2 : IntKind.u64.wrap ((dig B k : Nat) : Int) = ((dig B k : Nat) : Int) := IntWalk.u64_in _ (by omega)
      have w3 : IntKind.u64.wrap (((dig A k : Nat) : Int) + ((dig B k : Nat) : Int)) = ((dig A k + dig B k : Nat) : Int) := by rw [IntWalk.u64_in _ (by omega)]; omega
      have w4 : IntKind.u64.wrap (((dig A k + dig B k : Nat) : Int) + ((carry A B k : Nat) : Int)) = ((dig A k + dig B k + carry A B k : Nat) : Int) := by rw [IntWalk.u64_in _ (by omega)]; omega
      have w5 : IntKind.u32.wrap ((dig A k + dig B k + carry A B k : Nat) : Int) = ((dig (A + B) k : Nat) : Int) := by
        have := dig_add A B k
        rw [IntKind.wrap_u32]; omega
      have w6 := shr32 (dig A k + dig B k + carry A B k)
      rw [carry_succ] at w6
      have w7 : IntKind.i64.wrap ((k : Int) + 1) = ((k + 1 : Nat) : Int) := by rw [IntWalk.i64_in _ (by omega)]; omega
      have w8 : wr (mg (low (A + B) k)) k [.raw (.int .u32 ((dig (A + B) k : Nat) : Int))] = mg (low (A + B) (k + 1)) := mg_low_wr hk6 rfl
      simp only [seval, ↓AS1, ↓AS2, TH0, List.replicate, List.append, pr, lr, er, binR, ev, putA, List.set, intOf, takeAg, cellsOf, wrAll, partsOk, ones, one, isOne, wok1, findPE, List.find?, nop, prlr, isPure, pickR, List.length_drop, e1, e2, e3, e4, e5, e6, w1, w2, w3, w4, w5, w6, w7, w8]
      refine ⟨by omega, n - 1, _, _, by omega, Wk.tmps ?_, k + 1, by omega, rfl, rfl⟩
      simp [fits]
      rw [← Int.natCast_add, ← Int.natCast_add]; exact w6
    · have hk7 : k = 6 := by omega
      subst hk7
      have e5 : decide (((6 : Nat) : Int) < 6) = false := rfl
      simp only [seval, ↓AS1, ↓AS2, TH0, List.replicate, List.append, pr, lr, er, binR, ev, putA, List.set, intOf, takeAg, cellsOf, wrAll, partsOk, ones, one, isOne, wok1, findPE, List.find?, nop, prlr, isPure, pickR, e5]
      refine sound_of_awp ?_
      simp only [seval, ↓AS1, ↓AS2, TH0, List.replicate, List.append, pr, lr, er, binR, ev, putA, List.set, intOf, takeAg, cellsOf, wrAll, partsOk, ones, one, isOne, wok1, findPE, List.find?, nop, prlr, isPure, pickR, mg_low6]
      refine aexit_cut ?_ ?_ ⟨rfl, ?_⟩ <;> simp only [seval, ↓AS1, ↓AS2, TH0, rets, rv, rvs, List.replicate, List.append, pr, lr, er, binR, ev, putA, List.set, intOf, takeAg, cellsOf, wrAll, partsOk, ones, one, isOne, wok1, findPE, List.find?, nop, prlr, isPure, pickR]
      · simp [noix, noixL, noixL_clean _ (clean_mg _)]
      · rw [carry6]
theorem S_l01Cmp_list (a b : List Nat) (ha : a.length = 6) (hb : b.length = 6) (la : Lim a) (lb : Lim b) :
    Ct P F.S_l01Cmp [.rp (u32s a), .rp (u32s b)] [] (fun v H => H = [] ∧ v = .raw (.int .i64 (if valL a < valL b then -1 else if valL b < valL a then 1 else 0))) := by
  refine ct_of_sound h.S_l01Cmp ?_
  simp only [S_l01Cmp_c, List.length_nil, List.length_cons, List.replicate, List.append, List.cons_append, List.nil_append]
  refine Sound.seq (sound_of_awp ?_)
  simp only [awp, athen, aops, aop, astep, pr, ev, putA, List.set, true_and]
  refine Sound.seq (Sound.seq (sound_of_awp ?_))
  simp only [awp, athen, aops, aop, astep, pr, ev, putA, List.set, true_and]
  refine Sound.block (Sound.loop (n := 6) (fun n T H => H = [] ∧ ∃ i : Int, i + 1 = n ∧ i ≤ 5 ∧ (∀ j : Nat, i < j → a.getD j 0 = b.getD j 0) ∧ T = [.rp (u32s a), .rp (u32s b), .junk, .junk, .raw (.int .i64 0), .raw (.int .i64 i)] ++ List.replicate 26 .junk) ?_ ?_)
  · refine ⟨rfl, 5, rfl, by omega, ?_, ?_⟩
    · intro j hj
      rw [getD_out (by omega), getD_out (by omega)]
    · rfl
  · rintro n T H ⟨rfl, i, hi1, hi2, hi3, rfl⟩
    refine sound_of_awp ?_
    by_cases hi : 0 ≤ i
    · obtain ⟨k, rfl⟩ : ∃ k : Nat, i = k := ⟨i.toNat, by omega⟩
      have e1 := u32s_drop_get (l := a) (k := k) (by omega)
      have e2 := u32s_drop_get (l := b) (k := k) (by omega)
      have e3 : 1 ≤ ((u32s a).drop k).length := by rw [List.length_drop, u32s_length]; omega
      have e4 : 1 ≤ ((u32s b).drop k).length := by rw [List.length_drop, u32s_length]; omega
      have e5 : IntKind.i64.wrap ((k : Int) - 1) = k - 1 := IntWalk.i64_in _ (by omega)
      have e6 : (k : Int) < (6 : Nat) := by omega
      simp only [List.replicate, List.append, List.cons_append, List.nil_append, awp, athen, ablock, aops, aop, astep, planOk, wok, pr, lr, binR, ev, putA, List.set, List.getD_cons_succ, List.getD_cons_zero, true_and, and_true, intOf, takeAg, Int.toNat_natCast, Nat.mul_one, e1, e2, e3, e4, e5, e6, hi, if_false, Bool.false_eq_true, false_or, decide_eq_true_eq, decide_eq_false_iff_not, ge_iff_le, gt_iff_lt, forall_const, not_true_eq_false, false_implies]
      refine ⟨fun h => aexit_ret trivial ⟨rfl, ?_⟩, fun h => ⟨fun h' => aexit_ret trivial ⟨rfl, ?_⟩, fun h' => ⟨k, _, _, by omega, Wk.tmps ?_, rfl, (k : Int) - 1, by omega, by omega, ?_, rfl⟩⟩⟩
      · rw [if_pos (valL_lt (by omega) la k (fun j hj => hi3 j (by omega)) (by omega))]; rfl
      · have := valL_lt (a := b) (b := a) (by omega) lb k (fun j hj => (hi3 j (by omega)).symm) (by omega)
        rw [if_neg (by omega), if_pos this]; rfl
      · simp [fits]
      · intro j hj
        by_cases hjk : j = k
        · subst hjk; omega
        · exact hi3 j (by omega)
    · have hn : i = -1 := by omega
      subst hn
      simp only [List.replicate, List.append, List.cons_append, List.nil_append, awp, athen, ablock, aops, aop, astep, planOk, wok, pr, lr, binR, ev, putA, List.set, List.getD_cons_succ, List.getD_cons_zero, true_and, and_true, intOf, takeAg, if_true, hi, decide_eq_true_eq, decide_eq_false_iff_not, ge_iff_le, gt_iff_lt, forall_const, not_false_eq_true, false_implies]
      have hab : a = b := valL_eq (by omega) (fun j => hi3 j (by omega))
      subst hab
      refine sound_of_awp ?_
      simp only [awp, athen, aops, aop, astep, pr, ev, putA, List.set, true_and]
      refine aexit_ret trivial ⟨rfl, ?_⟩
      simp [rets, rv]
theorem S_l01Cmp_ct (A B : Nat) : Ct P F.S_l01Cmp [.rp (mg A), .rp (mg B)] [] (fun v H => H = [] ∧ v = .raw (.int .i64 (cmpI (A % bW) (B % bW)))) := by
  have := S_l01Cmp_list h (limbs 6 A) (limbs 6 B) (limbs_length _ _) (limbs_length _ _) (limbs_lim _ _) (limbs_lim _ _)
  rw [valL_limbs, valL_limbs] at this
  exact this
theorem S_l01Minus_ct (A B : Nat) (hAB : B ≤ A) : Ct P F.S_l01Minus [.rp (mg A), .rp (mg B)] [] (fun v H => H = [] ∧ v = .agg (mg (A - B))) := by
  refine ct_of_sound h.S_l01Minus ?_
  simp only [S_l01Minus_c, List.length_nil, List.length_cons, List.replicate, List.append, List.cons_append, List.nil_append, Nat.reduceAdd, Nat.reduceSub]
  refine Sound.seq (sound_of_awp ?_)
  simp only [seval, ↓AS1, ↓AS2, TH0, List.replicate, List.append, pr, lr, er, binR, ev, putA, List.set, intOf, takeAg, cellsOf, wrAll, partsOk, ones, one, isOne, wok1, findPE, List.find?, nop, prlr, isPure, pickR]
  refine Sound.seq (sound_of_awp ?_)
  simp only [seval, ↓AS1, ↓AS2, TH0, List.replicate, List.append, pr, lr, er, binR, ev, putA, List.set, intOf, takeAg, cellsOf, wrAll, partsOk, ones, one, isOne, wok1, findPE, List.find?, nop, prlr, isPure, pickR]
  refine Sound.seq (sound_of_awp ?_)
  simp only [seval, ↓AS1, ↓AS2, TH0, List.replicate, List.append, pr, lr, er, binR, ev, putA, List.set, intOf, takeAg, cellsOf, wrAll, partsOk, ones, one, isOne, wok1, findPE, List.find?, nop, prlr, isPure, pickR]
  refine Sound.seq (Sound.seq (sound_of_awp ?_))
  simp only [seval, ↓AS1, ↓AS2, TH0, List.replicate, List.append, pr, lr, er, binR, ev, putA, List.set, intOf, takeAg, cellsOf, wrAll, partsOk, ones, one, isOne, wok1, findPE, List.find?, nop, prlr, isPure, pickR]
  refine Sound.block (Sound.loopw (n := 6) (fun n T H => ∃ k, k + n = 6 ∧ H = [.c (mg 0), .c (mg (low (A - B) k))] ∧
    T = [.rp (mg A), .rp (mg B), .junk, .junk, .ptr 0 0, .ptr 1 0, .raw (.int .i64 (borrow A B k : Nat)), .raw (.int .i64 (k : Nat))] ++ List.replicate 30 .junk) (Wk.tmps (by
      show fits _ ([.rp (mg A), .rp (mg B), .junk, .junk, .ptr 0 0, .ptr 1 0, .raw (.int .i64 (0 : Nat)), .raw (.int .i64 (0 : Nat))] ++ List.replicate 30 .junk)
      simp [fits, List.replicate])) ?_ ?_)
  · exact ⟨0, rfl, by rw [low_zero], by rw [borrow_zero]⟩
  · rintro n T H ⟨k, hk, rfl, rfl⟩
    refine sound_of_awp ?_
    by_cases hk6 : k < 6
    · have hc := borrow_le A B k
      have hA := dig_lt A k
      have hB := dig_lt B k
      have hD := dig_lt (A - B) k
      have hs := dig_sub A B k hAB
      have hbs := borrow_succ A B k
      have e1 := mg_drop_get (A := A) hk6
      have e2 := mg_drop_get (A := B) hk6
      have e3 : 1 ≤ 6 - k := by omega
      have e4 : (k : Int) < ((6 : Nat) : Int) := by omega
      have e5 : (k : Int) < 6 := by omega
      have e6 : (0 : Int) ≤ k := by omega
      have w1 : IntKind.i64.wrap ((dig A k : Nat) : Int) = ((dig A k : Nat) : Int) := IntWalk.i64_in _ (by omega)
      have w2 : IntKind.i64.wrap ((dig B k : Nat) : Int) = ((dig B k : Nat) : Int) := IntWalk.i64_in _ (by omega)
      have w3 : IntKind.i64.wrap (((dig A k : Nat) : Int) - ((dig B k : Nat) : Int)) = ((dig A k : Nat) : Int) - ((dig B k : Nat) : Int) := IntWalk.i64_in _ (by omega)
      have w4 : IntKind.i64.wrap (((dig A k : Nat) : Int) - ((dig B k : Nat) : Int) - ((borrow A B k : Nat) : Int)) = ((dig A k : Nat) : Int) - ((dig B k : Nat) : Int) - ((borrow A B k : Nat) : Int) := IntWalk.i64_in _ (by omega)
      have w7 : IntKind.i64.wrap ((k : Int) + 1) = ((k + 1 : Nat) : Int) := by rw [IntWalk.i64_in _ (by omega)]; omega
      have w8 : wr (mg (low (A - B) k)) k [.raw (.int .u32 ((dig (A - B) k : Nat) : Int))] = mg (low (A - B) (k + 1)) := mg_low_wr hk6 rfl
      by_cases hlt : dig A k < dig B k + borrow A B k
      · rw [if_pos hlt] at hbs
        have e7 : ((dig A k : Nat) : Int) - ((dig B k : Nat) : Int) - ((borrow A B k : Nat) : Int) < 0 := by omega
        have w5 : IntKind.i64.wrap (((dig A k : Nat) : Int) - ((dig B k : Nat) : Int) - ((borrow A B k : Nat) : Int) + 4294967296) = ((dig (A - B) k : Nat) : Int) := by rw [IntWalk.i64_in _ (by omega)]; omega
        have w6 : IntKind.u32.wrap ((dig (A - B) k : Nat) : Int) = ((dig (A - B) k : Nat) : Int) := IntWalk.u32_in _ (by omega)
        simp only [seval, ↓AS1, ↓AS2, TH0, List.replicate, List.append, pr, lr, er, binR, ev, putA, List.set, intOf, takeAg, cellsOf, wrAll, partsOk, ones, one, isOne, wok1, findPE, List.find?, nop, prlr, isPure, pickR, List.length_drop, e1, e2, e3, e4, e5, e6, e7, w1, w2, w3, w4, w5, w6, w7, w8]
        refine ⟨by omega, n - 1, _, _, by omega, Wk.tmps ?_, k + 1, by omega, rfl, rfl⟩
        rw [hbs]
        simp [fits]
      · rw [if_neg hlt] at hbs
        have e7 : decide (((dig A k : Nat) : Int) - ((dig B k : Nat) : Int) - ((borrow A B k : Nat) : Int) < 0) = false := by simp; omega
        have w6 : IntKind.u32.wrap (((dig A k : Nat) : Int) - ((dig B k : Nat) : Int) - ((borrow A B k : Nat) : Int)) = ((dig (A - B) k : Nat) : Int) := by rw [IntWalk.u32_in _ (by omega)]; omega
        simp only [seval, ↓AS1, ↓AS2, TH0, List.replicate, List.append, pr, lr, er, binR, ev, putA, List.set, intOf, takeAg, cellsOf, wrAll, partsOk, ones, one, isOne, wok1, findPE, List.find?, nop, prlr, isPure, pickR, List.length_drop, e1, e2, e3, e4, e5, e6, e7, w1, w2, w3, w4, w6, w7, w8]
        refine ⟨by omega, n - 1, _, _, by omega, Wk.tmps ?_, k + 1, by omega, rfl, rfl⟩
        rw [hbs]
        simp [fits]
    · have hk7 : k = 6 := by omega
      subst hk7
      have e5 : decide (((6 : Nat) : Int) < 6) = false := rfl
      simp only [seval, ↓AS1, ↓AS2, TH0, List.replicate, List.append, pr, lr, er, binR, ev, putA, List.set, intOf, takeAg, cellsOf, wrAll, partsOk, ones, one, isOne, wok1, findPE, List.find?, nop, prlr, isPure, pickR, e5]
      refine sound_of_awp ?_
      simp only [seval, ↓AS1, ↓AS2, TH0, List.replicate, List.append, pr, lr, er, binR, ev, putA, List.set, intOf, takeAg, cellsOf, wrAll, partsOk, ones, one, isOne, wok1, findPE, List.find?, nop, prlr, isPure, pickR, mg_low6]
      refine aexit_cut ?_ ?_ ⟨rfl, ?_⟩ <;> simp only [seval, ↓AS1, ↓AS2, TH0, rets, rv, rvs, List.replicate, List.append, pr, lr, er, binR, ev, putA, List.set, intOf, takeAg, cellsOf, wrAll, partsOk, ones, one, isOne, wok1, findPE, List.find?, nop, prlr, isPure, pickR]
      simp [noix, noixL, noixL_clean _ (clean_mg _)]
end
end Go.Proofs.Lite

namespace Go.Proofs.Lite
open Go
section
variable {P : Program} {F : FnsA} (h : IsA P F)
include h
theorem S_l01Ok_ct (n : Bool) (A : Nat) : Ct P F.S_l01Ok [.rp (wd n A)] [] (fun v H => H = [] ∧ v = .raw (.bool (!n || !decide (A % bW = 0)))) := by
  refine ct_of_sound h.S_l01Ok (sound_of_awp ?_)
  cases n <;> simp only [seval, ↓AS1, ↓AS2, TH0, S_l01Ok_c, List.replicate, List.append, pr, lr, er, binR, ev, putA, List.set, intOf, takeAg, cellsOf, wrAll, partsOk, ones, one, isOne, wok1, findPE, List.find?, nop, prlr, isPure, pickR]
  all_goals refine aexit_ret ?_ ⟨rfl, ?_⟩ <;> simp only [seval, ↓AS1, ↓AS2, TH0, rets, rv, List.replicate, List.append, pr, lr, er, binR, ev, putA, List.set, intOf, takeAg, cellsOf, wrAll, partsOk, ones, one, isOne, wok1, findPE, List.find?, nop, prlr, isPure, pickR]
  all_goals simp
theorem S_l01Sign_ct (n : Bool) (A : Nat) : Ct P F.S_l01Sign [.rp (wd n A)] [] (fun v H => H = [] ∧ v = .raw (.int .i64 (if n then -1 else if A % bW = 0 then 0 else 1))) := by
  refine ct_of_sound h.S_l01Sign (sound_of_awp ?_)
  cases n
  · by_cases hA : A % bW = 0
    · simp only [seval, ↓AS1, ↓AS2, TH0, S_l01Sign_c, List.replicate, List.append, pr, lr, er, binR, ev, putA, List.set, intOf, takeAg, cellsOf, wrAll, partsOk, ones, one, isOne, wok1, findPE, List.find?, nop, prlr, isPure, pickR, hA]
      refine aexit_ret ?_ ⟨rfl, ?_⟩ <;> simp only [seval, ↓AS1, ↓AS2, TH0, rets, rv, List.replicate, List.append, pr, lr, er, binR, ev, putA, List.set, intOf, takeAg, cellsOf, wrAll, partsOk, ones, one, isOne, wok1, findPE, List.find?, nop, prlr, isPure, pickR]
    · simp only [seval, ↓AS1, ↓AS2, TH0, S_l01Sign_c, List.replicate, List.append, pr, lr, er, binR, ev, putA, List.set, intOf, takeAg, cellsOf, wrAll, partsOk, ones, one, isOne, wok1, findPE, List.find?, nop, prlr, isPure, pickR, hA]
      refine aexit_ret ?_ ⟨rfl, ?_⟩ <;> simp only [seval, ↓AS1, ↓AS2, TH0, rets, rv, List.replicate, List.append, pr, lr, er, binR, ev, putA, List.set, intOf, takeAg, cellsOf, wrAll, partsOk, ones, one, isOne, wok1, findPE, List.find?, nop, prlr, isPure, pickR]
  · simp only [seval, ↓AS1, ↓AS2, TH0, S_l01Sign_c, List.replicate, List.append, pr, lr, er, binR, ev, putA, List.set, intOf, takeAg, cellsOf, wrAll, partsOk, ones, one, isOne, wok1, findPE, List.find?, nop, prlr, isPure, pickR]
    refine aexit_ret ?_ ⟨rfl, ?_⟩ <;> simp only [seval, ↓AS1, ↓AS2, TH0, rets, rv, List.replicate, List.append, pr, lr, er, binR, ev, putA, List.set, intOf, takeAg, cellsOf, wrAll, partsOk, ones, one, isOne, wok1, findPE, List.find?, nop, prlr, isPure, pickR]
theorem S_l01Neg_ct (n : Int) (hn : n.natAbs < bW) : Ct P F.S_l01Neg [.agg (wi n)] [] (fun v H => H = [] ∧ v = .agg (wi (-n))) := by
  refine ct_of_sound h.S_l01Neg (sound_of_awp ?_)
  unfold wi
  simp only [seval, ↓AS1, ↓AS2, TH0, S_l01Neg_c, List.replicate, List.append, pr, lr, er, binR, ev, putA, List.set, intOf, takeAg, cellsOf, wrAll, partsOk, ones, one, isOne, wok1, findPE, List.find?, nop, prlr, isPure, pickR]
  refine CallStep.plain (S_l01Made_ct h _ _) ?_ ?_
  · simp [noixL, noix, noixL_clean _ (clean_mg _)]
  · rintro v H' ⟨rfl, rfl⟩
    refine ⟨rfl, noix_wd _ _, ?_⟩
    simp only [seval, ↓AS1, ↓AS2, TH0, List.replicate, List.append, pr, lr, er, binR, ev, putA, List.set, intOf, takeAg, cellsOf, wrAll, partsOk, ones, one, isOne, wok1, findPE, List.find?, nop, prlr, isPure, pickR]
    refine aexit_cut ?_ ?_ ⟨rfl, ?_⟩ <;> simp only [seval, ↓AS1, ↓AS2, TH0, rets, rv, List.replicate, List.append, pr, lr, er, binR, ev, putA, List.set, intOf, takeAg, cellsOf, wrAll, partsOk, ones, one, isOne, wok1, findPE, List.find?, nop, prlr, isPure, pickR]
    rw [made_wi _ _ hn]
    congr 2
    by_cases h0 : n < 0 <;> simp [h0] <;> omega
end
end Go.Proofs.Lite

namespace Go.Proofs.Lite
open Go
section
variable {P : Program} {F : FnsA} (h : IsA P F)
include h
set_option maxRecDepth 20000 in
theorem S_l01Add_ct (a b : Int) (ha : a.natAbs < bW) (hb : b.natAbs < bW) : Ct P F.S_l01Add [.agg (wi a), .agg (wi b)] []
    (fun v H => H = [] ∧ v = .tup (if (a + b).natAbs < bW then [.agg (wi (a + b)), .raw (.int .i64 0)] else [.agg (wi 0), .raw (.int .i64 3)])) := by
  refine ct_of_sound h.S_l01Add (sound_of_awp ?_)
  have ma := Nat.mod_eq_of_lt ha
  have mb := Nat.mod_eq_of_lt hb
  rw [show wi a = wd (decide (a < 0)) a.natAbs from rfl, show wi b = wd (decide (b < 0)) b.natAbs from rfl]
  by_cases h1 : a < 0 <;> by_cases h2 : b < 0 <;> simp only [seval, ↓AS1, ↓AS2, TH0, S_l01Add_c, List.replicate, List.append, pr, lr, er, binR, ev, putA, List.set, intOf, takeAg, cellsOf, wrAll, partsOk, ones, one, isOne, wok1, findPE, List.find?, nop, prlr, isPure, pickR, h1, h2]
  · refine CallStep.lend [3, 4] [.rp (mg a.natAbs), .rp (mg b.natAbs)] (S_l01Plus_ct h _ _) (by simp [noixL, noix]) ?_ ?_
    · simp only [argsOk, and_true]
      exact ⟨lendMg rfl (by simp), lendMg rfl (by simp)⟩
    · rintro v H' ⟨rfl, rfl⟩
      refine ⟨rfl, by simp [clean, cleanL, clean_mg], ?_⟩
      by_cases hs : a.natAbs + b.natAbs < bW
      · simp only [seval, ↓AS1, ↓AS2, TH0, List.replicate, List.append, pr, lr, er, binR, ev, putA, List.set, intOf, takeAg, cellsOf, wrAll, partsOk, ones, one, isOne, wok1, findPE, List.find?, nop, prlr, isPure, pickR, ma, mb, hs]
        refine CallStep.plain (S_l01Made_ct h _ _) ?_ ?_
        · simp [noixL, noix, noixL_clean _ (clean_mg _)]
        · rintro v H' ⟨rfl, rfl⟩
          refine ⟨rfl, noix_wd _ _, ?_⟩
          simp only [seval, ↓AS1, ↓AS2, TH0, List.replicate, List.append, pr, lr, er, binR, ev, putA, List.set, intOf, takeAg, cellsOf, wrAll, partsOk, ones, one, isOne, wok1, findPE, List.find?, nop, prlr, isPure, pickR]
          refine aexit_cut ?_ ?_ ⟨rfl, ?_⟩ <;> simp only [seval, ↓AS1, ↓AS2, TH0, rets, rv, rvs, noix, noixL, noixL_clean _ (clean_wd _ _), List.replicate, List.append, pr, lr, er, binR, ev, putA, List.set, intOf, takeAg, cellsOf, wrAll, partsOk, ones, one, isOne, wok1, findPE, List.find?, nop, prlr, isPure, pickR]
          rw [if_pos (by omega)]
          first | rw [wd_minus _ hs] | rw [wd_plus]
          congr 3
          congr 1
          omega
      · simp only [seval, ↓AS1, ↓AS2, TH0, List.replicate, List.append, pr, lr, er, binR, ev, putA, List.set, intOf, takeAg, cellsOf, wrAll, partsOk, ones, one, isOne, wok1, findPE, List.find?, nop, prlr, isPure, pickR, ma, mb, hs]
        refine aexit_cut ?_ ?_ ⟨rfl, ?_⟩ <;> simp only [seval, ↓AS1, ↓AS2, TH0, rets, rv, rvs, noix, noixL, noixL_clean _ (clean_wd _ _), List.replicate, List.append, pr, lr, er, binR, ev, putA, List.set, intOf, takeAg, cellsOf, wrAll, partsOk, ones, one, isOne, wok1, findPE, List.find?, nop, prlr, isPure, pickR]
        rw [if_neg (by omega)]; rfl
  · refine CallStep.lend [3, 4] [.rp (mg a.natAbs), .rp (mg b.natAbs)] (S_l01Cmp_ct h _ _) (by simp [noixL, noix]) ?_ ?_
    · simp only [argsOk, and_true]
      exact ⟨lendMg rfl (by simp), lendMg rfl (by simp)⟩
    · rintro v H' ⟨rfl, rfl⟩
      refine ⟨rfl, trivial, ?_⟩
      by_cases hs : b.natAbs ≤ a.natAbs
      · have e1 : 0 ≤ cmpI a.natAbs b.natAbs := by unfold cmpI; split <;> (try split) <;> omega
        simp only [seval, ↓AS1, ↓AS2, TH0, List.replicate, List.append, pr, lr, er, binR, ev, putA, List.set, intOf, takeAg, cellsOf, wrAll, partsOk, ones, one, isOne, wok1, findPE, List.find?, nop, prlr, isPure, pickR, ma, mb, e1]
        refine CallStep.lend [3, 4] [.rp (mg a.natAbs), .rp (mg b.natAbs)] (S_l01Minus_ct h _ _ (by omega)) (by simp [noixL, noix]) ?_ ?_
        · simp only [argsOk, and_true]
          exact ⟨lendMg rfl (by simp), lendMg rfl (by simp)⟩
        · rintro v H' ⟨rfl, rfl⟩
          refine ⟨rfl, by simp [clean, clean_mg], ?_⟩
          simp only [seval, ↓AS1, ↓AS2, TH0, List.replicate, List.append, pr, lr, er, binR, ev, putA, List.set, intOf, takeAg, cellsOf, wrAll, partsOk, ones, one, isOne, wok1, findPE, List.find?, nop, prlr, isPure, pickR]
          refine CallStep.plain (S_l01Made_ct h _ _) ?_ ?_
          · simp [noixL, noix, noixL_clean _ (clean_mg _)]
          · rintro v H' ⟨rfl, rfl⟩
            refine ⟨rfl, noix_wd _ _, ?_⟩
            simp only [seval, ↓AS1, ↓AS2, TH0, List.replicate, List.append, pr, lr, er, binR, ev, putA, List.set, intOf, takeAg, cellsOf, wrAll, partsOk, ones, one, isOne, wok1, findPE, List.find?, nop, prlr, isPure, pickR]
            refine aexit_cut ?_ ?_ ⟨rfl, ?_⟩ <;> simp only [seval, ↓AS1, ↓AS2, TH0, rets, rv, rvs, noix, noixL, noixL_clean _ (clean_wd _ _), List.replicate, List.append, pr, lr, er, binR, ev, putA, List.set, intOf, takeAg, cellsOf, wrAll, partsOk, ones, one, isOne, wok1, findPE, List.find?, nop, prlr, isPure, pickR]
            rw [if_pos (by omega)]
            first | rw [wd_minus _ (by omega)] | rw [wd_plus]
            congr 3
            congr 1
            omega
      · have e1 : ¬ 0 ≤ cmpI a.natAbs b.natAbs := by unfold cmpI; split <;> (try split) <;> omega
        simp only [seval, ↓AS1, ↓AS2, TH0, List.replicate, List.append, pr, lr, er, binR, ev, putA, List.set, intOf, takeAg, cellsOf, wrAll, partsOk, ones, one, isOne, wok1, findPE, List.find?, nop, prlr, isPure, pickR, ma, mb, e1]
        refine CallStep.lend [3, 4] [.rp (mg b.natAbs), .rp (mg a.natAbs)] (S_l01Minus_ct h _ _ (by omega)) (by simp [noixL, noix]) ?_ ?_
        · simp only [argsOk, and_true]
          exact ⟨lendMg rfl (by simp), lendMg rfl (by simp)⟩
        · rintro v H' ⟨rfl, rfl⟩
          refine ⟨rfl, by simp [clean, clean_mg], ?_⟩
          simp only [seval, ↓AS1, ↓AS2, TH0, List.replicate, List.append, pr, lr, er, binR, ev, putA, List.set, intOf, takeAg, cellsOf, wrAll, partsOk, ones, one, isOne, wok1, findPE, List.find?, nop, prlr, isPure, pickR]
          refine CallStep.plain (S_l01Made_ct h _ _) ?_ ?_
          · simp [noixL, noix, noixL_clean _ (clean_mg _)]
          · rintro v H' ⟨rfl, rfl⟩
            refine ⟨rfl, noix_wd _ _, ?_⟩
            simp only [seval, ↓AS1, ↓AS2, TH0, List.replicate, List.append, pr, lr, er, binR, ev, putA, List.set, intOf, takeAg, cellsOf, wrAll, partsOk, ones, one, isOne, wok1, findPE, List.find?, nop, prlr, isPure, pickR]
            refine aexit_cut ?_ ?_ ⟨rfl, ?_⟩ <;> simp only [seval, ↓AS1, ↓AS2, TH0, rets, rv, rvs, noix, noixL, noixL_clean _ (clean_wd _ _), List.replicate, List.append, pr, lr, er, binR, ev, putA, List.set, intOf, takeAg, cellsOf, wrAll, partsOk, ones, one, isOne, wok1, findPE, List.find?, nop, prlr, isPure, pickR]
            rw [if_pos (by omega)]
            first | rw [wd_minus _ (by omega)] | rw [wd_plus]
            congr 3
            congr 1
            omega
  · refine CallStep.lend [3, 4] [.rp (mg a.natAbs), .rp (mg b.natAbs)] (S_l01Cmp_ct h _ _) (by simp [noixL, noix]) ?_ ?_
    · simp only [argsOk, and_true]
      exact ⟨lendMg rfl (by simp), lendMg rfl (by simp)⟩
    · rintro v H' ⟨rfl, rfl⟩
      refine ⟨rfl, trivial, ?_⟩
      by_cases hs : b.natAbs ≤ a.natAbs
      · have e1 : 0 ≤ cmpI a.natAbs b.natAbs := by unfold cmpI; split <;> (try split) <;> omega
        simp only [seval, ↓AS1, ↓AS2, TH0, List.replicate, List.append, pr, lr, er, binR, ev, putA, List.set, intOf, takeAg, cellsOf, wrAll, partsOk, ones, one, isOne, wok1, findPE, List.find?, nop, prlr, isPure, pickR, ma, mb, e1]
        refine CallStep.lend [3, 4] [.rp (mg a.natAbs), .rp (mg b.natAbs)] (S_l01Minus_ct h _ _ (by omega)) (by simp [noixL, noix]) ?_ ?_
        · simp only [argsOk, and_true]
          exact ⟨lendMg rfl (by simp), lendMg rfl (by simp)⟩
        · rintro v H' ⟨rfl, rfl⟩
          refine ⟨rfl, by simp [clean, clean_mg], ?_⟩
          simp only [seval, ↓AS1, ↓AS2, TH0, List.replicate, List.append, pr, lr, er, binR, ev, putA, List.set, intOf, takeAg, cellsOf, wrAll, partsOk, ones, one, isOne, wok1, findPE, List.find?, nop, prlr, isPure, pickR]
          refine CallStep.plain (S_l01Made_ct h _ _) ?_ ?_
          · simp [noixL, noix, noixL_clean _ (clean_mg _)]
          · rintro v H' ⟨rfl, rfl⟩
            refine ⟨rfl, noix_wd _ _, ?_⟩
            simp only [seval, ↓AS1, ↓AS2, TH0, List.replicate, List.append, pr, lr, er, binR, ev, putA, List.set, intOf, takeAg, cellsOf, wrAll, partsOk, ones, one, isOne, wok1, findPE, List.find?, nop, prlr, isPure, pickR]
            refine aexit_cut ?_ ?_ ⟨rfl, ?_⟩ <;> simp only [seval, ↓AS1, ↓AS2, TH0, rets, rv, rvs, noix, noixL, noixL_clean _ (clean_wd _ _), List.replicate, List.append, pr, lr, er, binR, ev, putA, List.set, intOf, takeAg, cellsOf, wrAll, partsOk, ones, one, isOne, wok1, findPE, List.find?, nop, prlr, isPure, pickR]
            rw [if_pos (by omega)]
            first | rw [wd_minus _ (by omega)] | rw [wd_plus]
            congr 3
            congr 1
            omega
      · have e1 : ¬ 0 ≤ cmpI a.natAbs b.natAbs := by unfold cmpI; split <;> (try split) <;> omega
        simp only [seval, ↓AS1, ↓AS2, TH0, List.replicate, List.append, pr, lr, er, binR, ev, putA, List.set, intOf, takeAg, cellsOf, wrAll, partsOk, ones, one, isOne, wok1, findPE, List.find?, nop, prlr, isPure, pickR, ma, mb, e1]
        refine CallStep.lend [3, 4] [.rp (mg b.natAbs), .rp (mg a.natAbs)] (S_l01Minus_ct h _ _ (by omega)) (by simp [noixL, noix]) ?_ ?_
        · simp only [argsOk, and_true]
          exact ⟨lendMg rfl (by simp), lendMg rfl (by simp)⟩
        · rintro v H' ⟨rfl, rfl⟩
          refine ⟨rfl, by simp [clean, clean_mg], ?_⟩
          simp only [seval, ↓AS1, ↓AS2, TH0, List.replicate, List.append, pr, lr, er, binR, ev, putA, List.set, intOf, takeAg, cellsOf, wrAll, partsOk, ones, one, isOne, wok1, findPE, List.find?, nop, prlr, isPure, pickR]
          refine CallStep.plain (S_l01Made_ct h _ _) ?_ ?_
          · simp [noixL, noix, noixL_clean _ (clean_mg _)]
          · rintro v H' ⟨rfl, rfl⟩
            refine ⟨rfl, noix_wd _ _, ?_⟩
            simp only [seval, ↓AS1, ↓AS2, TH0, List.replicate, List.append, pr, lr, er, binR, ev, putA, List.set, intOf, takeAg, cellsOf, wrAll, partsOk, ones, one, isOne, wok1, findPE, List.find?, nop, prlr, isPure, pickR]
            refine aexit_cut ?_ ?_ ⟨rfl, ?_⟩ <;> simp only [seval, ↓AS1, ↓AS2, TH0, rets, rv, rvs, noix, noixL, noixL_clean _ (clean_wd _ _), List.replicate, List.append, pr, lr, er, binR, ev, putA, List.set, intOf, takeAg, cellsOf, wrAll, partsOk, ones, one, isOne, wok1, findPE, List.find?, nop, prlr, isPure, pickR]
            rw [if_pos (by omega)]
            first | rw [wd_minus _ (by omega)] | rw [wd_plus]
            congr 3
            congr 1
            omega
  · refine CallStep.lend [3, 4] [.rp (mg a.natAbs), .rp (mg b.natAbs)] (S_l01Plus_ct h _ _) (by simp [noixL, noix]) ?_ ?_
    · simp only [argsOk, and_true]
      exact ⟨lendMg rfl (by simp), lendMg rfl (by simp)⟩
    · rintro v H' ⟨rfl, rfl⟩
      refine ⟨rfl, by simp [clean, cleanL, clean_mg], ?_⟩
      by_cases hs : a.natAbs + b.natAbs < bW
      · simp only [seval, ↓AS1, ↓AS2, TH0, List.replicate, List.append, pr, lr, er, binR, ev, putA, List.set, intOf, takeAg, cellsOf, wrAll, partsOk, ones, one, isOne, wok1, findPE, List.find?, nop, prlr, isPure, pickR, ma, mb, hs]
        refine CallStep.plain (S_l01Made_ct h _ _) ?_ ?_
        · simp [noixL, noix, noixL_clean _ (clean_mg _)]
        · rintro v H' ⟨rfl, rfl⟩
          refine ⟨rfl, noix_wd _ _, ?_⟩
          simp only [seval, ↓AS1, ↓AS2, TH0, List.replicate, List.append, pr, lr, er, binR, ev, putA, List.set, intOf, takeAg, cellsOf, wrAll, partsOk, ones, one, isOne, wok1, findPE, List.find?, nop, prlr, isPure, pickR]
          refine aexit_cut ?_ ?_ ⟨rfl, ?_⟩ <;> simp only [seval, ↓AS1, ↓AS2, TH0, rets, rv, rvs, noix, noixL, noixL_clean _ (clean_wd _ _), List.replicate, List.append, pr, lr, er, binR, ev, putA, List.set, intOf, takeAg, cellsOf, wrAll, partsOk, ones, one, isOne, wok1, findPE, List.find?, nop, prlr, isPure, pickR]
          rw [if_pos (by omega)]
          first | rw [wd_minus _ hs] | rw [wd_plus]
          congr 3
          congr 1
          omega
      · simp only [seval, ↓AS1, ↓AS2, TH0, List.replicate, List.append, pr, lr, er, binR, ev, putA, List.set, intOf, takeAg, cellsOf, wrAll, partsOk, ones, one, isOne, wok1, findPE, List.find?, nop, prlr, isPure, pickR, ma, mb, hs]
        refine aexit_cut ?_ ?_ ⟨rfl, ?_⟩ <;> simp only [seval, ↓AS1, ↓AS2, TH0, rets, rv, rvs, noix, noixL, noixL_clean _ (clean_wd _ _), List.replicate, List.append, pr, lr, er, binR, ev, putA, List.set, intOf, takeAg, cellsOf, wrAll, partsOk, ones, one, isOne, wok1, findPE, List.find?, nop, prlr, isPure, pickR]
        rw [if_neg (by omega)]; rfl
end
end Go.Proofs.Lite

namespace Go.Proofs.Lite
open Go
mutual
theorem noix_rep {D : Store} {ρ ρ' : Env} : ∀ (a : AV) (x : Value), noix a → Rep D ρ a x → Rep D ρ' a x
  | .junk, _, _, _ => by simp [Rep]
  | .raw _, _, _, h => by simpa [Rep] using h
  | .ro .., _, _, h => by simpa [Rep] using h
  | .rp _, _, _, h => by simpa [Rep] using h
  | .agg cs, _, hc, h => by
    simp only [Rep] at h ⊢; obtain ⟨vs, h1, h2⟩ := h; exact ⟨vs, h1, noixL_rep cs vs (by simpa [noix] using hc) h2⟩
  | .tup cs, _, hc, h => by
    simp only [Rep] at h ⊢; obtain ⟨vs, h1, h2⟩ := h; exact ⟨vs, h1, noixL_rep cs vs (by simpa [noix] using hc) h2⟩
  | .fn f cs, _, hc, h => by
    simp only [Rep] at h ⊢; obtain ⟨vs, h1, h2⟩ := h; exact ⟨vs, h1, noixL_rep cs vs (by simpa [noix] using hc) h2⟩
  | .ptr _ _, _, hc, _ => by simp [noix] at hc
  | .sl _ _ _ _ _, _, hc, _ => by simp [noix] at hc
  | .mp _, _, hc, _ => by simp [noix] at hc
theorem noixL_rep {D : Store} {ρ ρ' : Env} : ∀ (cs : List AV) (vs : List Value), noixL cs → RepL D ρ cs vs → RepL D ρ' cs vs
  | [], [], _, _ => by simp [RepL]
  | c :: cs, v :: vs, hc, h => by
    simp only [noixL] at hc
    simp only [RepL] at h ⊢
    exact ⟨noix_rep c v hc.1 h.1, noixL_rep cs vs hc.2 h.2⟩
  | [], _ :: _, _, h => by simp [RepL] at h
  | _ :: _, [], _, h => by simp [RepL] at h
end
theorem noixL_get : ∀ {cs : List AV} {j : Nat} {c : AV}, noixL cs → cs[j]? = some c → noix c
  | _ :: _, 0, _, h, hc => by simp only [noixL] at h; simp at hc; subst hc; exact h.1
  | _ :: _, j + 1, _, h, hc => by simp only [noixL] at h; exact noixL_get h.2 (by simpa using hc)
  | [], _, _, _, hc => by simp at hc
mutual
def frz (i : Nat) (cs : List AV) : AV → AV
  | .ptr j o => if j = i then .rp (cs.drop o) else .ptr j o
  | .sl j z o n b => if j = i then (if o + n * z ≤ cs.length then .ro z n ((cs.drop o).take (n * z)) else .junk) else .sl j z o n b
  | .agg ds => .agg (frzL i cs ds)
  | .tup ds => .tup (frzL i cs ds)
  | .fn f ds => .fn f (frzL i cs ds)
  | .mp j => .mp j
  | .junk => .junk
  | .raw v => .raw v
  | .ro z n ds => .ro z n ds
  | .rp ds => .rp ds
def frzL (i : Nat) (cs : List AV) : List AV → List AV
  | [] => []
  | d :: ds => frz i cs d :: frzL i cs ds
end
theorem frzL_eq (i : Nat) (cs : List AV) : ∀ ds, frzL i cs ds = ds.map (frz i cs)
  | [] => rfl
  | d :: ds => by simp only [frzL, List.map_cons, frzL_eq i cs ds]
def frzSg (i : Nat) (cs : List AV) : Sg → Sg
  | .c ds => .c (frzL i cs ds)
  | .m kvs => .m (kvs.map fun q => (q.1, frz i cs q.2))
  | .dead => .dead
  | .res => .res
section
variable {D D' : Store} {ρ : Env} {i : Nat} {cs : List AV} {l : Loc}
theorem frz_row (hl : Env.loc? ρ i = some l) (hc : ∀ j c, cs[j]? = some c → ∃ v, D' (l.at j) = some v ∧ Rep D' [] c v) (o k : Nat) : RepRow D' (some (l.at o)) 0 ((cs.drop o).take k) := by
  refine RepRow.of_get (fun j c hj => ?_)
  have : cs[o + j]? = some c := by
    rw [List.getElem?_take] at hj
    split at hj
    · rw [List.getElem?_drop] at hj; exact hj
    · cases hj
  obtain ⟨v, h1, h2⟩ := hc _ _ this
  refine ⟨l.at o, v, rfl, rfl, ?_, h2⟩
  have hat : (⟨(l.at o).block, (l.at o).off + (0 + j), none⟩ : Addr) = l.at (o + j) := by simp [Loc.at, Nat.add_assoc]
  rw [hat]; exact h1
mutual
theorem frz_rep (hD : Store.Le D D') (hl : Env.loc? ρ i = some l) (hc : ∀ j c, cs[j]? = some c → ∃ v, D' (l.at j) = some v ∧ Rep D' [] c v) : ∀ (a : AV) (x : Value), Rep D ρ a x → Rep D' ρ (frz i cs a) x
  | .junk, _, _ => by simp [Rep, frz]
  | .raw _, _, h => by simpa [Rep, frz] using h
  | .ro z n ds, x, h => Rep.mono hD (Env.Le.refl _) (.ro z n ds) x h
  | .rp ds, x, h => Rep.mono hD (Env.Le.refl _) (.rp ds) x h
  | .ptr j o, x, h => by
    simp only [frz]
    split
    · rename_i e; subst e
      simp only [Rep] at h ⊢
      obtain ⟨l', h1, h2⟩ := h
      rw [hl] at h1; cases h1
      have := frz_row (D' := D') hl hc o (cs.drop o).length
      rw [List.take_length] at this
      exact ⟨_, h2, this⟩
    · simp only [Rep] at h ⊢; exact h
  | .sl j z o n b, x, h => by
    simp only [frz]
    split
    · rename_i e; subst e
      split
      · rename_i hle
        simp only [Rep] at h ⊢
        obtain ⟨l', a, cap, h1, h2, h3, h4, h5⟩ := h
        rw [hl] at h1; cases h1
        refine ⟨a, cap, h2, h3, by rw [List.length_take, List.length_drop]; omega, ?_⟩
        rcases h5 with h5 | h5
        · have : n = 0 := by omega
          subst this
          simp [RepRow]
        · rw [h5]; exact frz_row hl hc o _
      · simp [Rep]
    · simp only [Rep] at h ⊢; exact h
  | .agg ds, _, h => by simp only [frz, Rep] at h ⊢; obtain ⟨vs, h1, h2⟩ := h; exact ⟨vs, h1, frzL_rep hD hl hc ds vs h2⟩
  | .tup ds, _, h => by simp only [frz, Rep] at h ⊢; obtain ⟨vs, h1, h2⟩ := h; exact ⟨vs, h1, frzL_rep hD hl hc ds vs h2⟩
  | .fn f ds, _, h => by simp only [frz, Rep] at h ⊢; obtain ⟨vs, h1, h2⟩ := h; exact ⟨vs, h1, frzL_rep hD hl hc ds vs h2⟩
  | .mp j, _, h => by simp only [frz, Rep] at h ⊢; exact h
theorem frzL_rep (hD : Store.Le D D') (hl : Env.loc? ρ i = some l) (hc : ∀ j c, cs[j]? = some c → ∃ v, D' (l.at j) = some v ∧ Rep D' [] c v) : ∀ (ds : List AV) (vs : List Value), RepL D ρ ds vs → RepL D' ρ (frzL i cs ds) vs
  | [], [], _ => by simp [RepL, frzL]
  | d :: ds, v :: vs, h => by simp only [frzL, RepL] at h ⊢; exact ⟨frz_rep hD hl hc d v h.1, frzL_rep hD hl hc ds vs h.2⟩
  | [], _ :: _, h => by simp [RepL] at h
  | _ :: _, [], h => by simp [RepL] at h
end
end
section
variable {n0 : Nat} {T : List AV} {H : Heap}
def frzH (i : Nat) (cs : List AV) (H : Heap) : Heap := (H.set i .dead).map (frzSg i cs)
theorem frzH_get {i j : Nat} {cs : List AV} {sg : Sg} (h : (frzH i cs H)[j]? = some sg) : ∃ s, (H.set i .dead)[j]? = some s ∧ sg = frzSg i cs s := by
  unfold frzH at h
  rw [List.getElem?_map] at h
  cases hs : (H.set i .dead)[j]? with
  | none => rw [hs] at h; cases h
  | some s => rw [hs] at h; simp only [Option.map_some] at h; injection h with h; exact ⟨s, rfl, h.symm⟩
open Classical in
theorem Wk.freeze {i : Nat} {cs : List AV} (hi : H[i]? = some (.c cs)) (hn : noixL cs) : Wk n0 T H (frzL i cs T) (frzH i cs H) := by
  intro cx D ρ w vs h0 hb hT
  obtain ⟨l, hl, hs1, hs2⟩ := hb.inv.seg i cs hi
  have hlive : Live H i := live_c hi
  let D' : Store := fun a => if ∃ j, j < l.ext ∧ a = l.at j then w.cell? a else D a
  have hin : ∀ {a : Addr}, (∃ j, j < l.ext ∧ a = l.at j) → D' a = w.cell? a := fun h => by show (if _ then _ else _) = _; rw [if_pos h]
  have hout : ∀ {a : Addr}, ¬ (∃ j, j < l.ext ∧ a = l.at j) → D' a = D a := fun h => by show (if _ then _ else _) = _; rw [if_neg h]
  have hD : Store.Le D D' := by
    intro a v ha
    by_cases h : ∃ j, j < l.ext ∧ a = l.at j
    · obtain ⟨j, hj, rfl⟩ := h
      obtain ⟨u, _, _, h3, _⟩ := hs2 j hj
      rw [h3] at ha; cases ha
    · rw [hout h]; exact ha
  have hc : ∀ j c, cs[j]? = some c → ∃ v, D' (l.at j) = some v ∧ Rep D' [] c v := by
    intro j c hj
    have hlt : j < cs.length := (List.getElem?_eq_some_iff.1 hj).1
    obtain ⟨v, h1, h2, h3, h4⟩ := hs2 j (by omega)
    exact ⟨v, by rw [hin ⟨j, by omega, rfl⟩]; exact h1, noix_rep c v (noixL_get hn hj) (Rep.mono hD (Env.Le.refl _) c v (h4 c hj))⟩
  refine ⟨D', ρ, ?_, frzL_rep hD hl hc T vs hT⟩
  have segs : ∀ j ds', (frzH i cs H)[j]? = some (.c ds') → j ≠ i ∧ ∃ ds, H[j]? = some (.c ds) ∧ ds' = frzL i cs ds := by
    intro j ds' h
    obtain ⟨s, hs, he⟩ := frzH_get h
    cases s <;> simp only [frzSg] at he <;> first | (cases he; done) | skip
    injection he with he
    have := live_set_dead (.inl ⟨_, hs⟩)
    rw [List.getElem?_set_ne (Ne.symm this.1)] at hs
    exact ⟨this.1, _, hs, he⟩
  have maps : ∀ j kvs', (frzH i cs H)[j]? = some (.m kvs') → j ≠ i ∧ ∃ kvs, H[j]? = some (.m kvs) ∧ kvs' = kvs.map fun q => (q.1, frz i cs q.2) := by
    intro j kvs' h
    obtain ⟨s, hs, he⟩ := frzH_get h
    cases s <;> simp only [frzSg] at he <;> first | (cases he; done) | skip
    injection he with he
    have := live_set_dead (.inr ⟨_, hs⟩)
    rw [List.getElem?_set_ne (Ne.symm this.1)] at hs
    exact ⟨this.1, _, hs, he⟩
  have live : ∀ j, Live (frzH i cs H) j → j ≠ i ∧ Live H j := by
    rintro j (⟨ds, h⟩ | ⟨kvs, h⟩)
    · obtain ⟨hj, ds, hs, _⟩ := segs _ _ h; exact ⟨hj, .inl ⟨_, hs⟩⟩
    · obtain ⟨hj, ds, hs, _⟩ := maps _ _ h; exact ⟨hj, .inr ⟨_, hs⟩⟩
  refine ⟨⟨?_, ?_, ?_, ?_, ?_, ?_⟩, hb.fr, ?_, hb.dle.trans hD, ?_, hb.keep⟩
  · simp only [frzH, List.length_map, List.length_set]; exact hb.inv.len
  · intro a v ha
    by_cases h : ∃ j, j < l.ext ∧ a = l.at j
    · rw [hin h] at ha; exact ha
    · rw [hout h] at ha; exact hb.inv.d a v ha
  · intro j ds' h
    obtain ⟨hj, ds, hs, rfl⟩ := segs _ _ h
    obtain ⟨lj, h1, h2, h3⟩ := hb.inv.seg _ _ hs
    refine ⟨lj, h1, by rw [frzL_eq, List.length_map]; exact h2, fun k hk => ?_⟩
    obtain ⟨v, g1, g2, g3, g4⟩ := h3 k hk
    refine ⟨v, g1, g2, ?_, fun c hc' => ?_⟩
    · rw [hout]
      · exact g3
      · rintro ⟨p, hp, he⟩
        exact hb.inv.dis j i lj l hj (live_c hs) hlive h1 hl k p hk hp he
    · rw [frzL_eq, List.getElem?_map] at hc'
      cases hcj : ds[k]? with
      | none => rw [hcj] at hc'; cases hc'
      | some c' => rw [hcj] at hc'; injection hc' with hc'; subst hc'; exact frz_rep hD hl hc c' v (g4 c' hcj)
  · intro j kvs' h
    obtain ⟨hj, kvs, hs, rfl⟩ := maps _ _ h
    obtain ⟨lj, h1, h2, h3, es, m, h4, h5, h6, h7⟩ := hb.inv.mpp _ _ hs
    refine ⟨lj, h1, h2, h3, es, m, h4, by rw [h5]; simp, ?_, h7⟩
    have : (kvs.map fun q => (q.1, frz i cs q.2)).map (·.2) = frzL i cs (kvs.map (·.2)) := by rw [frzL_eq]; simp
    rw [this]; exact frzL_rep hD hl hc _ _ h6
  · intro j h
    obtain ⟨s, hs, he⟩ := frzH_get h
    cases s <;> simp only [frzSg] at he <;> first | (cases he; done) | skip
    by_cases e : j = i
    · subst e
      rw [List.getElem?_set] at hs
      simp only [if_true] at hs
      split at hs <;> cases hs
    · rw [List.getElem?_set_ne (Ne.symm e)] at hs; exact hb.inv.res j hs
  · intro a b la lb hab ha hb'
    exact hb.inv.dis a b la lb hab (live a ha).2 (live b hb').2
  · intro j lj hj
    exact hb.av j lj (live j hj).2
  · intro a v ha
    by_cases h : ∃ j, j < l.ext ∧ a = l.at j
    · obtain ⟨j, hj, rfl⟩ := h
      exact .inr (hb.av i l hlive hl j hj)
    · rw [hout h] at ha; exact hb.dav a v ha
end
end Go.Proofs.Lite

namespace Go.Proofs.Lite
open Go
section
variable {P : Program} {base : Nat} {T : List AV} {H : Heap}
/-- A mark that keeps what follows a call from being looked into. -/
structure KW (K : List AV → Heap → Prop) : Type where
  a : Nat
def CallD (P : Program) (f : FuncId) (args : List AV) (d : Option Nat) (T : List AV) (H : Heap) (K : List AV → Heap → Prop) (_ : KW K) : Prop := CallStep P f args H (fun v H' => K (putA T d v) H')
theorem o_call {K : List AV → Heap → Prop} {d : Option Nat} {f xs} : aop P base ⟨d, none, .call f xs⟩ T H K = CallD P f (xs.map (ev T)) d T H K ⟨0⟩ := propext ⟨fun h => h, fun h => h⟩
theorem o_callv {K : List AV → Heap → Prop} {d : Option Nat} {x xs} : aop P base ⟨d, none, .callv x xs⟩ T H K = (match ev T x with
    | .fn f caps => callable P f = true ∧ CallD P f (xs.map (ev T) ++ caps) d T H K ⟨0⟩
    | _ => False) := propext ⟨fun h => h, fun h => h⟩
theorem o_some {d : Option Nat} {t : Nat} {w : Bool} {op : LOp} {K : List AV → Heap → Prop} : aop P base ⟨d, some (t, w), op⟩ T H K = (match T.getD t .junk with
    | .raw (.bool b) => if b = w then aop P base ⟨d, none, op⟩ T H K else K (putA T d (.raw (.tuple #[]))) H
    | .raw (.tuple _) => K (putA T d (.raw (.tuple #[]))) H
    | _ => False) := op_some
theorem o_load {K : List AV → Heap → Prop} {d : Option Nat} {ag n x} : aop P base ⟨d, none, .load ag n x⟩ T H K = ((lr T H (.load ag n x)).1 ∧ K (putA T d (lr T H (.load ag n x)).2) H) := propext ⟨fun h => h, fun h => h⟩
theorem o_sarr {K : List AV → Heap → Prop} {d : Option Nat} {len z x lo hi} : aop P base ⟨d, none, .sarr len z x lo hi⟩ T H K = ((lr T H (.sarr len z x lo hi)).1 ∧ K (putA T d (lr T H (.sarr len z x lo hi)).2) H) := propext ⟨fun h => h, fun h => h⟩
theorem o_alloc {K : List AV → Heap → Prop} {d : Option Nat} {z} : aop P base ⟨d, none, .alloc z⟩ T H K = ((er T H base (.alloc z)).1 ∧ K (putA T d (er T H base (.alloc z)).2.1) (er T H base (.alloc z)).2.2) := propext ⟨fun h => h, fun h => h⟩
theorem o_allocAt {K : List AV → Heap → Prop} {d : Option Nat} {r z} : aop P base ⟨d, none, .allocAt r z⟩ T H K = ((er T H base (.allocAt r z)).1 ∧ K (putA T d (er T H base (.allocAt r z)).2.1) (er T H base (.allocAt r z)).2.2) := propext ⟨fun h => h, fun h => h⟩
theorem o_box {K : List AV → Heap → Prop} {d : Option Nat} {x} : aop P base ⟨d, none, .box x⟩ T H K = ((er T H base (.box x)).1 ∧ K (putA T d (er T H base (.box x)).2.1) (er T H base (.box x)).2.2) := propext ⟨fun h => h, fun h => h⟩
theorem o_boxAt {K : List AV → Heap → Prop} {d : Option Nat} {r x} : aop P base ⟨d, none, .boxAt r x⟩ T H K = ((er T H base (.boxAt r x)).1 ∧ K (putA T d (er T H base (.boxAt r x)).2.1) (er T H base (.boxAt r x)).2.2) := propext ⟨fun h => h, fun h => h⟩
theorem o_store {K : List AV → Heap → Prop} {d : Option Nat} {n x v} : aop P base ⟨d, none, .store n x v⟩ T H K = ((er T H base (.store n x v)).1 ∧ K (putA T d (er T H base (.store n x v)).2.1) (er T H base (.store n x v)).2.2) := propext ⟨fun h => h, fun h => h⟩
theorem o_bsl {K : List AV → Heap → Prop} {d : Option Nat} {z len zero parts} : aop P base ⟨d, none, .bsl z len zero parts⟩ T H K = ((er T H base (.bsl z len zero parts)).1 ∧ K (putA T d (er T H base (.bsl z len zero parts)).2.1) (er T H base (.bsl z len zero parts)).2.2) := propext ⟨fun h => h, fun h => h⟩
theorem o_msl {K : List AV → Heap → Prop} {d : Option Nat} {z b zero l c} : aop P base ⟨d, none, .msl z b zero l c⟩ T H K = ((er T H base (.msl z b zero l c)).1 ∧ K (putA T d (er T H base (.msl z b zero l c)).2.1) (er T H base (.msl z b zero l c)).2.2) := propext ⟨fun h => h, fun h => h⟩
theorem o_app {K : List AV → Heap → Prop} {d : Option Nat} {z b s x} : aop P base ⟨d, none, .app z b s x⟩ T H K = ((er T H base (.app z b s x)).1 ∧ K (putA T d (er T H base (.app z b s x)).2.1) (er T H base (.app z b s x)).2.2) := propext ⟨fun h => h, fun h => h⟩
theorem o_cpy {K : List AV → Heap → Prop} {dd : Option Nat} {z d s} : aop P base ⟨dd, none, .cpy z d s⟩ T H K = ((er T H base (.cpy z d s)).1 ∧ K (putA T dd (er T H base (.cpy z d s)).2.1) (er T H base (.cpy z d s)).2.2) := propext ⟨fun h => h, fun h => h⟩
theorem o_mv {K : List AV → Heap → Prop} {d : Option Nat} {x} : aop P base ⟨d, none, .mv x⟩ T H K = ((pr T (.mv x)).1 ∧ K (putA T d (pr T (.mv x)).2) H) := propext ⟨fun h => h, fun h => h⟩
theorem o_pick {K : List AV → Heap → Prop} {d : Option Nat} {c a b} : aop P base ⟨d, none, .pick c a b⟩ T H K = ((pr T (.pick c a b)).1 ∧ K (putA T d (pr T (.pick c a b)).2) H) := propext ⟨fun h => h, fun h => h⟩
theorem o_bin {K : List AV → Heap → Prop} {d : Option Nat} {op x y} : aop P base ⟨d, none, .bin op x y⟩ T H K = ((pr T (.bin op x y)).1 ∧ K (putA T d (pr T (.bin op x y)).2) H) := propext ⟨fun h => h, fun h => h⟩
theorem o_beq {K : List AV → Heap → Prop} {d : Option Nat} {n x y} : aop P base ⟨d, none, .beq n x y⟩ T H K = ((pr T (.beq n x y)).1 ∧ K (putA T d (pr T (.beq n x y)).2) H) := propext ⟨fun h => h, fun h => h⟩
theorem o_eqs {K : List AV → Heap → Prop} {d : Option Nat} {n k x y} : aop P base ⟨d, none, .eqs n k x y⟩ T H K = ((pr T (.eqs n k x y)).1 ∧ K (putA T d (pr T (.eqs n k x y)).2) H) := propext ⟨fun h => h, fun h => h⟩
theorem o_un {K : List AV → Heap → Prop} {d : Option Nat} {op x} : aop P base ⟨d, none, .un op x⟩ T H K = ((pr T (.un op x)).1 ∧ K (putA T d (pr T (.un op x)).2) H) := propext ⟨fun h => h, fun h => h⟩
theorem o_conv {K : List AV → Heap → Prop} {d : Option Nat} {k x} : aop P base ⟨d, none, .conv k x⟩ T H K = ((pr T (.conv k x)).1 ∧ K (putA T d (pr T (.conv k x)).2) H) := propext ⟨fun h => h, fun h => h⟩
theorem o_nilc {K : List AV → Heap → Prop} {d : Option Nat} {x} : aop P base ⟨d, none, .nilc x⟩ T H K = ((pr T (.nilc x)).1 ∧ K (putA T d (pr T (.nilc x)).2) H) := propext ⟨fun h => h, fun h => h⟩
theorem o_fad {K : List AV → Heap → Prop} {d : Option Nat} {o x} : aop P base ⟨d, none, .fad o x⟩ T H K = ((pr T (.fad o x)).1 ∧ K (putA T d (pr T (.fad o x)).2) H) := propext ⟨fun h => h, fun h => h⟩
theorem o_fld {K : List AV → Heap → Prop} {d : Option Nat} {a n o x} : aop P base ⟨d, none, .fld a n o x⟩ T H K = ((pr T (.fld a n o x)).1 ∧ K (putA T d (pr T (.fld a n o x)).2) H) := propext ⟨fun h => h, fun h => h⟩
theorem o_iarr {K : List AV → Heap → Prop} {d : Option Nat} {l z x i} : aop P base ⟨d, none, .iarr l z x i⟩ T H K = ((pr T (.iarr l z x i)).1 ∧ K (putA T d (pr T (.iarr l z x i)).2) H) := propext ⟨fun h => h, fun h => h⟩
theorem o_isl {K : List AV → Heap → Prop} {d : Option Nat} {z x i} : aop P base ⟨d, none, .isl z x i⟩ T H K = ((pr T (.isl z x i)).1 ∧ K (putA T d (pr T (.isl z x i)).2) H) := propext ⟨fun h => h, fun h => h⟩
theorem o_aidx {K : List AV → Heap → Prop} {d : Option Nat} {a l z x i} : aop P base ⟨d, none, .aidx a l z x i⟩ T H K = ((pr T (.aidx a l z x i)).1 ∧ K (putA T d (pr T (.aidx a l z x i)).2) H) := propext ⟨fun h => h, fun h => h⟩
theorem o_sidx {K : List AV → Heap → Prop} {d : Option Nat} {x i} : aop P base ⟨d, none, .sidx x i⟩ T H K = ((pr T (.sidx x i)).1 ∧ K (putA T d (pr T (.sidx x i)).2) H) := propext ⟨fun h => h, fun h => h⟩
theorem o_ssl {K : List AV → Heap → Prop} {d : Option Nat} {z x lo hi} : aop P base ⟨d, none, .ssl z x lo hi⟩ T H K = ((pr T (.ssl z x lo hi)).1 ∧ K (putA T d (pr T (.ssl z x lo hi)).2) H) := propext ⟨fun h => h, fun h => h⟩
theorem o_sstr {K : List AV → Heap → Prop} {d : Option Nat} {x lo hi} : aop P base ⟨d, none, .sstr x lo hi⟩ T H K = ((pr T (.sstr x lo hi)).1 ∧ K (putA T d (pr T (.sstr x lo hi)).2) H) := propext ⟨fun h => h, fun h => h⟩
theorem o_ext {K : List AV → Heap → Prop} {d : Option Nat} {k x} : aop P base ⟨d, none, .ext k x⟩ T H K = ((pr T (.ext k x)).1 ∧ K (putA T d (pr T (.ext k x)).2) H) := propext ⟨fun h => h, fun h => h⟩
theorem o_build {K : List AV → Heap → Prop} {d : Option Nat} {z ps} : aop P base ⟨d, none, .build z ps⟩ T H K = ((pr T (.build z ps)).1 ∧ K (putA T d (pr T (.build z ps)).2) H) := propext ⟨fun h => h, fun h => h⟩
theorem o_lens {K : List AV → Heap → Prop} {d : Option Nat} {x} : aop P base ⟨d, none, .lens x⟩ T H K = ((pr T (.lens x)).1 ∧ K (putA T d (pr T (.lens x)).2) H) := propext ⟨fun h => h, fun h => h⟩
theorem o_lstr {K : List AV → Heap → Prop} {d : Option Nat} {x} : aop P base ⟨d, none, .lstr x⟩ T H K = ((pr T (.lstr x)).1 ∧ K (putA T d (pr T (.lstr x)).2) H) := propext ⟨fun h => h, fun h => h⟩
theorem o_lenc {K : List AV → Heap → Prop} {d : Option Nat} {n} : aop P base ⟨d, none, .lenc n⟩ T H K = ((pr T (.lenc n)).1 ∧ K (putA T d (pr T (.lenc n)).2) H) := propext ⟨fun h => h, fun h => h⟩
theorem o_mm {K : List AV → Heap → Prop} {d : Option Nat} {b xs} : aop P base ⟨d, none, .mm b xs⟩ T H K = ((pr T (.mm b xs)).1 ∧ K (putA T d (pr T (.mm b xs)).2) H) := propext ⟨fun h => h, fun h => h⟩
theorem o_mkfn {K : List AV → Heap → Prop} {d : Option Nat} {f cs} : aop P base ⟨d, none, .mkfn f cs⟩ T H K = ((pr T (.mkfn f cs)).1 ∧ K (putA T d (pr T (.mkfn f cs)).2) H) := propext ⟨fun h => h, fun h => h⟩
theorem o_s2a {K : List AV → Heap → Prop} {d : Option Nat} {n z x} : aop P base ⟨d, none, .s2a n z x⟩ T H K = ((pr T (.s2a n z x)).1 ∧ K (putA T d (pr T (.s2a n z x)).2) H) := propext ⟨fun h => h, fun h => h⟩
theorem o_snil {K : List AV → Heap → Prop} {d : Option Nat} {b x} : aop P base ⟨d, none, .snil b x⟩ T H K = ((pr T (.snil b x)).1 ∧ K (putA T d (pr T (.snil b x)).2) H) := propext ⟨fun h => h, fun h => h⟩
theorem o_bslAt {K : List AV → Heap → Prop} {d : Option Nat} {r z len zero parts} : aop P base ⟨d, none, .bslAt r z len zero parts⟩ T H K = ((er T H base (.bslAt r z len zero parts)).1 ∧ K (putA T d (er T H base (.bslAt r z len zero parts)).2.1) (er T H base (.bslAt r z len zero parts)).2.2) := propext ⟨fun h => h, fun h => h⟩
end
end Go.Proofs.Lite

namespace Go.Proofs.Lite
open Go
section
variable {P : Program} {n0 : Nat} {T : List AV} {H : Heap} {f : FuncId}
/-- A function of values: it is handed no memory to write, and hands none back. -/
structure Pf (P : Program) (f : FuncId) (args : List AV) (v : AV) : Prop where
  ct : Ct P f args [] (fun v' H' => H' = [] ∧ v' = v)
  na : noixL args
  nv : noix v
theorem Pf.step {args : List AV} {v : AV} (h : Pf P f args v) {d : Option Nat} {K : List AV → Heap → Prop} {w : KW K} (hk : K (putA T d v) H) : CallD P f args d T H K w :=
  CallStep.plain h.ct h.na (by rintro v' H' ⟨rfl, rfl⟩; exact ⟨rfl, h.nv, hk⟩)
/-- What is handed over, with what is lent. -/
inductive Lends (H : Heap) : List AV → List AV → Prop
  | nil : Lends H [] []
  | v {a : AV} {as bs : List AV} : Lends H as bs → Lends H (a :: as) (a :: bs)
  | p {i o : Nat} {cs seg : List AV} {as bs : List AV} : H[i]? = some (.c seg) → cleanL cs → o + cs.length ≤ seg.length → (seg.drop o).take cs.length = cs → Lends H as bs → Lends H (.ptr i o :: as) (.rp cs :: bs)
  | s {i z o n : Nat} {b : Bool} {cs seg : List AV} {as bs : List AV} : H[i]? = some (.c seg) → cleanL cs → cs.length = n * z → o + cs.length ≤ seg.length → (seg.drop o).take cs.length = cs → Lends H as bs → Lends H (.sl i z o n b :: as) (.ro z n cs :: bs)
theorem Lends.p0 {i : Nat} {cs as bs : List AV} (hi : H[i]? = some (.c cs)) (hc : cleanL cs) (h : Lends H as bs) : Lends H (.ptr i 0 :: as) (.rp cs :: bs) :=
  .p hi hc (by simp) (by simp) h
theorem Lends.args {as bs : List AV} (h : Lends H as bs) (hn : noixL bs) : argsOk [] H.length H (List.range H.length) as bs := by
  induction h with
  | nil => simp [argsOk]
  | v _ ih => simp only [noixL] at hn; simp only [argsOk]; exact ⟨.inl (ren_noix _ hn.1).symm, ih hn.2⟩
  | p hi hc h1 h2 _ ih =>
    simp only [noixL] at hn; simp only [argsOk]
    exact ⟨.inr (.inl ⟨_, _, _, _, rfl, rfl, hi, List.mem_range.2 (List.getElem?_eq_some_iff.1 hi).1, h1, h2, hc⟩), ih hn.2⟩
  | s hi hc h0 h1 h2 _ ih =>
    simp only [noixL] at hn; simp only [argsOk]
    exact ⟨.inr (.inr ⟨_, _, _, _, _, _, _, rfl, rfl, hi, List.mem_range.2 (List.getElem?_eq_some_iff.1 hi).1, h0, h1, h2, hc⟩), ih hn.2⟩
theorem Pf.lend {args argsc : List AV} {v : AV} (h : Pf P f argsc v) (hl : Lends H args argsc) (hv : clean v) {d : Option Nat} {K : List AV → Heap → Prop} {w : KW K} (hk : K (putA T d v) H) : CallD P f args d T H K w :=
  CallStep.lend (List.range H.length) argsc h.ct h.na (hl.args h.na) (by rintro v' H' ⟨rfl, rfl⟩; exact ⟨rfl, hv, hk⟩)
/-- A value, with the memory that it needs, is as good as another one. -/
def WkV (n0 : Nat) (H : Heap) (a v : AV) (H' : Heap) : Prop := Wk n0 [a] H [v] H'
theorem WkV.eq {a v : AV} (h : a = v) (hv : noix v) : WkV 0 H a v [] := by
  subst h
  have := Wk.cut (n0 := 0) (T := [a]) (H := H) (Nat.le_refl 0)
  simp only [cutL, cut_noix _ hv, cutH, List.take_zero, List.map_nil] at this
  exact this
theorem WkV.frz {i : Nat} {cs : List AV} {a v : AV} {H' : Heap} (hi : H[i]? = some (.c cs)) (hn : noixL cs) (h : WkV n0 (frzH i cs H) (frz i cs a) v H') : WkV n0 H a v H' := by
  have := Wk.freeze (n0 := n0) (T := [a]) hi hn
  simp only [frzL] at this
  exact this.trans h
def Pend (rs : List RV) (v : AV) : Post
  | .exit _, _, _ => False
  | _, T, H => (rets T H rs).1 ∧ WkV 0 H (rets T H rs).2 v []
theorem pend_ret {rs : List RV} {v : AV} : Pend rs v .ret T H = ((rets T H rs).1 ∧ WkV 0 H (rets T H rs).2 v []) := rfl
theorem pend_normal {rs : List RV} {v : AV} : Pend rs v .normal T H = ((rets T H rs).1 ∧ WkV 0 H (rets T H rs).2 v []) := rfl
theorem pf_of {lf : LF} {args : List AV} {v : AV} (hf : stripF P f = some lf) (na : noixL args) (nv : noix v)
    (h : awp P 0 lf.code (Pend lf.res v) (args ++ List.replicate (lf.ntmps - args.length) .junk) []) : Pf P f args v := by
  refine ⟨ct_of_sound hf ((sound_of_awp h).mono ?_), na, nv⟩
  intro e T H he
  cases e with
  | normal => exact ⟨he.1, v, [], he.2, rfl, rfl⟩
  | ret => exact ⟨he.1, v, [], he.2, rfl, rfl⟩
  | exit i => exact he.elim
/-- A function that is handed one piece of memory to write, beside values. -/
structure Ow (P : Program) (f : FuncId) (c args : List AV) (v : AV) (c' : List AV) : Prop where
  ct : Ct P f (.ptr 0 0 :: args) [.c c] (fun v' H' => H' = [.c c'] ∧ v' = v)
  na : noixL args
  nv : noix v
  nc : noixL c
  nc' : noixL c'
  len : c'.length = c.length
theorem Ow.step {c args c' : List AV} {v : AV} (h : Ow P f c args v c') {i o : Nat} {seg : List AV} (hi : H[i]? = some (.c seg)) (hl : o + c.length ≤ seg.length) (hs : (seg.drop o).take c.length = c)
    {d : Option Nat} {K : List AV → Heap → Prop} {w : KW K} (hk : K (putA T d v) (H.set i (.c (wr seg o c')))) : CallD P f (.ptr i o :: args) d T H K w := by
  refine ⟨[(i, o)], [], .ptr 0 0 :: args, [.c c], _, h.ct, ?_, ?_, by simp, ?_, ?_, fun v' Hc' hR => ⟨fun h => absurd rfl h, ?_⟩⟩
  · simp only [argsOk]
    exact ⟨.inl (by simp [ren, rix]), argsOk_same h.na⟩
  · simp only [embOk, and_true]
    exact ⟨by simp, seg, hi, hl, by rw [renL_noix c h.nc]; exact hs⟩
  · simp only [slOkL, slOk, true_and]; exact slOkL_noix args h.na
  · simp only [slOkH, and_true]; exact slOkL_noix c h.nc
  · obtain ⟨rfl, rfl⟩ := hR
    rw [ren_noix _ h.nv]
    simp only [back, backs, back1, getD_c' hi, h.len, true_or, if_true, renL_noix c' h.nc', List.length_singleton, List.drop_succ_cons, List.drop_zero, List.map_nil, List.append_nil]
    simpa only [wr, h.len] using hk
theorem Ow.step0 {c args c' : List AV} {v : AV} (h : Ow P f c args v c') {i : Nat} (hi : H[i]? = some (.c c))
    {d : Option Nat} {K : List AV → Heap → Prop} {w : KW K} (hk : K (putA T d v) (H.set i (.c c'))) : CallD P f (.ptr i 0 :: args) d T H K w :=
  h.step hi (by simp) (by simp) (by rw [wr_full h.len.symm]; exact hk)
def Oend (rs : List RV) (v : AV) (c' : List AV) : Post
  | .exit _, _, _ => False
  | _, T, H => (rets T H rs).1 ∧ WkV 1 H (rets T H rs).2 v [.c c']
theorem oend_ret {rs : List RV} {v : AV} {c' : List AV} : Oend rs v c' .ret T H = ((rets T H rs).1 ∧ WkV 1 H (rets T H rs).2 v [.c c']) := rfl
theorem oend_normal {rs : List RV} {v : AV} {c' : List AV} : Oend rs v c' .normal T H = ((rets T H rs).1 ∧ WkV 1 H (rets T H rs).2 v [.c c']) := rfl
theorem WkV.eq1 {a v : AV} {c c' : List AV} {H : Heap} (h : a = v) (hv : noix v) (hc : c = c') (hc' : noixL c') : WkV 1 (.c c :: H) a v [.c c'] := by
  subst h hc
  have := Wk.cut (n0 := 1) (T := [a]) (H := .c c :: H) (Nat.le_refl 1)
  simp only [cutL, cut_noix _ hv, cutH, List.take_succ_cons, List.take_zero, List.map_nil, List.map_cons, cutSg, cutL_noix _ hc'] at this
  exact this
theorem ow_of {lf : LF} {c args c' : List AV} {v : AV} (hf : stripF P f = some lf) (na : noixL args) (nv : noix v) (nc : noixL c) (nc' : noixL c') (len : c'.length = c.length)
    (h : awp P 1 lf.code (Oend lf.res v c') ((.ptr 0 0 :: args) ++ List.replicate (lf.ntmps - (args.length + 1)) .junk) [.c c]) : Ow P f c args v c' := by
  refine ⟨ct_of_sound hf ((sound_of_awp h).mono ?_), na, nv, nc, nc', len⟩
  intro e T H he
  cases e with
  | normal => exact ⟨he.1, v, _, he.2, rfl, rfl⟩
  | ret => exact ⟨he.1, v, _, he.2, rfl, rfl⟩
  | exit i => exact he.elim
/-- A loop with a state. -/
theorem loop_st {σ : Type} {a : LC} {Q : Post} (μ : σ → Nat) (TT : σ → List AV) (HH : σ → Heap) (J : σ → Prop) (s0 : σ) (h0 : J s0) (hw : Wk n0 T H (TT s0) (HH s0))
    (step : ∀ s, J s → awp P n0 a (athen (fun T' H' => ∃ s', μ s' < μ s ∧ J s' ∧ Wk n0 T' H' (TT s') (HH s')) Q) (TT s) (HH s)) : Sound P n0 (.loop a) Q T H := by
  refine Sound.loopw (fun n T H => ∃ s, n = μ s ∧ J s ∧ T = TT s ∧ H = HH s) (n := μ s0) hw ⟨s0, rfl, h0, rfl, rfl⟩ ?_
  rintro n T H ⟨s, rfl, hJ, rfl, rfl⟩
  refine (sound_of_awp (step s hJ)).mono ?_
  intro e T' H' he
  cases e with
  | normal =>
    obtain ⟨s', h1, h2, h3⟩ := he
    exact ⟨μ s', _, _, h1, h3, s', rfl, h2, rfl, rfl⟩
  | exit i => exact he
  | ret => exact he
theorem Wk.tmps' {T' : List AV} {H' : Heap} (h : fits T T') (e : H = H') : Wk n0 T H T' H' := e ▸ Wk.tmps h
theorem own_of {lf : LF} {c args c' : List AV} {v : AV} (hf : stripF P f = some lf)
    (h : awp P 1 lf.code (Oend lf.res v c') (args ++ List.replicate (lf.ntmps - args.length) .junk) [.c c]) : Ct P f args [.c c] (fun v' H' => H' = [.c c'] ∧ v' = v) := by
  refine ct_of_sound hf ((sound_of_awp h).mono ?_)
  intro e T H he
  cases e with
  | normal => exact ⟨he.1, v, _, he.2, rfl, rfl⟩
  | ret => exact ⟨he.1, v, _, he.2, rfl, rfl⟩
  | exit i => exact he.elim
theorem callD_own1 (bs : List Nat) (i o : Nat) (cs seg : List AV) {args : List AV} (argsc : List AV) {c' : List AV} {v : AV} (h : Ct P f argsc [.c cs] (fun v' H' => H' = [.c c'] ∧ v' = v)) (hi : H[i]? = some (.c seg)) (hb : i ∉ bs) (hlen : o + cs.length ≤ seg.length)
    (hseg : (seg.drop o).take cs.length = cs) (hcs : noixL cs) (ha : argsOk [(i, o)] H.length H bs args argsc) (hs : ∀ t, slOkL t argsc) (hc : c'.length = cs.length) (hcl : cleanL c') (hv : clean v)
    {d : Option Nat} {K : List AV → Heap → Prop} {w : KW K} (hk : K (putA T d v) (H.set i (.c (seg.take o ++ (c' ++ seg.drop (o + cs.length)))))) : CallD P f args d T H K w :=
  CallStep.own1 bs i o cs seg argsc h hi hb hlen hseg hcs ha hs (by rintro v' H' ⟨rfl, rfl⟩; exact ⟨_, rfl, hc, hcl, hv, hk⟩)
/-- Behind a loop what is known is brought to one form. -/
theorem loop_cut {τ : Type} {id : Nat} {a rest : LC} {Q : Post} (TT : τ → List AV) (HH : τ → Heap) (J : τ → Prop)
    (hl : Sound P n0 (.loop a) (ablock id (athen (fun T' H' => ∃ s, J s ∧ Wk n0 T' H' (TT s) (HH s)) Q)) T H)
    (hr : ∀ s, J s → awp P n0 rest Q (TT s) (HH s)) : Sound P n0 (.loop a) (ablock id (athen (awp P n0 rest Q) Q)) T H := by
  refine Sound.wkPost (hl.mono ?_)
  intro e T' H' he
  cases e with
  | normal =>
    obtain ⟨s, h1, h2⟩ := he
    exact ⟨_, _, h2, hr s h1⟩
  | exit j =>
    simp only [ablock] at he ⊢
    by_cases hj : j = id
    · rw [if_pos hj] at he
      obtain ⟨s, h1, h2⟩ := he
      refine ⟨_, _, h2, ?_⟩
      rw [if_pos hj]; exact hr s h1
    · rw [if_neg hj] at he
      refine ⟨_, _, Wk.refl, ?_⟩
      rw [if_neg hj]; exact he
  | ret => exact ⟨_, _, Wk.refl, he⟩
end
end Go.Proofs.Lite

namespace Go.Proofs.Lite
open Go
def SD1 := And.intro @o_call <| And.intro @o_callv <| And.intro @o_some <| And.intro @o_load <| And.intro @o_sarr <| And.intro @o_alloc <| And.intro @o_allocAt <| And.intro @o_box <| And.intro @o_boxAt <| And.intro @o_store <| And.intro @o_bsl <| And.intro @o_msl <| And.intro @o_app <| And.intro @o_cpy <| And.intro @o_mv <| And.intro @o_pick <| And.intro @o_bin <| And.intro @o_beq <| And.intro @o_eqs <| And.intro @o_un @o_conv
def SD2 := And.intro @o_nilc <| And.intro @o_fad <| And.intro @o_fld <| And.intro @o_iarr <| And.intro @o_isl <| And.intro @o_aidx <| And.intro @o_sidx <| And.intro @o_ssl <| And.intro @o_sstr <| And.intro @o_ext <| And.intro @o_build <| And.intro @o_lens <| And.intro @o_lstr <| And.intro @o_lenc <| And.intro @o_mm <| And.intro @o_mkfn <| And.intro @o_s2a <| And.intro @o_snil <| And.intro @o_bslAt <| And.intro @ops_nil <| And.intro @ops_cons <| And.intro @plan_nil <| And.intro @plan_cons <| And.intro @wok_nil <| And.intro @wok_cons <| And.intro @wp_skip' <| And.intro @wp_reg' <| And.intro @wp_dreg' <| And.intro @wp_seq' <| And.intro @wp_cond' <| And.intro @wp_block' <| And.intro @wp_loop' <| And.intro @wp_exit' <| And.intro @wp_ret' <| And.intro @th_normal <| And.intro @th_exit <| And.intro @th_ret <| And.intro @bl_normal <| And.intro @bl_exit <| And.intro @bl_ret <| And.intro @pend_ret <| And.intro @pend_normal <| And.intro @oend_ret @oend_normal
def SU1 := And.intro @List.length_nil.{0} <| And.intro @List.length_cons.{0} <| And.intro @List.cons_append.{0} <| And.intro @List.nil_append.{0} <| And.intro @List.getD_cons_succ.{0} <| And.intro @List.getD_cons_zero.{0} <| And.intro true_and <| And.intro and_true <| And.intro @List.map_nil.{0,0} <| And.intro @List.map_cons.{0,0} <| And.intro @raws_mg0 <| And.intro @raws_wd0 <| And.intro @mg_length <| And.intro @wd_length <| And.intro @ones_mg <| And.intro @ones_wd <| And.intro @kindL_mg <| And.intro @headK_mg <| And.intro @eqL_mg <| And.intro @take_mg <| And.intro @take_wd <| And.intro @drop1_wd <| And.intro @getD0_wd <| And.intro @beq_self_eq_true.{0} <| And.intro @wr_mg <| And.intro @wr_wd <| And.intro @List.drop_zero.{0} <| And.intro Nat.zero_mod <| And.intro @List.all_nil.{0} <| And.intro @List.all_cons.{0} <| And.intro @mk_wd @noix_wd
def SU2 := And.intro Nat.le_refl <| And.intro @Int.toNat_natCast <| And.intro Nat.mul_one <| And.intro Nat.zero_add <| And.intro Bool.false_eq_true <| And.intro @ge_iff_le.{0} <| And.intro @gt_iff_lt.{0} <| And.intro @Option.some.injEq.{0} <| And.intro false_or <| And.intro or_true <| And.intro true_or <| And.intro not_false_eq_true <| And.intro false_implies <| And.intro @List.drop_succ_cons.{0} <| And.intro @List.take_succ_cons.{0} <| And.intro @List.take_zero.{0} <| And.intro Bool.not_true <| And.intro Bool.not_false <| And.intro @decide_true <| And.intro @decide_false <| And.intro Bool.true_and <| And.intro Bool.and_true <| And.intro Bool.and_false <| And.intro Bool.false_and <| And.intro @List.length_append.{0} <| And.intro @getD_c0 <| And.intro Nat.lt_irrefl <| And.intro @wi_length <| And.intro @ones_wi <| And.intro @noix_wi <| And.intro false_and <| And.intro and_false <| And.intro or_false @not_true_eq_false
theorem noixL_mg (A : Nat) : noixL (mg A) := noixL_clean _ (clean_mg A)
theorem noixL_wd (n : Bool) (A : Nat) : noixL (wd n A) := noixL_clean _ (clean_wd n A)
theorem noixL_wi (n : Int) : noixL (wi n) := noixL_wd _ _
theorem noixL_u32s (l : List Nat) : noixL (u32s l) := noixL_clean _ (clean_u32s l)
def NX := And.intro @noixL_mg <| And.intro @noixL_wd <| And.intro @noixL_wi @noixL_u32s
theorem clean_awi (n : Int) : clean (.agg (wi n)) := by simp only [clean]; exact clean_wi n
def CX := And.intro @clean_mg <| And.intro @clean_wd <| And.intro @clean_wi <| And.intro @clean_u32s @clean_awi
end Go.Proofs.Lite

namespace Go.Proofs.Lite
open Go
abbrev b32 : Nat := 4294967296
/-- Limbs of a number: n of them. -/
def lm (n A : Nat) : List AV := u32s (limbs n A)
theorem mg_lm (A : Nat) : mg A = lm 6 A := rfl
theorem lm_length (n A : Nat) : (lm n A).length = n := by simp [lm, u32s_length, limbs_length]
theorem lm_drop_get {n A k : Nat} (h : k < n) : ((lm n A).drop k).getD 0 .junk = .raw (.int .u32 ((dig A k : Nat) : Int)) := by
  unfold lm; rw [u32s_drop_get (by rw [limbs_length]; exact h), limbs_get h]
theorem ones_lm (n A : Nat) : ones (lm n A) := ones_u32s _
theorem noixL_lm (n A : Nat) : noixL (lm n A) := noixL_u32s _
/-- One limb put in place of another. -/
def setd (A k d : Nat) : Nat := A % b32 ^ k + b32 ^ k * (d + b32 * (A / b32 ^ (k + 1)))
theorem b32_pos (k : Nat) : 0 < b32 ^ k := Nat.pow_pos (by decide)
theorem dig_def (A k : Nat) : dig A k = A / b32 ^ k % b32 := rfl
theorem split_dig (A k : Nat) : A = A % b32 ^ k + b32 ^ k * (dig A k + b32 * (A / b32 ^ (k + 1))) := by
  have h1 := Nat.div_add_mod A (b32 ^ k)
  have h2 := Nat.div_add_mod (A / b32 ^ k) b32
  have h3 : A / b32 ^ (k + 1) = A / b32 ^ k / b32 := by rw [Nat.pow_succ, Nat.div_div_eq_div_mul]
  rw [dig_def, h3]
  have : A / b32 ^ k % b32 + b32 * (A / b32 ^ k / b32) = A / b32 ^ k := by omega
  rw [this]; omega
theorem setd_eq (A k d : Nat) : setd A k d + b32 ^ k * dig A k = A + b32 ^ k * d := by
  conv => rhs; rw [split_dig A k]
  unfold setd
  rw [Nat.mul_add, Nat.mul_add]
  omega
theorem setd_mod (A k d : Nat) : setd A k d % b32 ^ k = A % b32 ^ k := by
  unfold setd; rw [Nat.add_mul_mod_self_left, Nat.mod_mod]
theorem setd_div (A k d : Nat) : setd A k d / b32 ^ k = d + b32 * (A / b32 ^ (k + 1)) := by
  unfold setd
  rw [Nat.add_mul_div_left _ _ (b32_pos k), Nat.div_eq_of_lt (Nat.mod_lt _ (b32_pos k)), Nat.zero_add]
theorem dig_setd {A k d : Nat} (hd : d < b32) : dig (setd A k d) k = d := by
  rw [dig_def, setd_div, Nat.add_mul_mod_self_left, Nat.mod_eq_of_lt hd]
theorem dig_setd_ne {A k d j : Nat} (hd : d < b32) (h : j ≠ k) : dig (setd A k d) j = dig A j := by
  rcases Nat.lt_or_gt_of_ne h with h | h
  · have e1 : dig (setd A k d % b32 ^ k) j = dig (setd A k d) j := digB_low h
    have e2 : dig (A % b32 ^ k) j = dig A j := digB_low h
    rw [← e1, ← e2, setd_mod]
  · obtain ⟨i, rfl⟩ : ∃ i, j = k + 1 + i := ⟨j - k - 1, by omega⟩
    have e : setd A k d / b32 ^ (k + 1) = A / b32 ^ (k + 1) := by
      rw [Nat.pow_succ, ← Nat.div_div_eq_div_mul, setd_div, Nat.add_mul_div_left _ _ (by decide), Nat.div_eq_of_lt hd, Nat.zero_add, Nat.pow_succ]
    rw [dig_def, dig_def, Nat.pow_add, ← Nat.div_div_eq_div_mul, ← Nat.div_div_eq_div_mul, e]
theorem lm_wr {n A k d : Nat} (hk : k < n) (hd : d < b32) : wr (lm n A) k [.raw (.int .u32 ((d : Nat) : Int))] = lm n (setd A k d) := by
  unfold lm
  rw [u32s_wr (by rw [limbs_length]; exact hk)]
  congr 1
  apply limbs_of (by simp [limbs_length])
  intro j hj
  by_cases hjk : j = k
  · subst hjk
    rw [dig_setd hd]
    have : j < (limbs n A).length := by rw [limbs_length]; exact hk
    rw [List.getD_eq_getElem?_getD, List.getElem?_set_self this]; rfl
  · rw [List.getD_eq_getElem?_getD, List.getElem?_set_ne (Ne.symm hjk), ← List.getD_eq_getElem?_getD, limbs_get hj, dig_setd_ne hd hjk]
theorem mg_wrd {A k d : Nat} (hk : k < 6) (hd : d < b32) : wr (mg A) k [.raw (.int .u32 ((d : Nat) : Int))] = mg (setd A k d) := lm_wr hk hd
theorem lm_wri {n A k : Nat} {x : Int} (hk : k < n) (h0 : 0 ≤ x) (hd : x < 4294967296) : wr (lm n A) k [.raw (.int .u32 x)] = lm n (setd A k x.toNat) := by
  have := lm_wr (n := n) (A := A) (k := k) (d := x.toNat) hk (by show x.toNat < 4294967296; omega)
  rwa [Int.toNat_of_nonneg h0] at this
theorem mg_wri {A k : Nat} {x : Int} (hk : k < 6) (h0 : 0 ≤ x) (hd : x < 4294967296) : wr (mg A) k [.raw (.int .u32 x)] = mg (setd A k x.toNat) := lm_wri hk h0 hd
theorem setd_low {A k d : Nat} (h : A < b32 ^ k) : setd A k d = A + b32 ^ k * d := by
  unfold setd
  rw [Nat.mod_eq_of_lt h, Nat.div_eq_of_lt (Nat.lt_of_lt_of_le h (Nat.pow_le_pow_right (by decide) (Nat.le_succ k))), Nat.mul_zero, Nat.add_zero]
theorem setd_two {a b : Nat} (ha : a < b32) : setd (setd 0 0 a) 1 b = a + b32 * b := by
  rw [setd_low (A := 0) (k := 0) (by decide), setd_low (by simpa using ha)]; simp only [Nat.pow_zero, Nat.pow_one]; omega
theorem clean_lm (n A : Nat) : cleanL (lm n A) := clean_u32s _
theorem lm_mod {n A : Nat} : lm n (A % b32 ^ n) = lm n A := by
  unfold lm; congr 1; symm
  apply limbs_of (limbs_length _ _)
  intro k hk
  rw [limbs_get hk]; exact (digB_low hk).symm
theorem u32_wrap (x : Int) : IntKind.u32.wrap x = x % 4294967296 := IntKind.wrap_u32 x
theorem u64_wrap (x : Int) : IntKind.u64.wrap x = x % 18446744073709551616 := by rfl
theorem drop_wd (n : Bool) (A k : Nat) : (wd n A).drop (1 + k) = (mg A).drop k := by rw [← drop1_wd n A, List.drop_drop]
theorem drop_wi (n : Int) (k : Nat) : (wi n).drop (1 + k) = (mg n.natAbs).drop k := drop_wd _ _ _
theorem cadd (a b : Nat) : (a : Int) + (b : Int) = ((a + b : Nat) : Int) := by omega
theorem caddl (a n : Nat) : (a : Int) + (no_index (OfNat.ofNat n) : Int) = ((a + OfNat.ofNat n : Nat) : Int) := by rw [Int.natCast_add]; rfl
theorem cmul (a b : Nat) : (a : Int) * (b : Int) = ((a * b : Nat) : Int) := by rw [Int.natCast_mul]
theorem cdivl (a n : Nat) : (a : Int) / (no_index (OfNat.ofNat n) : Int) = ((a / OfNat.ofNat n : Nat) : Int) := by rw [Int.natCast_ediv]; rfl
theorem cw32 (x : Nat) : IntKind.u32.wrap (x : Int) = ((x % 4294967296 : Nat) : Int) := by rw [IntKind.wrap_u32]; omega
theorem cpow2 (n : Nat) : (2 : Int) ^ n = ((2 ^ n : Nat) : Int) := by rw [Int.natCast_pow]; rfl
theorem ctdiv (a n : Nat) : (a : Int).tdiv (no_index (OfNat.ofNat n) : Int) = ((a / OfNat.ofNat n : Nat) : Int) := rfl
theorem ctmod (a n : Nat) : (a : Int).tmod (no_index (OfNat.ofNat n) : Int) = ((a % OfNat.ofNat n : Nat) : Int) := rfl
theorem cdiv (a b : Nat) : (a : Int) / (b : Int) = ((a / b : Nat) : Int) := by rw [Int.natCast_ediv]
theorem cmod (a b : Nat) : (a : Int) % (b : Int) = ((a % b : Nat) : Int) := by rw [Int.natCast_emod]
theorem cmodl (a n : Nat) : (a : Int) % (no_index (OfNat.ofNat n) : Int) = ((a % OfNat.ofNat n : Nat) : Int) := by rw [Int.natCast_emod]; rfl
theorem clmul (a n : Nat) : (no_index (OfNat.ofNat n) : Int) * (a : Int) = ((OfNat.ofNat n * a : Nat) : Int) := by rw [Int.natCast_mul]; rfl
theorem cmull (a n : Nat) : (a : Int) * (no_index (OfNat.ofNat n) : Int) = ((a * OfNat.ofNat n : Nat) : Int) := by rw [Int.natCast_mul]; rfl
theorem bv_nat (w n : Nat) : BitVec.ofInt w (n : Int) = BitVec.ofNat w n := by
  apply BitVec.eq_of_toNat_eq; simp [BitVec.toNat_ofInt]
def orI (k : IntKind) (a b : Int) : Int := ((BitVec.ofInt k.bits a ||| BitVec.ofInt k.bits b).toNat : Int)
def andI (k : IntKind) (a b : Int) : Int := ((BitVec.ofInt k.bits a &&& BitVec.ofInt k.bits b).toNat : Int)
theorem binR_or {k k' : IntKind} {a b : Int} : binR .or (.int k a) (.int k' b) = (k = k', .int k (k.wrap (orI k a b))) := rfl
theorem binR_and {k k' : IntKind} {a b : Int} : binR .and (.int k a) (.int k' b) = (k = k', .int k (k.wrap (andI k a b))) := rfl
def SD3 := And.intro @binR_or @binR_and
theorem or_lt32 {a b : Nat} (ha : a < 4294967296) (hb : b < 4294967296) : a ||| b < 4294967296 := Nat.or_lt_two_pow (n := 32) ha hb
theorem or_lt64 {a b : Nat} (ha : a < 18446744073709551616) (hb : b < 18446744073709551616) : a ||| b < 18446744073709551616 := Nat.or_lt_two_pow (n := 64) ha hb
theorem bor32 {a b : Nat} (ha : a < 4294967296) (hb : b < 4294967296) : IntKind.u32.wrap (orI .u32 (a : Int) (b : Int)) = ((a ||| b : Nat) : Int) := by
  have := or_lt32 ha hb
  unfold orI
  rw [bv_nat, bv_nat, BitVec.toNat_or, BitVec.toNat_ofNat, BitVec.toNat_ofNat]
  simp only [IntKind.bits, Nat.reducePow]
  rw [Nat.mod_eq_of_lt ha, Nat.mod_eq_of_lt hb, IntWalk.u32_in]
  omega
theorem bor64 {a b : Nat} (ha : a < 18446744073709551616) (hb : b < 18446744073709551616) : IntKind.u64.wrap (orI .u64 (a : Int) (b : Int)) = ((a ||| b : Nat) : Int) := by
  have := or_lt64 ha hb
  unfold orI
  rw [bv_nat, bv_nat, BitVec.toNat_or, BitVec.toNat_ofNat, BitVec.toNat_ofNat]
  simp only [IntKind.bits, Nat.reducePow]
  rw [Nat.mod_eq_of_lt ha, Nat.mod_eq_of_lt hb, IntWalk.u64_in]
  omega
theorem band32 {a b : Nat} (ha : a < 4294967296) (hb : b < 4294967296) : IntKind.u32.wrap (andI .u32 (a : Int) (b : Int)) = ((a &&& b : Nat) : Int) := by
  have : a &&& b < 4294967296 := Nat.and_lt_two_pow (n := 32) _ hb
  unfold andI
  rw [bv_nat, bv_nat, BitVec.toNat_and, BitVec.toNat_ofNat, BitVec.toNat_ofNat]
  simp only [IntKind.bits, Nat.reducePow]
  rw [Nat.mod_eq_of_lt ha, Nat.mod_eq_of_lt hb, IntWalk.u32_in]
  omega
theorem band64 {a b : Nat} (ha : a < 18446744073709551616) (hb : b < 18446744073709551616) : IntKind.u64.wrap (andI .u64 (a : Int) (b : Int)) = ((a &&& b : Nat) : Int) := by
  have : a &&& b < 18446744073709551616 := Nat.and_lt_two_pow (n := 64) _ hb
  unfold andI
  rw [bv_nat, bv_nat, BitVec.toNat_and, BitVec.toNat_ofNat, BitVec.toNat_ofNat]
  simp only [IntKind.bits, Nat.reducePow]
  rw [Nat.mod_eq_of_lt ha, Nat.mod_eq_of_lt hb, IntWalk.u64_in]
  omega
theorem bor32l {b : Nat} (hb : b < 4294967296) : IntKind.u32.wrap (orI .u32 0 (b : Int)) = (b : Int) := by
  have := bor32 (a := 0) (by decide) hb; rwa [Nat.zero_or] at this
theorem bor32r {b : Nat} (hb : b < 4294967296) : IntKind.u32.wrap (orI .u32 (b : Int) 0) = (b : Int) := by
  have := bor32 (b := 0) hb (by decide); rwa [Nat.or_zero] at this
theorem band32r {a : Nat} (ha : a < 4294967296) : IntKind.u32.wrap (andI .u32 (a : Int) 1) = ((a % 2 : Nat) : Int) := by
  have := band32 (b := 1) ha (by decide); rwa [Nat.and_one_is_mod] at this
theorem band64r {a : Nat} (ha : a < 18446744073709551616) : IntKind.u64.wrap (andI .u64 (a : Int) 4294967295) = ((a % 4294967296 : Nat) : Int) := by
  have := band64 (b := 4294967295) ha (by decide); rwa [show (4294967295 : Nat) = 2 ^ 32 - 1 from rfl, Nat.and_two_pow_sub_one_eq_mod] at this
theorem claddl (a n : Nat) : (no_index (OfNat.ofNat n) : Int) + (a : Int) = ((OfNat.ofNat n + a : Nat) : Int) := by rw [Int.natCast_add]; rfl
theorem ctdivN (a b : Nat) : (a : Int).tdiv (b : Int) = ((a / b : Nat) : Int) := rfl
theorem ctmodN (a b : Nat) : (a : Int).tmod (b : Int) = ((a % b : Nat) : Int) := rfl
def CN := And.intro @ctdivN <| And.intro @ctmodN <| And.intro @claddl <| And.intro @cmull <| And.intro @clmul <| And.intro @bor32l <| And.intro @bor32r <| And.intro @band32r <| And.intro @band64r <| And.intro @bor32 <| And.intro @band32 <| And.intro @bor64 <| And.intro @band64 <| And.intro Nat.zero_or <| And.intro @cpow2 <| And.intro @ctdiv <| And.intro @ctmod <| And.intro @cdiv <| And.intro @cmod <| And.intro @cmodl <| And.intro @cadd <| And.intro @caddl <| And.intro @cmul <| And.intro @cdivl <| And.intro @cw32 <| And.intro @Int.toNat_natCast @Nat.mod_eq_of_lt
theorem raws_lm12 : raws [.int .u32 0, .int .u32 0, .int .u32 0, .int .u32 0, .int .u32 0, .int .u32 0, .int .u32 0, .int .u32 0, .int .u32 0, .int .u32 0, .int .u32 0, .int .u32 0] = lm 12 0 := rfl
theorem raws_lm7 : raws [.int .u32 0, .int .u32 0, .int .u32 0, .int .u32 0, .int .u32 0, .int .u32 0, .int .u32 0] = lm 7 0 := rfl
theorem wr_lm (n A B : Nat) : wr (lm n A) 0 (lm n B) = lm n B := wr_full (by rw [lm_length, lm_length])
theorem take_lm (n A : Nat) : (lm n A).take n = lm n A := List.take_of_length_le (by rw [lm_length]; omega)
theorem wr_dwi (b : Bool) (A : Nat) (n : Int) : wr (wd b A) 0 (wi n) = wi n := wr_wd _ _ _ _
theorem wr_wiwi (m n : Int) : wr (wi m) 0 (wi n) = wi n := wr_wd _ _ _ _
theorem wr_wiwd (m : Int) (b : Bool) (A : Nat) : wr (wi m) 0 (wd b A) = wd b A := wr_wd _ _ _ _
theorem take_wi (n : Int) : (wi n).take 7 = wi n := take_wd _ _
theorem drop1_wi (n : Int) : (wi n).drop 1 = mg n.natAbs := drop1_wd _ _
theorem getD0_wi (n : Int) : (wi n).getD 0 .junk = .raw (.bool (decide (n < 0))) := getD0_wd _ _
theorem ilt_t {a b : Int} (h : a < b) : (a < b) = True := eq_true h
theorem ilt_f {a b : Int} (h : b ≤ a) : (a < b) = False := eq_false (by omega)
theorem ile_t {a b : Int} (h : a ≤ b) : (a ≤ b) = True := eq_true h
theorem ile_f {a b : Int} (h : b < a) : (a ≤ b) = False := eq_false (by omega)
theorem nlt_t {a b : Nat} (h : a < b) : (a < b) = True := eq_true h
theorem nlt_f {a b : Nat} (h : b ≤ a) : (a < b) = False := eq_false (by omega)
theorem nle_t {a b : Nat} (h : a ≤ b) : (a ≤ b) = True := eq_true h
theorem nle_f {a b : Nat} (h : b < a) : (a ≤ b) = False := eq_false (by omega)
theorem ibeq_t {a b : Int} (h : a = b) : (a == b) = true := by simp [h]
theorem ibeq_f {a b : Int} (h : a ≠ b) : (a == b) = false := by simp [h]
theorem ibne_t {a b : Int} (h : a ≠ b) : (a != b) = true := by simp [h]
theorem ibne_f {a b : Int} (h : a = b) : (a != b) = false := by simp [h]
theorem ieq_t {a b : Int} (h : a = b) : (a = b) = True := eq_true h
theorem ieq_f {a b : Int} (h : a ≠ b) : (a = b) = False := eq_false h
theorem neq_t {a b : Nat} (h : a = b) : (a = b) = True := eq_true h
theorem neq_f {a b : Nat} (h : a ≠ b) : (a = b) = False := eq_false h
theorem ine_t {a b : Int} (h : a ≠ b) : (a ≠ b) = True := eq_true h
theorem ine_f {a b : Int} (h : a = b) : (a ≠ b) = False := eq_false (fun k => k h)
theorem lm_get {n A k : Nat} (h : k < n) : (lm n A).getD k .junk = .raw (.int .u32 ((dig A k : Nat) : Int)) := by
  unfold lm; rw [u32s_get (by rw [limbs_length]; exact h), limbs_get h]
theorem fdivc (a b : Nat) : Int.fdiv (a : Int) (b : Int) = ((a / b : Nat) : Int) := by rw [Int.fdiv_eq_ediv_of_nonneg _ (by omega), Int.natCast_ediv]
def OM := And.intro @mg_get <| And.intro @lm_get <| And.intro fdivc <| And.intro @ine_t <| And.intro @ine_f <|  And.intro @ilt_t <| And.intro @ilt_f <| And.intro @ile_t <| And.intro @ile_f <| And.intro @nlt_t <| And.intro @nlt_f <| And.intro @nle_t <| And.intro @nle_f <| And.intro @ibeq_t <| And.intro @ibeq_f <| And.intro @ibne_t <| And.intro @ibne_f <| And.intro @ieq_t <| And.intro @ieq_f <| And.intro @neq_t <| And.intro @neq_f <| And.intro IntWalk.i64_in <| And.intro IntWalk.u64_in <| And.intro IntWalk.u32_in <| And.intro @mg_drop_get <| And.intro @lm_drop_get @Nat.min_eq_left
theorem setd_00 (d : Nat) : setd 0 0 d = d := by rw [setd_low (A := 0) (k := 0) (by decide)]; simp only [Nat.pow_zero]; omega
theorem take1_getD (l : List AV) : (l.take 1).getD 0 .junk = l.getD 0 .junk := by cases l <;> rfl
def NB := And.intro @take1_getD <| And.intro @List.length_take.{0} <| And.intro @wr_dwi <| And.intro @wr_wiwi <| And.intro @wr_wiwd <| And.intro @take_wi <| And.intro @drop1_wi <| And.intro @getD0_wi <| And.intro @List.length_drop.{0} <| And.intro @drop_wd <| And.intro @drop_wi <| And.intro raws_lm12 <| And.intro raws_lm7 <| And.intro @wr_lm <| And.intro @take_lm <| And.intro @lm_length @ones_lm
theorem Wk.shed {n0 n : Nat} {T T' : List AV} {H H' : Heap} (hn : n0 ≤ n) (hf : fits T T') (hT : cutL n T' = T') (hH : cutH n H = H') : Wk n0 T H T' H' := by
  have := Wk.trans (Wk.tmps hf) (Wk.cut (T := T') (H := H) hn)
  rwa [hT, hH] at this
theorem cut_mg (n A : Nat) : cutL n (mg A) = mg A := cutL_noix _ (noixL_mg A)
theorem cut_wd (n : Nat) (b : Bool) (A : Nat) : cutL n (wd b A) = wd b A := cutL_noix _ (noixL_wd b A)
theorem cut_wi (n : Nat) (a : Int) : cutL n (wi a) = wi a := cutL_noix _ (noixL_wi a)
theorem cut_lm (n m A : Nat) : cutL n (lm m A) = lm m A := cutL_noix _ (noixL_lm m A)
def CU := And.intro @cut_mg <| And.intro @cut_wd <| And.intro @cut_wi @cut_lm
end Go.Proofs.Lite

namespace Go.Proofs.Lite
open Go
theorem low_succ (A k : Nat) : low A (k + 1) = low A k + b32 ^ k * dig A k := modB_succ A k
theorem low_lt (A k : Nat) : low A k < b32 ^ k := Nat.mod_lt _ (b32_pos k)
theorem low_of_lt {A k : Nat} (h : A < b32 ^ k) : low A k = A := Nat.mod_eq_of_lt h
theorem setd_lt {A k d n : Nat} (hA : A < b32 ^ n) (hk : k < n) (hd : d < b32) : setd A k d < b32 ^ n := by
  obtain ⟨m, rfl⟩ : ∃ m, n = k + 1 + m := ⟨n - k - 1, by omega⟩
  unfold setd
  have h1 := Nat.mod_lt A (b32_pos k)
  have h2 : A / b32 ^ (k + 1) < b32 ^ m := by
    apply Nat.div_lt_of_lt_mul; rw [← Nat.pow_add]; exact hA
  have h3 : d + b32 * (A / b32 ^ (k + 1)) + 1 ≤ b32 * b32 ^ m := by
    have : b32 * (A / b32 ^ (k + 1)) + b32 ≤ b32 * b32 ^ m := by rw [← Nat.mul_succ]; exact Nat.mul_le_mul_left _ h2
    omega
  have h4 : b32 ^ (k + 1 + m) = b32 ^ k * (b32 * b32 ^ m) := by rw [Nat.pow_add, Nat.pow_succ, Nat.mul_assoc]
  rw [h4]
  have := Nat.mul_le_mul_left (b32 ^ k) h3
  rw [Nat.mul_add, Nat.mul_one] at this
  omega
theorem mul_step {A B V c i k : Nat} (hV : V + b32 ^ (i + k) * c = low A i * B + dig A i * b32 ^ i * low B k) :
    setd V (i + k) ((dig A i * dig B k + dig V (i + k) + c) % b32) + b32 ^ (i + (k + 1)) * ((dig A i * dig B k + dig V (i + k) + c) / b32) = low A i * B + dig A i * b32 ^ i * low B (k + 1) := by
  have h1 := setd_eq V (i + k) ((dig A i * dig B k + dig V (i + k) + c) % b32)
  have h2 := Nat.div_add_mod (dig A i * dig B k + dig V (i + k) + c) b32
  rw [low_succ, Nat.mul_add, ← Nat.add_assoc (low A i * B), ← hV]
  have e1 : b32 ^ (i + (k + 1)) = b32 ^ (i + k) * b32 := by rw [← Nat.add_assoc, Nat.pow_succ]
  have e2 : dig A i * b32 ^ i * (b32 ^ k * dig B k) = b32 ^ (i + k) * (dig A i * dig B k) := by
    rw [Nat.pow_add]; simp only [Nat.mul_comm, Nat.mul_left_comm, Nat.mul_assoc]
  rw [e1, e2, Nat.mul_assoc]
  generalize (dig A i * dig B k + dig V (i + k) + c) / b32 = q at *
  generalize (dig A i * dig B k + dig V (i + k) + c) % b32 = r at *
  generalize setd V (i + k) r = V' at *
  have h3 : b32 ^ (i + k) * (b32 * q + r) = b32 ^ (i + k) * (dig A i * dig B k + dig V (i + k) + c) := by rw [h2]
  simp only [Nat.mul_add] at h3
  generalize b32 ^ (i + k) * (b32 * q) = x at *
  generalize b32 ^ (i + k) * r = x1 at *
  generalize b32 ^ (i + k) * (dig A i * dig B k) = x2 at *
  generalize b32 ^ (i + k) * dig V (i + k) = x3 at *
  generalize b32 ^ (i + k) * c = x4 at *
  omega
theorem mul_carry {x y d c : Nat} (hx : x < b32) (hy : y < b32) (hd : d < b32) (hc : c < b32) : x * y + d + c < 18446744073709551616 ∧ (x * y + d + c) / b32 < b32 := by
  unfold b32 at *
  have h : x * y ≤ 4294967295 * 4294967295 := Nat.mul_le_mul (by omega) (by omega)
  constructor
  · omega
  · apply Nat.div_lt_of_lt_mul; show _ < 4294967296 * 4294967296; omega
theorem mul_end {A B V c i : Nat} (hV : V + b32 ^ (i + 6) * c = low A i * B + dig A i * b32 ^ i * low B 6) (hB : B < bW) (hl : V < b32 ^ (i + 6)) :
    setd V (i + 6) c = low A (i + 1) * B := by
  rw [setd_low hl, hV, low_of_lt (A := B) (by rw [show (b32 ^ 6 : Nat) = bW from pow6]; exact hB), low_succ, Nat.add_mul]
  congr 1
  simp only [Nat.mul_comm, Nat.mul_left_comm, Nat.mul_assoc]
theorem mul_lt {A B i : Nat} (hB : B < bW) : low A i * B < b32 ^ (i + 6) := by
  rw [Nat.pow_add, show (b32 ^ 6 : Nat) = bW from pow6]
  have h := low_lt A i
  have h0 := b32_pos i
  rcases Nat.eq_zero_or_pos B with rfl | hp
  · rw [Nat.mul_zero]; exact Nat.mul_pos h0 (by decide)
  · exact Nat.mul_lt_mul_of_lt_of_le h (Nat.le_of_lt hB) (by decide)
/-- A number of twelve limbs whose upper ones are 0. -/
theorem upper_zero {V : Nat} (k : Nat) (h : ∀ j, j < k → dig V (6 + j) = 0) (hV : V < b32 ^ (6 + k)) : V < bW := by
  induction k with
  | zero => rw [← pow6]; exact hV
  | succ k ih =>
    apply ih (fun j hj => h j (by omega))
    have h1 := h k (by omega)
    have h2 : V / b32 ^ (6 + k) < b32 := by
      apply Nat.div_lt_of_lt_mul; rw [← Nat.pow_succ]; exact hV
    rw [dig_def, Nat.mod_eq_of_lt h2] at h1
    rcases (Nat.div_eq_zero_iff).1 h1 with h | h
    · exact absurd h (Nat.ne_of_gt (b32_pos _))
    · exact h
theorem upper_dig {V j : Nat} (h : V < bW) : dig V (6 + j) = 0 := by
  have : V < b32 ^ (6 + j) := Nat.lt_of_lt_of_le (by rw [← pow6] at h; exact h) (Nat.pow_le_pow_right (by decide) (by omega))
  rw [dig_def, Nat.div_eq_of_lt this, Nat.zero_mod]
theorem mul_sign (a b : Int) : (if (!(decide (a < 0) == decide (b < 0))) = true then -((a.natAbs * b.natAbs : Nat) : Int) else ((a.natAbs * b.natAbs : Nat) : Int)) = a * b := by
  rw [Int.natCast_mul]
  by_cases ha : a < 0 <;> by_cases hb : b < 0
  · rw [show ((a.natAbs : Nat) : Int) = -a from by omega, show ((b.natAbs : Nat) : Int) = -b from by omega]
    simp [ha, hb, Int.neg_mul, Int.mul_neg]
  · rw [show ((a.natAbs : Nat) : Int) = -a from by omega, show ((b.natAbs : Nat) : Int) = b from by omega]
    simp [ha, hb, Int.neg_mul, Int.mul_neg]
  · rw [show ((a.natAbs : Nat) : Int) = a from by omega, show ((b.natAbs : Nat) : Int) = -b from by omega]
    simp [ha, hb, Int.neg_mul, Int.mul_neg]
  · rw [show ((a.natAbs : Nat) : Int) = a from by omega, show ((b.natAbs : Nat) : Int) = b from by omega]
    simp [ha, hb]
end Go.Proofs.Lite
