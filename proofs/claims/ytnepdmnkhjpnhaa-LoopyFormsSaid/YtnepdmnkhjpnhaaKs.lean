/-
  The shallow forms of functions of the program, printed by a program of the prover; and what the types are.
-/
import Derived.Test.YtnepdmnkhjpnhaaKl
import Derived.Test.YtnepdmnkhjpnhaaProg
set_option linter.unusedVariables false
set_option maxRecDepth 100000
namespace Go.Proofs.Ytnepdmnkhjpnhaa
open Go Go.Sk
variable {M : Go.Sk.Mode}

theorem wide : Try.prog.follows .mixedOrders = true := by kernel_rfl
instance g11 : IsGo Try.prog 11 := ⟨by kernel_rfl⟩
instance g12 : IsGo Try.prog 12 := ⟨by kernel_rfl⟩
instance g13 : IsGo Try.prog 13 := ⟨by kernel_rfl⟩
instance g14 : IsGo Try.prog 14 := ⟨by kernel_rfl⟩
instance g15 : IsGo Try.prog 15 := ⟨by kernel_rfl⟩
instance g16 : IsGo Try.prog 16 := ⟨by kernel_rfl⟩
instance g17 : IsGo Try.prog 17 := ⟨by kernel_rfl⟩
instance g18 : IsGo Try.prog 18 := ⟨by kernel_rfl⟩
instance g19 : IsGo Try.prog 19 := ⟨by kernel_rfl⟩
instance g20 : IsGo Try.prog 20 := ⟨by kernel_rfl⟩
instance g21 : IsGo Try.prog 21 := ⟨by kernel_rfl⟩
instance g22 : IsGo Try.prog 22 := ⟨by kernel_rfl⟩
instance g23 : IsGo Try.prog 23 := ⟨by kernel_rfl⟩
instance g24 : IsGo Try.prog 24 := ⟨by kernel_rfl⟩
instance g25 : IsGo Try.prog 25 := ⟨by kernel_rfl⟩
instance g26 : IsGo Try.prog 26 := ⟨by kernel_rfl⟩
instance g27 : IsGo Try.prog 27 := ⟨by kernel_rfl⟩
instance g32 : IsGo Try.prog 32 := ⟨by kernel_rfl⟩
instance g33 : IsGo Try.prog 33 := ⟨by kernel_rfl⟩
instance g34 : IsGo Try.prog 34 := ⟨by kernel_rfl⟩
instance g35 : IsGo Try.prog 35 := ⟨by kernel_rfl⟩
instance g36 : IsGo Try.prog 36 := ⟨by kernel_rfl⟩
instance g37 : IsGo Try.prog 37 := ⟨by kernel_rfl⟩
instance g38 : IsGo Try.prog 38 := ⟨by kernel_rfl⟩
instance g39 : IsGo Try.prog 39 := ⟨by kernel_rfl⟩
instance g40 : IsGo Try.prog 40 := ⟨by kernel_rfl⟩
instance g41 : IsGo Try.prog 41 := ⟨by kernel_rfl⟩
instance g42 : IsGo Try.prog 42 := ⟨by kernel_rfl⟩
instance g43 : IsGo Try.prog 43 := ⟨by kernel_rfl⟩
instance g44 : IsGo Try.prog 44 := ⟨by kernel_rfl⟩
instance g45 : IsGo Try.prog 45 := ⟨by kernel_rfl⟩
instance g46 : IsGo Try.prog 46 := ⟨by kernel_rfl⟩
instance g47 : IsGo Try.prog 47 := ⟨by kernel_rfl⟩
instance g48 : IsGo Try.prog 48 := ⟨by kernel_rfl⟩
instance g49 : IsGo Try.prog 49 := ⟨by kernel_rfl⟩
instance g50 : IsGo Try.prog 50 := ⟨by kernel_rfl⟩
instance g51 : IsGo Try.prog 51 := ⟨by kernel_rfl⟩
instance g52 : IsGo Try.prog 52 := ⟨by kernel_rfl⟩
instance g59 : IsGo Try.prog 59 := ⟨by kernel_rfl⟩
instance g60 : IsGo Try.prog 60 := ⟨by kernel_rfl⟩
instance g61 : IsGo Try.prog 61 := ⟨by kernel_rfl⟩
instance g62 : IsGo Try.prog 62 := ⟨by kernel_rfl⟩
instance g63 : IsGo Try.prog 63 := ⟨by kernel_rfl⟩
instance g64 : IsGo Try.prog 64 := ⟨by kernel_rfl⟩
instance g66 : IsGo Try.prog 66 := ⟨by kernel_rfl⟩
instance g67 : IsGo Try.prog 67 := ⟨by kernel_rfl⟩
instance g68 : IsGo Try.prog 68 := ⟨by kernel_rfl⟩
instance g69 : IsGo Try.prog 69 := ⟨by kernel_rfl⟩
instance g79 : IsGo Try.prog 79 := ⟨by kernel_rfl⟩
instance g82 : IsGo Try.prog 82 := ⟨by kernel_rfl⟩
instance g83 : IsGo Try.prog 83 := ⟨by kernel_rfl⟩
instance g97 : IsGo Try.prog 97 := ⟨by kernel_rfl⟩
instance g28 : IsGo Try.prog 28 := ⟨by kernel_rfl⟩
instance g29 : IsGo Try.prog 29 := ⟨by kernel_rfl⟩
instance g30 : IsGo Try.prog 30 := ⟨by kernel_rfl⟩
instance g31 : IsGo Try.prog 31 := ⟨by kernel_rfl⟩
instance g53 : IsGo Try.prog 53 := ⟨by kernel_rfl⟩
instance g54 : IsGo Try.prog 54 := ⟨by kernel_rfl⟩
instance g55 : IsGo Try.prog 55 := ⟨by kernel_rfl⟩
instance g56 : IsGo Try.prog 56 := ⟨by kernel_rfl⟩
instance g57 : IsGo Try.prog 57 := ⟨by kernel_rfl⟩
instance g58 : IsGo Try.prog 58 := ⟨by kernel_rfl⟩
instance g70 : IsGo Try.prog 70 := ⟨by kernel_rfl⟩
instance g71 : IsGo Try.prog 71 := ⟨by kernel_rfl⟩
instance g72 : IsGo Try.prog 72 := ⟨by kernel_rfl⟩
instance g73 : IsGo Try.prog 73 := ⟨by kernel_rfl⟩
instance g74 : IsGo Try.prog 74 := ⟨by kernel_rfl⟩
instance g75 : IsGo Try.prog 75 := ⟨by kernel_rfl⟩
instance g76 : IsGo Try.prog 76 := ⟨by kernel_rfl⟩
instance g77 : IsGo Try.prog 77 := ⟨by kernel_rfl⟩
instance g78 : IsGo Try.prog 78 := ⟨by kernel_rfl⟩
instance g84 : IsGo Try.prog 84 := ⟨by kernel_rfl⟩
instance g85 : IsGo Try.prog 85 := ⟨by kernel_rfl⟩
instance g86 : IsGo Try.prog 86 := ⟨by kernel_rfl⟩
instance g10 : IsGo Try.prog 10 := ⟨by kernel_rfl⟩
instance g65 : IsGo Try.prog 65 := ⟨by kernel_rfl⟩
instance : TOne Try.prog 1 := ⟨by kernel_rfl⟩
instance : TSize Try.prog 1 1 := ⟨by kernel_rfl⟩
instance : TZero Try.prog 1 [.nilFunc] := ⟨by kernel_rfl⟩
instance : TOne Try.prog 2 := ⟨by kernel_rfl⟩
instance : TSize Try.prog 2 1 := ⟨by kernel_rfl⟩
instance : TZero Try.prog 2 [(.int .i64 0)] := ⟨by kernel_rfl⟩
instance : TInt Try.prog 2 .i64 := ⟨by kernel_rfl⟩
instance : TOne Try.prog 3 := ⟨by kernel_rfl⟩
instance : TSize Try.prog 3 1 := ⟨by kernel_rfl⟩
instance : TZero Try.prog 3 [(.int .i64 0)] := ⟨by kernel_rfl⟩
instance : TZv Try.prog 3 ((.int .i64 0)) := ⟨by kernel_rfl⟩
instance : TInt Try.prog 3 .i64 := ⟨by kernel_rfl⟩
instance : TOne Try.prog 4 := ⟨by kernel_rfl⟩
instance : TSize Try.prog 4 1 := ⟨by kernel_rfl⟩
instance : TZero Try.prog 4 [(.bool false)] := ⟨by kernel_rfl⟩
instance : TZv Try.prog 4 ((.bool false)) := ⟨by kernel_rfl⟩
instance : TBool Try.prog 4 := ⟨by kernel_rfl⟩
instance : TOne Try.prog 5 := ⟨by kernel_rfl⟩
instance : TSize Try.prog 5 1 := ⟨by kernel_rfl⟩
instance : TZero Try.prog 5 [(.int .u8 0)] := ⟨by kernel_rfl⟩
instance : TInt Try.prog 5 .u8 := ⟨by kernel_rfl⟩
instance : TOne Try.prog 9 := ⟨by kernel_rfl⟩
instance : TSize Try.prog 9 1 := ⟨by kernel_rfl⟩
instance : TZero Try.prog 9 [(.string ⟨#[]⟩)] := ⟨by kernel_rfl⟩
instance : TStr Try.prog 9 := ⟨by kernel_rfl⟩
instance : TOne Try.prog 22 := ⟨by kernel_rfl⟩
instance : TSize Try.prog 22 1 := ⟨by kernel_rfl⟩
instance : TZero Try.prog 22 [(.slice none 0 0)] := ⟨by kernel_rfl⟩
instance : TSlice Try.prog 22 69 2 2 := ⟨by kernel_rfl⟩
instance : TOne Try.prog 23 := ⟨by kernel_rfl⟩
instance : TSize Try.prog 23 1 := ⟨by kernel_rfl⟩
instance : TZero Try.prog 23 [(.slice none 0 0)] := ⟨by kernel_rfl⟩
instance : TSlice Try.prog 23 30 3 24 := ⟨by kernel_rfl⟩
instance : TZv Try.prog 23 ((.slice none 0 0)) := ⟨by kernel_rfl⟩
instance : TOne Try.prog 25 := ⟨by kernel_rfl⟩
instance : TSize Try.prog 25 1 := ⟨by kernel_rfl⟩
instance : TZero Try.prog 25 [(.slice none 0 0)] := ⟨by kernel_rfl⟩
instance : TSlice Try.prog 25 49 1 24 := ⟨by kernel_rfl⟩
instance : TAgg Try.prog 27 2 := ⟨by kernel_rfl⟩
instance : TSize Try.prog 27 2 := ⟨by kernel_rfl⟩
instance : TZero Try.prog 27 [(.slice none 0 0), (.slice none 0 0)] := ⟨by kernel_rfl⟩
instance : TStruct Try.prog 27 [(0, 1), (1, 1)] := ⟨by kernel_rfl⟩
instance : TField Try.prog 27 0 0 := ⟨by kernel_rfl⟩
instance : TField Try.prog 27 1 1 := ⟨by kernel_rfl⟩
instance : TFieldV Try.prog 27 0 0 1 false := ⟨by kernel_rfl⟩
instance : TFieldV Try.prog 27 1 1 1 false := ⟨by kernel_rfl⟩
instance : TAgg Try.prog 30 3 := ⟨by kernel_rfl⟩
instance : TSize Try.prog 30 3 := ⟨by kernel_rfl⟩
instance : TZero Try.prog 30 [(.int .i64 0), (.int .i64 0), (.int .i64 0)] := ⟨by kernel_rfl⟩
instance : TStruct Try.prog 30 [(0, 1), (1, 1), (2, 1)] := ⟨by kernel_rfl⟩
instance : TField Try.prog 30 0 0 := ⟨by kernel_rfl⟩
instance : TField Try.prog 30 1 1 := ⟨by kernel_rfl⟩
instance : TField Try.prog 30 2 2 := ⟨by kernel_rfl⟩
instance : TFieldV Try.prog 30 0 0 1 false := ⟨by kernel_rfl⟩
instance : TFieldV Try.prog 30 1 1 1 false := ⟨by kernel_rfl⟩
instance : TFieldV Try.prog 30 2 2 1 false := ⟨by kernel_rfl⟩
instance : EqTy Try.prog 30 3 := EqTy.of (by kernel_rfl) (by kernel_rfl) (by kernel_rfl)
instance : TOne Try.prog 31 := ⟨by kernel_rfl⟩
instance : TSize Try.prog 31 1 := ⟨by kernel_rfl⟩
instance : TZero Try.prog 31 [(.int .i64 0)] := ⟨by kernel_rfl⟩
instance : TInt Try.prog 31 .i64 := ⟨by kernel_rfl⟩
instance : TAgg Try.prog 33 2 := ⟨by kernel_rfl⟩
instance : TSize Try.prog 33 2 := ⟨by kernel_rfl⟩
instance : TZero Try.prog 33 [(.int .i64 0), (.int .i64 0)] := ⟨by kernel_rfl⟩
instance : TStruct Try.prog 33 [(0, 1), (1, 1)] := ⟨by kernel_rfl⟩
instance : TField Try.prog 33 0 0 := ⟨by kernel_rfl⟩
instance : TField Try.prog 33 1 1 := ⟨by kernel_rfl⟩
instance : TFieldV Try.prog 33 0 0 1 false := ⟨by kernel_rfl⟩
instance : TFieldV Try.prog 33 1 1 1 false := ⟨by kernel_rfl⟩
instance : EqTy Try.prog 33 2 := EqTy.of (by kernel_rfl) (by kernel_rfl) (by kernel_rfl)
instance : TAgg Try.prog 37 2 := ⟨by kernel_rfl⟩
instance : TSize Try.prog 37 2 := ⟨by kernel_rfl⟩
instance : TZero Try.prog 37 [(.slice none 0 0), (.int .i64 0)] := ⟨by kernel_rfl⟩
instance : TStruct Try.prog 37 [(0, 1), (1, 1)] := ⟨by kernel_rfl⟩
instance : TField Try.prog 37 0 0 := ⟨by kernel_rfl⟩
instance : TField Try.prog 37 1 1 := ⟨by kernel_rfl⟩
instance : TFieldV Try.prog 37 0 0 1 false := ⟨by kernel_rfl⟩
instance : TFieldV Try.prog 37 1 1 1 false := ⟨by kernel_rfl⟩
instance : TAgg Try.prog 41 1 := ⟨by kernel_rfl⟩
instance : TSize Try.prog 41 1 := ⟨by kernel_rfl⟩
instance : TZero Try.prog 41 [(.slice none 0 0)] := ⟨by kernel_rfl⟩
instance : TStruct Try.prog 41 [(0, 1)] := ⟨by kernel_rfl⟩
instance : TField Try.prog 41 0 0 := ⟨by kernel_rfl⟩
instance : TFieldV Try.prog 41 0 0 1 false := ⟨by kernel_rfl⟩
instance : TAgg Try.prog 44 2 := ⟨by kernel_rfl⟩
instance : TSize Try.prog 44 2 := ⟨by kernel_rfl⟩
instance : TZero Try.prog 44 [(.int .i64 0), (.int .i64 0)] := ⟨by kernel_rfl⟩
instance : TStruct Try.prog 44 [(0, 1), (1, 1)] := ⟨by kernel_rfl⟩
instance : TField Try.prog 44 0 0 := ⟨by kernel_rfl⟩
instance : TField Try.prog 44 1 1 := ⟨by kernel_rfl⟩
instance : TFieldV Try.prog 44 0 0 1 false := ⟨by kernel_rfl⟩
instance : TFieldV Try.prog 44 1 1 1 false := ⟨by kernel_rfl⟩
instance : EqTy Try.prog 44 2 := EqTy.of (by kernel_rfl) (by kernel_rfl) (by kernel_rfl)
instance : TAgg Try.prog 46 3 := ⟨by kernel_rfl⟩
instance : TSize Try.prog 46 3 := ⟨by kernel_rfl⟩
instance : TZero Try.prog 46 [(.int .i64 0), (.int .i64 0), (.int .i64 0)] := ⟨by kernel_rfl⟩
instance : TStruct Try.prog 46 [(0, 2), (2, 1)] := ⟨by kernel_rfl⟩
instance : TField Try.prog 46 0 0 := ⟨by kernel_rfl⟩
instance : TField Try.prog 46 1 2 := ⟨by kernel_rfl⟩
instance : TFieldV Try.prog 46 0 0 2 true := ⟨by kernel_rfl⟩
instance : TFieldV Try.prog 46 1 2 1 false := ⟨by kernel_rfl⟩
instance : EqTy Try.prog 46 3 := EqTy.of (by kernel_rfl) (by kernel_rfl) (by kernel_rfl)
instance : TOne Try.prog 49 := ⟨by kernel_rfl⟩
instance : TSize Try.prog 49 1 := ⟨by kernel_rfl⟩
instance : TZero Try.prog 49 [(.slice none 0 0)] := ⟨by kernel_rfl⟩
instance : TSlice Try.prog 49 3 1 8 := ⟨by kernel_rfl⟩
instance : TAgg Try.prog 51 3 := ⟨by kernel_rfl⟩
instance : TSize Try.prog 51 3 := ⟨by kernel_rfl⟩
instance : TZero Try.prog 51 [(.int .u8 0), (.int .u8 0), (.int .u8 0)] := ⟨by kernel_rfl⟩
instance : TArr Try.prog 51 3 5 1 := ⟨by kernel_rfl⟩
instance : TOne Try.prog 59 := ⟨by kernel_rfl⟩
instance : TSize Try.prog 59 1 := ⟨by kernel_rfl⟩
instance : TZero Try.prog 59 [(.slice none 0 0)] := ⟨by kernel_rfl⟩
instance : TSlice Try.prog 59 61 2 48 := ⟨by kernel_rfl⟩
instance : TAgg Try.prog 61 2 := ⟨by kernel_rfl⟩
instance : TSize Try.prog 61 2 := ⟨by kernel_rfl⟩
instance : TZero Try.prog 61 [(.slice none 0 0), (.slice none 0 0)] := ⟨by kernel_rfl⟩
instance : TStruct Try.prog 61 [(0, 1), (1, 1)] := ⟨by kernel_rfl⟩
instance : TField Try.prog 61 0 0 := ⟨by kernel_rfl⟩
instance : TField Try.prog 61 1 1 := ⟨by kernel_rfl⟩
instance : TFieldV Try.prog 61 0 0 1 false := ⟨by kernel_rfl⟩
instance : TFieldV Try.prog 61 1 1 1 false := ⟨by kernel_rfl⟩
instance : TAgg Try.prog 65 2 := ⟨by kernel_rfl⟩
instance : TSize Try.prog 65 2 := ⟨by kernel_rfl⟩
instance : TZero Try.prog 65 [(.int .i64 0), (.int .i64 0)] := ⟨by kernel_rfl⟩
instance : TStruct Try.prog 65 [(0, 1), (1, 1)] := ⟨by kernel_rfl⟩
instance : TField Try.prog 65 0 0 := ⟨by kernel_rfl⟩
instance : TField Try.prog 65 1 1 := ⟨by kernel_rfl⟩
instance : TFieldV Try.prog 65 0 0 1 false := ⟨by kernel_rfl⟩
instance : TFieldV Try.prog 65 1 1 1 false := ⟨by kernel_rfl⟩
instance : EqTy Try.prog 65 2 := EqTy.of (by kernel_rfl) (by kernel_rfl) (by kernel_rfl)
instance : TAgg Try.prog 69 2 := ⟨by kernel_rfl⟩
instance : TSize Try.prog 69 2 := ⟨by kernel_rfl⟩
instance : TZero Try.prog 69 [(.int .u8 0), (.int .u8 0)] := ⟨by kernel_rfl⟩
instance : TArr Try.prog 69 2 5 1 := ⟨by kernel_rfl⟩
instance : TOne Try.prog 82 := ⟨by kernel_rfl⟩
instance : TSize Try.prog 82 1 := ⟨by kernel_rfl⟩
instance : TZero Try.prog 82 [(.map none)] := ⟨by kernel_rfl⟩
instance : TMap Try.prog 82 30 4 := ⟨by kernel_rfl⟩
instance : TOne Try.prog 83 := ⟨by kernel_rfl⟩
instance : TSize Try.prog 83 1 := ⟨by kernel_rfl⟩
instance : TZero Try.prog 83 [.nilFunc] := ⟨by kernel_rfl⟩
instance : TOne Try.prog 89 := ⟨by kernel_rfl⟩
instance : TSize Try.prog 89 1 := ⟨by kernel_rfl⟩
instance : TZero Try.prog 89 [.nilFunc] := ⟨by kernel_rfl⟩
instance : TOne Try.prog 90 := ⟨by kernel_rfl⟩
instance : TSize Try.prog 90 1 := ⟨by kernel_rfl⟩
instance : TZero Try.prog 90 [.nilFunc] := ⟨by kernel_rfl⟩
instance : TOne Try.prog 94 := ⟨by kernel_rfl⟩
instance : TSize Try.prog 94 1 := ⟨by kernel_rfl⟩
instance : TZero Try.prog 94 [(.pointer none)] := ⟨by kernel_rfl⟩
instance : TOne Try.prog 95 := ⟨by kernel_rfl⟩
instance : TSize Try.prog 95 1 := ⟨by kernel_rfl⟩
instance : TZero Try.prog 95 [(.pointer none)] := ⟨by kernel_rfl⟩
instance : TOne Try.prog 97 := ⟨by kernel_rfl⟩
instance : TSize Try.prog 97 1 := ⟨by kernel_rfl⟩
instance : TZero Try.prog 97 [(.pointer none)] := ⟨by kernel_rfl⟩
instance : TZv Try.prog 97 ((.pointer none)) := ⟨by kernel_rfl⟩
instance : TOne Try.prog 102 := ⟨by kernel_rfl⟩
instance : TSize Try.prog 102 1 := ⟨by kernel_rfl⟩
instance : TZero Try.prog 102 [(.map none)] := ⟨by kernel_rfl⟩
instance : TMap Try.prog 102 30 3 := ⟨by kernel_rfl⟩
instance : TOne Try.prog 107 := ⟨by kernel_rfl⟩
instance : TSize Try.prog 107 1 := ⟨by kernel_rfl⟩
instance : TZero Try.prog 107 [.nilFunc] := ⟨by kernel_rfl⟩
instance : TOne Try.prog 109 := ⟨by kernel_rfl⟩
instance : TSize Try.prog 109 1 := ⟨by kernel_rfl⟩
instance : TZero Try.prog 109 [.nilFunc] := ⟨by kernel_rfl⟩
instance : TOne Try.prog 113 := ⟨by kernel_rfl⟩
instance : TSize Try.prog 113 1 := ⟨by kernel_rfl⟩
instance : TZero Try.prog 113 [(.slice none 0 0)] := ⟨by kernel_rfl⟩
instance : TSlice Try.prog 113 65 2 16 := ⟨by kernel_rfl⟩
instance : TOne Try.prog 116 := ⟨by kernel_rfl⟩
instance : TSize Try.prog 116 1 := ⟨by kernel_rfl⟩
instance : TZero Try.prog 116 [(.map none)] := ⟨by kernel_rfl⟩
instance : TMap Try.prog 116 9 97 := ⟨by kernel_rfl⟩
instance : TOne Try.prog 117 := ⟨by kernel_rfl⟩
instance : TSize Try.prog 117 1 := ⟨by kernel_rfl⟩
instance : TZero Try.prog 117 [(.map none)] := ⟨by kernel_rfl⟩
instance : TMap Try.prog 117 137 4 := ⟨by kernel_rfl⟩
instance : TAgg Try.prog 119 3 := ⟨by kernel_rfl⟩
instance : TSize Try.prog 119 3 := ⟨by kernel_rfl⟩
instance : TZero Try.prog 119 [(.map none), (.map none), (.map none)] := ⟨by kernel_rfl⟩
instance : TStruct Try.prog 119 [(0, 1), (1, 1), (2, 1)] := ⟨by kernel_rfl⟩
instance : TField Try.prog 119 0 0 := ⟨by kernel_rfl⟩
instance : TField Try.prog 119 1 1 := ⟨by kernel_rfl⟩
instance : TField Try.prog 119 2 2 := ⟨by kernel_rfl⟩
instance : TFieldV Try.prog 119 0 0 1 false := ⟨by kernel_rfl⟩
instance : TFieldV Try.prog 119 1 1 1 false := ⟨by kernel_rfl⟩
instance : TFieldV Try.prog 119 2 2 1 false := ⟨by kernel_rfl⟩
instance : TOne Try.prog 120 := ⟨by kernel_rfl⟩
instance : TSize Try.prog 120 1 := ⟨by kernel_rfl⟩
instance : TZero Try.prog 120 [(.slice none 0 0)] := ⟨by kernel_rfl⟩
instance : TSlice Try.prog 120 97 1 8 := ⟨by kernel_rfl⟩
instance : TOne Try.prog 122 := ⟨by kernel_rfl⟩
instance : TSize Try.prog 122 1 := ⟨by kernel_rfl⟩
instance : TZero Try.prog 122 [(.pointer none)] := ⟨by kernel_rfl⟩
instance : TOne Try.prog 123 := ⟨by kernel_rfl⟩
instance : TSize Try.prog 123 1 := ⟨by kernel_rfl⟩
instance : TZero Try.prog 123 [(.slice none 0 0)] := ⟨by kernel_rfl⟩
instance : TSlice Try.prog 123 5 1 1 := ⟨by kernel_rfl⟩
instance : TAgg Try.prog 125 2 := ⟨by kernel_rfl⟩
instance : TSize Try.prog 125 2 := ⟨by kernel_rfl⟩
instance : TZero Try.prog 125 [(.pointer none), (.slice none 0 0)] := ⟨by kernel_rfl⟩
instance : TStruct Try.prog 125 [(0, 1), (1, 1)] := ⟨by kernel_rfl⟩
instance : TField Try.prog 125 0 0 := ⟨by kernel_rfl⟩
instance : TField Try.prog 125 1 1 := ⟨by kernel_rfl⟩
instance : TFieldV Try.prog 125 0 0 1 false := ⟨by kernel_rfl⟩
instance : TFieldV Try.prog 125 1 1 1 false := ⟨by kernel_rfl⟩
instance : TAgg Try.prog 132 3 := ⟨by kernel_rfl⟩
instance : TSize Try.prog 132 3 := ⟨by kernel_rfl⟩
instance : TZero Try.prog 132 [(.string ⟨#[]⟩), (.slice none 0 0), (.slice none 0 0)] := ⟨by kernel_rfl⟩
instance : TStruct Try.prog 132 [(0, 1), (1, 1), (2, 1)] := ⟨by kernel_rfl⟩
instance : TField Try.prog 132 0 0 := ⟨by kernel_rfl⟩
instance : TField Try.prog 132 1 1 := ⟨by kernel_rfl⟩
instance : TField Try.prog 132 2 2 := ⟨by kernel_rfl⟩
instance : TFieldV Try.prog 132 0 0 1 false := ⟨by kernel_rfl⟩
instance : TFieldV Try.prog 132 1 1 1 false := ⟨by kernel_rfl⟩
instance : TFieldV Try.prog 132 2 2 1 false := ⟨by kernel_rfl⟩
instance : TAgg Try.prog 137 2 := ⟨by kernel_rfl⟩
instance : TSize Try.prog 137 2 := ⟨by kernel_rfl⟩
instance : TZero Try.prog 137 [(.string ⟨#[]⟩), (.string ⟨#[]⟩)] := ⟨by kernel_rfl⟩
instance : TStruct Try.prog 137 [(0, 1), (1, 1)] := ⟨by kernel_rfl⟩
instance : TField Try.prog 137 0 0 := ⟨by kernel_rfl⟩
instance : TField Try.prog 137 1 1 := ⟨by kernel_rfl⟩
instance : TFieldV Try.prog 137 0 0 1 false := ⟨by kernel_rfl⟩
instance : TFieldV Try.prog 137 1 1 1 false := ⟨by kernel_rfl⟩
instance : TOne Try.prog 139 := ⟨by kernel_rfl⟩
instance : TSize Try.prog 139 1 := ⟨by kernel_rfl⟩
instance : TZero Try.prog 139 [.nilFunc] := ⟨by kernel_rfl⟩
instance : TOne Try.prog 141 := ⟨by kernel_rfl⟩
instance : TSize Try.prog 141 1 := ⟨by kernel_rfl⟩
instance : TZero Try.prog 141 [(.map none)] := ⟨by kernel_rfl⟩
instance : TMap Try.prog 141 30 23 := ⟨by kernel_rfl⟩
instance : TOne Try.prog 149 := ⟨by kernel_rfl⟩
instance : TSize Try.prog 149 1 := ⟨by kernel_rfl⟩
instance : TZero Try.prog 149 [(.pointer none)] := ⟨by kernel_rfl⟩
instance : TOne Try.prog 163 := ⟨by kernel_rfl⟩
instance : TSize Try.prog 163 1 := ⟨by kernel_rfl⟩
instance : TZero Try.prog 163 [(.pointer none)] := ⟨by kernel_rfl⟩

/- skewer/skewerlaw21.sanity : names 1 x, 2 ends, 3 codes, 4 around -/
def s11 (P : Program) (K : Value → WP) : WP :=
  Do P (vBuildSlice 49 1 [(0, (.int .i64 1))]) fun t1_5 =>
  Do P (vBuildSlice 25 2 [(0, (.slice none 0 0)), (1, t1_5)]) fun t2_6 =>
  Do P (vBuildSlice 49 1 [(0, (.int .i64 1))]) fun t3_7 =>
  Do P (vBuildSlice 25 2 [(0, (.slice none 0 0)), (1, t3_7)]) fun t4_8 =>
  Do P (vBuild 27 [(0, t2_6), (1, t4_8)]) fun t5_9 =>
  Do P (V (Instr.alloc 27 true (.tuple #[]))) fun x6 =>
  Do P (U (Instr.storeAt 27 x6 t5_9)) fun t7_x =>
  Jn (α := Value) (fun j8 => Jk fun _ => -- ends
   Jn (α := Value) (fun j9 => Jk fun _ => -- codes
    Do P (vBuild 30 [(0, (.int .i64 1))]) fun t10_68 =>
    Do P (vBuild 30 [(0, (.int .i64 1)), (2, (.int .i64 1))]) fun t11_69 =>
    Do P (vBuildSlice 23 2 [(0, t10_68), (1, t11_69)]) fun t12_70 =>
    Dr <|
    Gd j8 true (
     Gd j9 true (
      Qk P (V (Instr.loadAt 27 x6)) fun C13 t13_76 =>
      Qk P (vBuild 46 []) fun C14 t14_78 =>
      Do P (vCall (.func (.func 20) #[] ⟨[]⟩) [t13_76, (.int .i64 0)]) fun t15_77 =>
      With C14 <|
      Qk P (V (EqG .eql 46 (.tmp 77) (.tmp 78) t15_77 t14_78)) fun C16 t16_79 =>
      Gd t16_79 true (
       Qk P (V (Instr.loadAt 27 x6)) fun C17 t17_82 =>
       Qk P (vBuild 44 [(0, (.int .i64 8)), (1, (.int .i64 (-8)))]) fun C18 t18_84 =>
       Qk P (vBuild 46 [(0, t18_84)]) fun C19 t19_85 =>
       Do P (vCall (.func (.func 20) #[] ⟨[]⟩) [t17_82, (.int .i64 1)]) fun t20_83 =>
       With C19 <|
       With C18 <|
       Qk P (V (EqG .eql 46 (.tmp 83) (.tmp 85) t20_83 t19_85)) fun C21 t21_86 =>
       Gd t21_86 true (
        Qk P (V (Instr.loadAt 27 x6)) fun C22 t22_89 =>
        Qk P (V (Instr.indexAt 23 t12_70 (.int .i64 0))) fun C23 t23_91 =>
        Qk P (V (Instr.loadAt 30 t23_91)) fun C24 t24_92 =>
        Qk P (vBuild 37 [(0, t12_70)]) fun C25 t25_95 =>
        Do P (vCall (.func (.func 16) #[] ⟨[]⟩) [t22_89, t24_92, (.int .i64 0)]) fun t26_93 =>
        With C25 <|
        Do P (vCall (.func (.func 15) #[] ⟨[]⟩) [t26_93, t25_95]) fun t27_96 =>
        Gd t27_96 true (
         Qk P (V (Instr.loadAt 27 x6)) fun C28 t28_99 =>
         Qk P (V (Instr.indexAt 23 t12_70 (.int .i64 1))) fun C29 t29_101 =>
         Qk P (V (Instr.loadAt 30 t29_101)) fun C30 t30_102 =>
         Qk P (vBuild 41 [(0, t12_70)]) fun C31 t31_104 =>
         Do P (vCall (.func (.func 18) #[] ⟨[]⟩) [t28_99, t30_102, (.int .i64 1), t31_104]) fun t32_105 =>
         Gd t32_105 true (
          Qk P (V (Instr.loadAt 27 x6)) fun C33 t33_108 =>
          Qk P (vBuild 30 []) fun C34 t34_109 =>
          Qk P (vBuild 30 []) fun C35 t35_110 =>
          Do P (vBuildSlice 23 1 [(0, t35_110)]) fun t36_111 =>
          With C34 <|
          With C33 <|
          Qk P (vBuild 41 [(0, t36_111)]) fun C37 t37_112 =>
          Do P (vCall (.func (.func 18) #[] ⟨[]⟩) [t33_108, t34_109, (.int .i64 0), t37_112]) fun t38_113 =>
          Qk P (V (Op.unary .not t38_113)) fun C39 t39_114 =>
          Gd t39_114 true (
           Qk P (V (Instr.loadAt 27 x6)) fun C40 t40_117 =>
           Do P (vCall (.func (.func 23) #[] ⟨[]⟩) [t40_117]) fun t41_118 =>
           Or2 (
            Gd t41_118 true (
             Do P (vBuildSlice 49 1 [(0, (.int .i64 1))]) fun t42_121 =>
             Or2 (
              Do P (vBuildSlice 25 1 [(0, t42_121)]) fun t43_122 =>
              Do P (vBuildSlice 25 1 [(0, (.slice none 0 0))]) fun t44_123 =>
              Qk P (vBuild 27 [(0, t43_122), (1, t44_123)]) fun C45 t45_124 =>
              Do P (vCall (.func (.func 23) #[] ⟨[]⟩) [t45_124]) fun t46_125 =>
              Qk P (V (Op.unary .not t46_125)) fun C47 t47_126 =>
              K t47_126
             ) (
              Do P (vBuildSlice 25 1 [(0, (.slice none 0 0))]) fun t48_123 =>
              Do P (vBuildSlice 25 1 [(0, t42_121)]) fun t49_122 =>
              Qk P (vBuild 27 [(0, t49_122), (1, t48_123)]) fun C50 t50_124 =>
              Do P (vCall (.func (.func 23) #[] ⟨[]⟩) [t50_124]) fun t51_125 =>
              Qk P (V (Op.unary .not t51_125)) fun C52 t52_126 =>
              K t52_126
             )
            ) (
             Or2 (
              K (.bool false)
             ) (
              K (.bool false)
             )
            )
           ) (
            Gd t41_118 true (
             Do P (vBuildSlice 25 1 [(0, (.slice none 0 0))]) fun t53_123 =>
             Do P (vBuildSlice 49 1 [(0, (.int .i64 1))]) fun t54_121 =>
             Do P (vBuildSlice 25 1 [(0, t54_121)]) fun t55_122 =>
             Qk P (vBuild 27 [(0, t55_122), (1, t53_123)]) fun C56 t56_124 =>
             Do P (vCall (.func (.func 23) #[] ⟨[]⟩) [t56_124]) fun t57_125 =>
             Qk P (V (Op.unary .not t57_125)) fun C58 t58_126 =>
             K t58_126
            ) (
             K (.bool false)
            )
           )
          ) (
           Or2 (
            Or2 (
             K (.bool false)
            ) (
             K (.bool false)
            )
           ) (
            K (.bool false)
           )
          )
         ) (
          Or2 (
           Or2 (
            K (.bool false)
           ) (
            K (.bool false)
           )
          ) (
           K (.bool false)
          )
         )
        ) (
         Or2 (
          Or2 (
           K (.bool false)
          ) (
           K (.bool false)
          )
         ) (
          K (.bool false)
         )
        )
       ) (
        Or2 (
         Or2 (
          K (.bool false)
         ) (
          K (.bool false)
         )
        ) (
         K (.bool false)
        )
       )
      ) (
       Or2 (
        Or2 (
         K (.bool false)
        ) (
         K (.bool false)
        )
       ) (
        K (.bool false)
       )
      )
     ) (
      Or2 (
       Or2 (
        K (.bool false)
       ) (
        K (.bool false)
       )
      ) (
       K (.bool false)
      )
     )
    ) (
     Or2 (
      Or2 (
       K (.bool false)
      ) (
       K (.bool false)
      )
     ) (
      K (.bool false)
     )
    )
   ) fun k9 =>
   Do P (vBuild 27 []) fun t59_36 =>
   Do P (vBuild 30 []) fun t60_37 =>
   Do P (vCall (.func (.func 13) #[] ⟨[]⟩) [t59_36, t60_37]) fun t61_38 =>
   Do P (V (Instr.field 33 t61_38 1)) fun t62_39 =>
   Do P (V (EqG .eql 31 (.tmp 39) (.const (.int .i64 210)) t62_39 (.int .i64 210))) fun t63_40 =>
   Gd t63_40 true (
    Do P (V (Instr.loadAt 27 x6)) fun t64_42 =>
    Do P (vBuild 30 [(0, (.int .i64 2))]) fun t65_43 =>
    Do P (vCall (.func (.func 13) #[] ⟨[]⟩) [t64_42, t65_43]) fun t66_44 =>
    Do P (V (Instr.field 33 t66_44 1)) fun t67_45 =>
    Do P (V (EqG .eql 31 (.tmp 45) (.const (.int .i64 1)) t67_45 (.int .i64 1))) fun t68_46 =>
    Gd t68_46 true (
     Do P (V (Instr.loadAt 27 x6)) fun t69_49 =>
     Do P (vCall (.func (.func 20) #[] ⟨[]⟩) [t69_49, (.int .i64 (-1))]) fun t70_50 =>
     Do P (V (Instr.field 46 t70_50 1)) fun t71_51 =>
     Do P (V (EqG .eql 31 (.tmp 51) (.const (.int .i64 1)) t71_51 (.int .i64 1))) fun t72_52 =>
     Gd t72_52 true (
      Do P (V (Instr.loadAt 27 x6)) fun t73_55 =>
      Do P (vBuild 30 []) fun t74_56 =>
      Do P (vCall (.func (.func 16) #[] ⟨[]⟩) [t73_55, t74_56, (.int .i64 2)]) fun t75_57 =>
      Do P (V (Instr.field 37 t75_57 1)) fun t76_58 =>
      Do P (V (EqG .eql 31 (.tmp 58) (.const (.int .i64 1)) t76_58 (.int .i64 1))) fun t77_59 =>
      Gd t77_59 true (
       Do P (V (Instr.loadAt 27 x6)) fun t78_62 =>
       Do P (vBuild 30 []) fun t79_63 =>
       Do P (vCall (.func (.func 16) #[] ⟨[]⟩) [t78_62, t79_63, (.int .i64 0)]) fun t80_64 =>
       Do P (V (Instr.field 37 t80_64 1)) fun t81_65 =>
       Do P (V (EqG .eql 31 (.tmp 65) (.const (.int .i64 211)) t81_65 (.int .i64 211))) fun t82_66 =>
       k9 t82_66
      ) (
       k9 (.bool false)
      )
     ) (
      k9 (.bool false)
     )
    ) (
     k9 (.bool false)
    )
   ) (
    k9 (.bool false)
   )
  ) fun k8 =>
  Do P (V (Instr.loadAt 27 x6)) fun t83_10 =>
  Do P (vBuild 30 []) fun t84_11 =>
  Do P (vCall (.func (.func 13) #[] ⟨[]⟩) [t83_10, t84_11]) fun t85_12 =>
  Do P (V (Instr.field 33 t85_12 0)) fun t86_13 =>
  Do P (V (EqG .eql 3 (.tmp 13) (.const (.int .i64 3)) t86_13 (.int .i64 3))) fun t87_14 =>
  Gd t87_14 true (
   Do P (V (Instr.loadAt 27 x6)) fun t88_16 =>
   Do P (vBuild 30 [(1, (.int .i64 1))]) fun t89_17 =>
   Do P (vCall (.func (.func 13) #[] ⟨[]⟩) [t88_16, t89_17]) fun t90_18 =>
   Do P (V (Instr.field 33 t90_18 0)) fun t91_19 =>
   Do P (V (EqG .eql 3 (.tmp 19) (.const (.int .i64 1)) t91_19 (.int .i64 1))) fun t92_20 =>
   Gd t92_20 true (
    Do P (V (Instr.loadAt 27 x6)) fun t93_23 =>
    Do P (vBuild 30 [(1, (.int .i64 (-1)))]) fun t94_24 =>
    Do P (vCall (.func (.func 13) #[] ⟨[]⟩) [t93_23, t94_24]) fun t95_25 =>
    Do P (V (Instr.field 33 t95_25 0)) fun t96_26 =>
    Do P (V (EqG .eql 3 (.tmp 26) (.const (.int .i64 3)) t96_26 (.int .i64 3))) fun t97_27 =>
    Gd t97_27 true (
     Do P (V (Instr.loadAt 27 x6)) fun t98_30 =>
     Do P (vBuild 30 [(0, (.int .i64 1)), (1, (.int .i64 5)), (2, (.int .i64 1))]) fun t99_31 =>
     Do P (vCall (.func (.func 13) #[] ⟨[]⟩) [t98_30, t99_31]) fun t100_32 =>
     Do P (V (Instr.field 33 t100_32 0)) fun t101_33 =>
     Do P (V (EqG .eql 3 (.tmp 33) (.const (.int .i64 2)) t101_33 (.int .i64 2))) fun t102_34 =>
     k8 t102_34
    ) (
     k8 (.bool false)
    )
   ) (
    k8 (.bool false)
   )
  ) (
   k8 (.bool false)
  )
def A11 : Ann := .s (.n) (.s (.n) (.j [2] 68719475716 (.n) (.j [3] 295147905110633349128 (.n) (.s (.n) (.s (.plan [(0, 4, 2361183241434822606848), (1, 2361183241434822606848, 4722366482869645213696), (2, 4722366482869645213704, 9444732965739290427392), (6, 14167099448608935641088, 18889465931478580854784), (10, 18889465931478580854784, 37778931862957161709568), (16, 37778931862957161709570, 75557863725914323419136), (48, 113336795588871485128704, 151115727451828646838272), (16, 37778931862957161709568, 302231454903657293676544), (208, 491126114218443102224384, 604462909807314587353088), (272, 642241841670271749062656, 1208925819614629174706176), (576, 1208925819614629174706176, 2417851639229258349412352), (1024, 2417851639229258349412354, 4835703278458516698824704), (3072, 7253554917687775048237056, 9671406556917033397649408), (1024, 2417851639229258349412352, 19342813113834066795298816), (9216, 21760664753063325144711168, 38685626227668133590597632), (21504, 50774884423814425337659392, 77371252455336267181195264), (33792, 79789104094565525530607616, 154742504910672534362390528), (69632, 154742504910672534362390528, 309485009821345068724781056), (131072, 309485009821345068724781058, 618970019642690137449562112), (131072, 309485009821345068724781072, 1237940039285380274899124224), (655360, 1547425049106725343623905280, 2475880078570760549798248448), (1179648, 2785365088392105618523029504, 4951760157141521099596496896), (2490368, 5880215186605556305770840064, 9903520314283042199192993792), (131072, 309485009821345068724781072, 19807040628566084398385987584), (8519680, 20116525638387429467110768640, 39614081257132168796771975168), (21102592, 49827086581236556064689750016, 79228162514264337593543950336), (33685504, 79537647524085682662268731392, 158456325028528675187087900672), (100663296, 158456325028528675187087900672, 316912650057057350374175801344), (134217728, 316912650057057350374175801346, 633825300114114700748351602688), (134217728, 316912650057057350374175801360, 1267650600228229401496703205376), (671088640, 1584563250285286751870879006720, 2535301200456458802993406410752), (1207959552, 2852213850513516153367582212096, 5070602400912917605986812821504), (134217728, 316912650057057350374175801360, 10141204801825835211973625643008), (4429185024, 10458117451882892562347801444352, 20282409603651670423947251286016), (11140071424, 26303749954735760081056591511552, 40564819207303340847894502572032), (17314086912, 40881731857360398198268678373376, 81129638414606681695789005144064), (51539607552, 81129638414606681695789005144064, 162259276829213363391578010288128), (68719476736, 162259276829213363391578010288130, 324518553658426726783156020576256), (68719476736, 162259276829213363391578010288128, 649037107316853453566312041152512), (68719476736, 162259276829213363391578010288128, 1298074214633706907132624082305024), (618475290624, 1460333491462920270524202092593152, 2596148429267413814265248164610048), (1168231104512, 2758407706096627177656826174898176, 5192296858534827628530496329220096), (2680059592704, 6328111796339321172271542401236992, 10384593717069655257060992658440192), (4466765987840, 10546852993898868620452570668728320, 20769187434139310514121985316880384), (8864812498944, 20931446710968523877513563327168512, 41538374868278621028243970633760768), (21990232555520, 41538374868278621028243970633760768, 83076749736557242056487941267521536), (35184372088832, 83076749736557242056487941267521538, 166153499473114484112975882535043072), (105553116266496, 249230249209671726169463823802564608, 332306998946228968225951765070086144), (175921860444160, 415383748682786210282439706337607680, 664613997892457936451903530140172288), (422212465065984, 664613997892457936451903530140172288, 1329227995784915872903807060280344576), (562949953421312, 1329227995784915872903807060280344576, 2658455991569831745807614120560689152), (1688849860263936, 3987683987354747618711421180841033728, 5316911983139663491615228241121378304), (562949953421312, 1329227995784915872903807060280344576, 10633823966279326983230456482242756608), (7318349394477056, 17279963945203906347749491783644479488, 21267647932558653966460912964485513216), (9570149208162304, 22596875928343569839364720024765857792, 42535295865117307932921825928971026432), (18577348462903296, 43864523860902223805825632989251371008, 85070591730234615865843651857942052864), (36591746972385280, 86399819726019531738747458918222397440, 170141183460469231731687303715884105728), (144115188075855871, 170141183460469231731687303715884105728, 1)] (.q 0 (.q 1 (.q 2 (.q 3 (.q 4 (.q 5 (.q 7 (.l 6 (.q 8 (.q 9 (.q 10 (.q 11 (.q 13 (.q 14 (.l 12 (.q 15 (.q 16 (.q 17 (.q 18 (.q 19 (.q 20 (.q 21 (.q 23 (.q 24 (.l 22 (.l 25 (.q 26 (.q 27 (.q 28 (.q 29 (.q 30 (.q 31 (.q 32 (.q 33 (.l 34 (.q 35 (.q 36 (.q 37 (.q 38 (.q 39 (.l 40 (.q 41 (.l 42 (.q 43 (.q 44 (.q 45 (.q 46 (.l 47 (.q 48 (.q 49 (.or (.l 50 (.or (.l 51 (.l 52 (.q 53 (.l 54 (.q 55 (.q 56 (.q 57 .done))))))) (.l 52 (.l 51 (.q 53 (.l 54 (.q 55 (.q 56 (.q 57 .done))))))))) (.l 52 (.l 50 (.l 51 (.q 53 (.l 54 (.q 55 (.q 56 (.q 57 .done)))))))))))))))))))))))))))))))))))))))))))))))))))))))))))) (.n))))))
set_option maxRecDepth 100000 in
theorem c11 (K : Value → WP) (w : World) (h : s11 Try.prog  K w) : Runs Try.prog 11 [] K w :=
  runs_of_E wide (fn := Try.f11) (c := Try.f11.body.getD .skip) 128 A11 [] w K Try.func11 (by kernel_rfl) (by kernel_rfl) (by kernel_rfl) (by kernel_rfl)
    (Eq.mp (by kernel_rfl : s11 Try.prog  K w = E Try.prog (Try.f11.body.getD .skip) A11 (topK Try.prog K Try.f11.results) (fun i => (([] : List Value)[i]?).getD undef) w) h)
theorem ct11 {h : Hp} {post : Hp → Value → Prop} (hg : ∀ w0, Gs w0 h h [] (s11 Try.prog  (RetP w0 h post))) : Ct Try.prog 11 [] h post := Ct.of (sf := s11 Try.prog ) (c11 ) hg
theorem in11 {S : WP} {K : Value → WP} (hg : G S (s11 Try.prog  K)) : G S (Do Try.prog (vCall (.func (.func 11) #[] ⟨[]⟩) []) K) := Gs.into (args := []) (caps := []) (sf := s11 Try.prog ) (c11 ) hg

/- skewer/skewerref21.Made : names 0 l, 1 n, 2 loops, 3 l, 4 n, 5 loops, 7 nodes, 8 x, 9 i, 10 from, 11 to -/
def s12 (P : Program) (arg0 arg1 arg2 : Value) (K : Value → WP) : WP :=
  Do P (V (Instr.alloc 27 true (.tuple #[]))) fun t1_6 =>
  Do P (V (convert 5 3 arg1)) fun t2_13 =>
  Do P (V (binOp .rem 3 t2_13 (.int .i64 5))) fun t3_14 =>
  Do P (V (binOp .add 3 (.int .i64 1) t3_14)) fun t4_15 =>
  Jn (α := Value) (fun j5 => Jk fun _ => -- x
   Lp (α := Value) (fun c6 s6 => Jk fun _ => -- i
    Jn (α := Value) (fun j7 => Jk fun _ => -- t28
     If j7 (
      Jn (α := Unit) (fun j8 => Jk fun _ => -- 
       Do P (V (binOp .add 3 s6 (.int .i64 1))) fun t9_30 =>
       c6 t9_30
      ) fun k8 =>
      Dr <|
      Qk P (V (Instr.indexAt 22 arg0 s6)) fun C10 t10_33 =>
      Qk P (V (Instr.indexAt 69 t10_33 (.int .i64 0))) fun C11 t11_34 =>
      Qk P (V (Instr.loadAt 5 t11_34)) fun C12 t12_35 =>
      Qk P (V (convert 5 3 t12_35)) fun C13 t13_36 =>
      Qk P (V (binOp .rem 3 t13_36 t4_15)) fun C14 t14_38 =>
      Qk P (V (Instr.indexAt 22 arg0 s6)) fun C15 t15_41 =>
      Qk P (V (Instr.indexAt 69 t15_41 (.int .i64 1))) fun C16 t16_42 =>
      Qk P (V (Instr.loadAt 5 t16_42)) fun C17 t17_43 =>
      Qk P (V (convert 5 3 t17_43)) fun C18 t18_44 =>
      Qk P (V (binOp .rem 3 t18_44 t4_15)) fun C19 t19_46 =>
      Jn (α := Value) (fun j20 => Jk fun _ => -- t53
       If j20 (
        k8 ()
       ) (
        Do P (V (Instr.indexAt 22 arg0 s6)) fun t21_56 =>
        Do P (V (Instr.indexAt 69 t21_56 (.int .i64 0))) fun t22_57 =>
        Do P (V (Instr.loadAt 5 t22_57)) fun t23_58 =>
        Do P (V (binOp .quo 5 t23_58 (.int .u8 64))) fun t24_59 =>
        Do P (V (binOp .rem 5 t24_59 (.int .u8 2))) fun t25_60 =>
        Do P (V (EqG .eql 5 (.tmp 60) (.const (.int .u8 0)) t25_60 (.int .u8 0))) fun t26_61 =>
        If t26_61 (
         Dr <|
         Qk P (V (Instr.fieldAt 27 j5 0)) fun C27 t27_62 =>
         Qk P (V (Instr.loadAt 25 t27_62)) fun C28 t28_63 =>
         Qk P (V (Instr.fieldAt 27 j5 0)) fun C29 t29_65 =>
         Qk P (V (Instr.loadAt 25 t29_65)) fun C30 t30_66 =>
         Qk P (V (Instr.indexAt 25 t30_66 t14_38)) fun C31 t31_68 =>
         Qk P (V (Instr.loadAt 49 t31_68)) fun C32 t32_69 =>
         Do P (vBuildSlice 49 1 [(0, t19_46)]) fun t33_71 =>
         With C32 <|
         With C31 <|
         With C30 <|
         With C29 <|
         With C28 <|
         With C27 <|
         Do P (vBuiltin .append #[49, 49] 49 [t32_69, t33_71]) fun t34_72 =>
         With C28 <|
         With C27 <|
         Qk P (V (Instr.indexAt 25 t28_63 t14_38)) fun C35 t35_73 =>
         Do P (U (Instr.storeAt 49 t35_73 t34_72)) fun t36_x =>
         k8 ()
        ) (
         Dr <|
         Qk P (V (Instr.fieldAt 27 j5 1)) fun C37 t37_74 =>
         Qk P (V (Instr.loadAt 25 t37_74)) fun C38 t38_75 =>
         Qk P (V (Instr.fieldAt 27 j5 1)) fun C39 t39_77 =>
         Qk P (V (Instr.loadAt 25 t39_77)) fun C40 t40_78 =>
         Qk P (V (Instr.indexAt 25 t40_78 t14_38)) fun C41 t41_80 =>
         Qk P (V (Instr.loadAt 49 t41_80)) fun C42 t42_81 =>
         Do P (vBuildSlice 49 1 [(0, t19_46)]) fun t43_83 =>
         With C42 <|
         With C41 <|
         With C40 <|
         With C39 <|
         With C38 <|
         With C37 <|
         Do P (vBuiltin .append #[49, 49] 49 [t42_81, t43_83]) fun t44_84 =>
         With C38 <|
         With C37 <|
         Qk P (V (Instr.indexAt 25 t38_75 t14_38)) fun C45 t45_85 =>
         Do P (U (Instr.storeAt 49 t45_85 t44_84)) fun t46_x =>
         k8 ()
        )
       )
      ) fun k20 =>
      Do P (V (Op.unary .not arg2)) fun t47_48 =>
      Gd t47_48 true (
       Do P (V (binOp .geq 3 t19_46 t14_38)) fun t48_52 =>
       k20 t48_52
      ) (
       k20 (.bool false)
      )
     ) (
      Do P (V (Instr.loadAt 27 j5)) fun t49_86 =>
      Do P (U (Instr.storeAt 27 t1_6 t49_86)) fun t50_x =>
      RetC P 27 t1_6 K
     )
    ) fun k7 =>
    Do P (vBuiltin .len #[22] 3 [arg0]) fun t51_23 =>
    Do P (V (binOp .lss 3 s6 t51_23)) fun t52_24 =>
    Gd t52_24 true (
     Do P (V (binOp .lss 3 s6 (.int .i64 20))) fun t53_27 =>
     k7 t53_27
    ) (
     k7 (.bool false)
    )
   ) (.int .i64 0)
  ) fun k5 =>
  Dr <|
  Or2 (
   Do P (V (Instr.makeSlice 25 t4_15 t4_15)) fun t54_17 =>
   Or2 (
    Do P (V (Instr.makeSlice 25 t4_15 t4_15)) fun t55_19 =>
    Qk P (vBuild 27 [(0, t54_17), (1, t55_19)]) fun C56 t56_20 =>
    Do P (V (Instr.alloc 27 true (.tuple #[]))) fun x57 =>
    With C56 <|
    Do P (U (Instr.storeAt 27 x57 t56_20)) fun t58_x =>
    k5 x57
   ) (
    Do P (V (Instr.alloc 27 true (.tuple #[]))) fun x59 =>
    Do P (V (Instr.makeSlice 25 t4_15 t4_15)) fun t60_19 =>
    Qk P (vBuild 27 [(0, t54_17), (1, t60_19)]) fun C61 t61_20 =>
    Do P (U (Instr.storeAt 27 x59 t61_20)) fun t62_x =>
    k5 x59
   )
  ) (
   Or2 (
    Do P (V (Instr.makeSlice 25 t4_15 t4_15)) fun t63_19 =>
    Or2 (
     Do P (V (Instr.makeSlice 25 t4_15 t4_15)) fun t64_17 =>
     Qk P (vBuild 27 [(0, t64_17), (1, t63_19)]) fun C65 t65_20 =>
     Do P (V (Instr.alloc 27 true (.tuple #[]))) fun x66 =>
     With C65 <|
     Do P (U (Instr.storeAt 27 x66 t65_20)) fun t67_x =>
     k5 x66
    ) (
     Do P (V (Instr.alloc 27 true (.tuple #[]))) fun x68 =>
     Do P (V (Instr.makeSlice 25 t4_15 t4_15)) fun t69_17 =>
     Qk P (vBuild 27 [(0, t69_17), (1, t63_19)]) fun C70 t70_20 =>
     Do P (U (Instr.storeAt 27 x68 t70_20)) fun t71_x =>
     k5 x68
    )
   ) (
    Do P (V (Instr.alloc 27 true (.tuple #[]))) fun x72 =>
    Or2 (
     Do P (V (Instr.makeSlice 25 t4_15 t4_15)) fun t73_17 =>
     Do P (V (Instr.makeSlice 25 t4_15 t4_15)) fun t74_19 =>
     Qk P (vBuild 27 [(0, t73_17), (1, t74_19)]) fun C75 t75_20 =>
     Do P (U (Instr.storeAt 27 x72 t75_20)) fun t76_x =>
     k5 x72
    ) (
     Do P (V (Instr.makeSlice 25 t4_15 t4_15)) fun t77_19 =>
     Do P (V (Instr.makeSlice 25 t4_15 t4_15)) fun t78_17 =>
     Qk P (vBuild 27 [(0, t78_17), (1, t77_19)]) fun C79 t79_20 =>
     Do P (U (Instr.storeAt 27 x72 t79_20)) fun t80_x =>
     k5 x72
    )
   )
  )
def A12 : Ann := .s (.n) (.s (.n) (.j [8] 2031872 (.plan [(0, 128, 65536), (1, 65536, 131072), (0, 128, 262144), (4, 262144, 524288), (10, 655360, 1048576), (0, 0, 256), (63, 1048832, 0)] (.q 0 (.q 2 (.or (.l 1 (.or (.l 3 (.q 4 (.l 5 (.l 6 .done)))) (.l 5 (.l 3 (.q 4 (.l 6 .done)))))) (.or (.l 3 (.or (.l 1 (.q 4 (.l 5 (.l 6 .done)))) (.l 5 (.l 1 (.q 4 (.l 6 .done)))))) (.l 5 (.or (.l 1 (.l 3 (.q 4 (.l 6 .done)))) (.l 3 (.l 1 (.q 4 (.l 6 .done))))))))))) (.s (.s (.n) (.lp [9] 77371252455336267179101696 (.s (.j [28] 534773760 (.n) (.s (.n) (.n))) (.j [] 77371252455336265033714688 (.s (.plan [(0, 1, 2147483648), (0, 512, 4294967296), (3, 6442450944, 8589934592), (4, 8589934592, 17179869184), (8, 17179869184, 34359738368), (16, 34359738368, 68719476736), (0, 128, 137438953472), (96, 206158430208, 274877906944), (0, 1, 549755813888), (0, 512, 1099511627776), (768, 1649267441664, 2199023255552), (1024, 2199023255552, 4398046511104), (2048, 4398046511104, 8796093022208), (4096, 8796093022208, 17592186044416), (0, 128, 35184372088832), (24576, 52776558133248, 70368744177664), (255, 274877906944, 1024), (131071, 70368744177664, 2048)] (.q 0 (.q 1 (.q 2 (.q 3 (.q 4 (.q 5 (.q 6 (.q 7 (.q 8 (.q 9 (.q 10 (.q 11 (.q 12 (.q 13 (.q 14 (.q 15 (.q 16 (.q 17 .done))))))))))))))))))) (.s (.j [53] 17873661021126656 (.n) (.s (.n) (.n))) (.s (.n) (.s (.plan [(0, 256, 4611686018427387904), (1, 4611686018427387904, 9223372036854775808), (0, 1024, 18446744073709551616), (0, 256, 36893488147419103232), (8, 36893488147419103232, 73786976294838206464), (0, 1024, 147573952589676412928), (48, 221360928884514619392, 295147905179352825856), (64, 295147905179352825856, 590295810358705651712), (0, 2048, 1180591620717411303424), (256, 1180591620717411303424, 2361183241434822606848), (640, 2951479051793528258560, 4722366482869645213696), (2047, 27670116110564327424, 9444732965739290427392), (4095, 14167099448608935641088, 0)] (.q 0 (.q 1 (.q 2 (.q 3 (.q 4 (.q 5 (.q 6 (.q 7 (.q 8 (.l 9 (.l 10 (.q 11 (.l 12 .done)))))))))))))) (.plan [(0, 256, 18889465931478580854784), (1, 18889465931478580854784, 37778931862957161709568), (0, 1024, 75557863725914323419136), (0, 256, 151115727451828646838272), (8, 151115727451828646838272, 302231454903657293676544), (0, 1024, 604462909807314587353088), (48, 906694364710971881029632, 1208925819614629174706176), (64, 1208925819614629174706176, 2417851639229258349412352), (0, 2048, 4835703278458516698824704), (256, 4835703278458516698824704, 9671406556917033397649408), (640, 12089258196146291747061760, 19342813113834066795298816), (2047, 113336795588871485128704, 38685626227668133590597632), (4095, 58028439341502200385896448, 0)] (.q 0 (.q 1 (.q 2 (.q 3 (.q 4 (.q 5 (.q 6 (.q 7 (.q 8 (.l 9 (.l 10 (.q 11 (.l 12 .done)))))))))))))))))) (.n))))) (.s (.n) (.n)))))
set_option maxRecDepth 100000 in
theorem c12 (arg0 arg1 arg2 : Value) (K : Value → WP) (w : World) (h : s12 Try.prog arg0 arg1 arg2 K w) : Runs Try.prog 12 [arg0, arg1, arg2] K w :=
  runs_of_E wide (fn := Try.f12) (c := Try.f12.body.getD .skip) 87 A12 [arg0, arg1, arg2] w K Try.func12 (by kernel_rfl) (by kernel_rfl) (by kernel_rfl) (by kernel_rfl)
    (Eq.mp (by kernel_rfl : s12 Try.prog arg0 arg1 arg2 K w = E Try.prog (Try.f12.body.getD .skip) A12 (topK Try.prog K Try.f12.results) (fun i => (([arg0, arg1, arg2] : List Value)[i]?).getD undef) w) h)
theorem ct12 {arg0 arg1 arg2 : Value} {h : Hp} {post : Hp → Value → Prop} (hg : ∀ w0, Gs w0 h h [] (s12 Try.prog arg0 arg1 arg2 (RetP w0 h post))) : Ct Try.prog 12 [arg0, arg1, arg2] h post := Ct.of (sf := s12 Try.prog arg0 arg1 arg2) (c12 arg0 arg1 arg2) hg
theorem in12 {arg0 arg1 arg2 : Value} {S : WP} {K : Value → WP} (hg : G S (s12 Try.prog arg0 arg1 arg2 K)) : G S (Do Try.prog (vCall (.func (.func 12) #[] ⟨[]⟩) [arg0, arg1, arg2]) K) := Gs.into (args := [arg0, arg1, arg2]) (caps := []) (sf := s12 Try.prog arg0 arg1 arg2) (c12 arg0 arg1 arg2) hg

/- skewer/skewerlaw21.solve : names 0 x, 1 s, 2 x, 3 s, 5 n, 6 e -/
def s13 (P : Program) (arg0 arg1 : Value) (K : Value → WP) : WP :=
  Do P (V (Instr.box 27 arg0)) fun x1 =>
  Do P (V (Instr.box 30 arg1)) fun s2 =>
  Do P (V (Instr.alloc 33 true (.tuple #[]))) fun t3_4 =>
  Do P (V (Instr.loadAt 27 x1)) fun t4_8 =>
  Do P (V (Instr.loadAt 30 s2)) fun t5_9 =>
  Do P (vCall (.func (.func 32) #[] ⟨[]⟩) [t4_8, t5_9]) fun t6_10 =>
  Do P (V (Instr.extract t6_10 0)) fun t7_11 =>
  Do P (V (Instr.extract t6_10 1)) fun t8_12 =>
  Do P (vBuild 33 [(0, t7_11), (1, t8_12)]) fun t9_15 =>
  Do P (U (Instr.storeAt 33 t3_4 t9_15)) fun t10_x =>
  RetC P 33 t3_4 K
def A13 : Ann := .s (.n) (.s (.n) (.s (.n) (.n)))
set_option maxRecDepth 100000 in
theorem c13 (arg0 arg1 : Value) (K : Value → WP) (w : World) (h : s13 Try.prog arg0 arg1 K w) : Runs Try.prog 13 [arg0, arg1] K w :=
  runs_of_E wide (fn := Try.f13) (c := Try.f13.body.getD .skip) 16 A13 [arg0, arg1] w K Try.func13 (by kernel_rfl) (by kernel_rfl) (by kernel_rfl) (by kernel_rfl)
    (Eq.mp (by kernel_rfl : s13 Try.prog arg0 arg1 K w = E Try.prog (Try.f13.body.getD .skip) A13 (topK Try.prog K Try.f13.results) (fun i => (([arg0, arg1] : List Value)[i]?).getD undef) w) h)
theorem ct13 {arg0 arg1 : Value} {h : Hp} {post : Hp → Value → Prop} (hg : ∀ w0, Gs w0 h h [] (s13 Try.prog arg0 arg1 (RetP w0 h post))) : Ct Try.prog 13 [arg0, arg1] h post := Ct.of (sf := s13 Try.prog arg0 arg1) (c13 arg0 arg1) hg
theorem in13 {arg0 arg1 : Value} {S : WP} {K : Value → WP} (hg : G S (s13 Try.prog arg0 arg1 K)) : G S (Do Try.prog (vCall (.func (.func 13) #[] ⟨[]⟩) [arg0, arg1]) K) := Gs.into (args := [arg0, arg1]) (caps := []) (sf := s13 Try.prog arg0 arg1) (c13 arg0 arg1) hg

/- skewer/skewerref21.Solve : names 0 x, 1 s, 2 x, 3 s -/
def s14 (P : Program) (arg0 arg1 : Value) (K : Value → WP) : WP :=
  Do P (V (Instr.box 27 arg0)) fun x1 =>
  Do P (V (Instr.box 30 arg1)) fun s2 =>
  Do P (V (Instr.alloc 33 true (.tuple #[]))) fun t3_4 =>
  Do P (V (Instr.loadAt 27 x1)) fun t4_5 =>
  Do P (vCall (.func (.func 22) #[] ⟨[]⟩) [t4_5]) fun t5_6 =>
  Do P (V (Op.unary .not t5_6)) fun t6_7 =>
  If t6_7 (
   Do P (vBuild 33 [(1, (.int .i64 210))]) fun t7_8 =>
   Do P (U (Instr.storeAt 33 t3_4 t7_8)) fun t8_x =>
   RetC P 33 t3_4 K
  ) (
   Do P (V (Instr.loadAt 27 x1)) fun t9_9 =>
   Do P (V (Instr.loadAt 30 s2)) fun t10_10 =>
   Do P (vCall (.func (.func 33) #[] ⟨[]⟩) [t9_9, t10_10]) fun t11_11 =>
   Do P (V (Op.unary .not t11_11)) fun t12_12 =>
   If t12_12 (
    Do P (vBuild 33 [(1, (.int .i64 1))]) fun t13_13 =>
    Do P (U (Instr.storeAt 33 t3_4 t13_13)) fun t14_x =>
    RetC P 33 t3_4 K
   ) (
    Dr <|
    Qk P (V (Instr.loadAt 30 s2)) fun C15 t15_14 =>
    Qk P (V (Instr.loadAt 27 x1)) fun C16 t16_15 =>
    Qk P (V (Instr.fieldAt 30 s2 1)) fun C17 t17_16 =>
    Qk P (V (Instr.loadAt 3 t17_16)) fun C18 t18_17 =>
    Qk P (V (Instr.fieldAt 30 s2 1)) fun C19 t19_20 =>
    Qk P (V (Instr.loadAt 3 t19_20)) fun C20 t20_21 =>
    Do P (vCall (.func (.func 36) #[] ⟨[]⟩) [t18_17]) fun t21_18 =>
    With C20 <|
    With C19 <|
    With C16 <|
    With C15 <|
    Do P (vCall (.func (.func 35) #[] ⟨[]⟩) [t16_15, t21_18]) fun t22_19 =>
    With C20 <|
    With C19 <|
    With C15 <|
    Do P (vCall (.func (.func 36) #[] ⟨[]⟩) [t20_21]) fun t23_22 =>
    With C15 <|
    Do P (vCall (.func (.func 34) #[] ⟨[]⟩) [t15_14, t22_19, t23_22]) fun t24_23 =>
    Qk P (vBuild 33 [(0, t24_23)]) fun C25 t25_24 =>
    Do P (U (Instr.storeAt 33 t3_4 t25_24)) fun t26_x =>
    RetC P 33 t3_4 K
   )
  )
def A14 : Ann := .s (.n) (.s (.s (.n) (.s (.s (.n) (.n)) (.n))) (.s (.s (.n) (.s (.s (.n) (.n)) (.n))) (.s (.plan [(0, 8, 16384), (0, 4, 32768), (0, 8, 65536), (4, 65536, 131072), (8, 131072, 262144), (18, 294912, 524288), (0, 8, 1048576), (64, 1048576, 2097152), (160, 2097152, 4194304), (289, 4734976, 8388608), (512, 8388608, 16777216), (2047, 16777232, 0)] (.q 0 (.q 1 (.q 2 (.q 3 (.q 6 (.q 7 (.l 4 (.l 5 (.l 8 (.l 9 (.q 10 (.l 11 .done))))))))))))) (.n))))
set_option maxRecDepth 100000 in
theorem c14 (arg0 arg1 : Value) (K : Value → WP) (w : World) (h : s14 Try.prog arg0 arg1 K w) : Runs Try.prog 14 [arg0, arg1] K w :=
  runs_of_E wide (fn := Try.f14) (c := Try.f14.body.getD .skip) 25 A14 [arg0, arg1] w K Try.func14 (by kernel_rfl) (by kernel_rfl) (by kernel_rfl) (by kernel_rfl)
    (Eq.mp (by kernel_rfl : s14 Try.prog arg0 arg1 K w = E Try.prog (Try.f14.body.getD .skip) A14 (topK Try.prog K Try.f14.results) (fun i => (([arg0, arg1] : List Value)[i]?).getD undef) w) h)
theorem ct14 {arg0 arg1 : Value} {h : Hp} {post : Hp → Value → Prop} (hg : ∀ w0, Gs w0 h h [] (s14 Try.prog arg0 arg1 (RetP w0 h post))) : Ct Try.prog 14 [arg0, arg1] h post := Ct.of (sf := s14 Try.prog arg0 arg1) (c14 arg0 arg1) hg
theorem in14 {arg0 arg1 : Value} {S : WP} {K : Value → WP} (hg : G S (s14 Try.prog arg0 arg1 K)) : G S (Do Try.prog (vCall (.func (.func 14) #[] ⟨[]⟩) [arg0, arg1]) K) := Gs.into (args := [arg0, arg1]) (caps := []) (sf := s14 Try.prog arg0 arg1) (c14 arg0 arg1) hg

/- skewer/skewerlaw21.sameProved : names 0 a, 1 b, 2 a, 3 b -/
def s15 (P : Program) (arg0 arg1 : Value) (K : Value → WP) : WP :=
  Do P (V (Instr.box 37 arg0)) fun a1 =>
  Do P (V (Instr.box 37 arg1)) fun b2 =>
  Do P (V (Instr.fieldAt 37 a1 0)) fun t3_5 =>
  Do P (V (Instr.loadAt 23 t3_5)) fun t4_6 =>
  Do P (V (Instr.fieldAt 37 b2 0)) fun t5_7 =>
  Do P (V (Instr.loadAt 23 t5_7)) fun t6_8 =>
  Do P (vCall (.func (.func 37) #[] ⟨[]⟩) [t4_6, t6_8]) fun t7_9 =>
  Gd t7_9 true (
   Do P (V (Instr.fieldAt 37 a1 1)) fun t8_11 =>
   Do P (V (Instr.loadAt 31 t8_11)) fun t9_12 =>
   Do P (V (Instr.fieldAt 37 b2 1)) fun t10_13 =>
   Do P (V (Instr.loadAt 31 t10_13)) fun t11_14 =>
   Do P (V (EqG .eql 31 (.tmp 12) (.tmp 14) t9_12 t11_14)) fun t12_15 =>
   K t12_15
  ) (
   K (.bool false)
  )
def A15 : Ann := .s (.n) (.s (.n) (.n))
set_option maxRecDepth 100000 in
theorem c15 (arg0 arg1 : Value) (K : Value → WP) (w : World) (h : s15 Try.prog arg0 arg1 K w) : Runs Try.prog 15 [arg0, arg1] K w :=
  runs_of_E wide (fn := Try.f15) (c := Try.f15.body.getD .skip) 17 A15 [arg0, arg1] w K Try.func15 (by kernel_rfl) (by kernel_rfl) (by kernel_rfl) (by kernel_rfl)
    (Eq.mp (by kernel_rfl : s15 Try.prog arg0 arg1 K w = E Try.prog (Try.f15.body.getD .skip) A15 (topK Try.prog K Try.f15.results) (fun i => (([arg0, arg1] : List Value)[i]?).getD undef) w) h)
theorem ct15 {arg0 arg1 : Value} {h : Hp} {post : Hp → Value → Prop} (hg : ∀ w0, Gs w0 h h [] (s15 Try.prog arg0 arg1 (RetP w0 h post))) : Ct Try.prog 15 [arg0, arg1] h post := Ct.of (sf := s15 Try.prog arg0 arg1) (c15 arg0 arg1) hg
theorem in15 {arg0 arg1 : Value} {S : WP} {K : Value → WP} (hg : G S (s15 Try.prog arg0 arg1 K)) : G S (Do Try.prog (vCall (.func (.func 15) #[] ⟨[]⟩) [arg0, arg1]) K) := Gs.into (args := [arg0, arg1]) (caps := []) (sf := s15 Try.prog arg0 arg1) (c15 arg0 arg1) hg

/- skewer/skewerlaw21.prove : names 0 x, 1 s, 2 side, 3 x, 4 s, 5 side, 7 c, 8 e -/
def s16 (P : Program) (arg0 arg1 arg2 : Value) (K : Value → WP) : WP :=
  Do P (V (Instr.box 27 arg0)) fun x1 =>
  Do P (V (Instr.box 30 arg1)) fun s2 =>
  Do P (V (Instr.alloc 37 true (.tuple #[]))) fun t3_6 =>
  Do P (V (Instr.loadAt 27 x1)) fun t4_10 =>
  Do P (V (Instr.loadAt 30 s2)) fun t5_11 =>
  Do P (vCall (.func (.func 38) #[] ⟨[]⟩) [t4_10, t5_11, arg2]) fun t6_13 =>
  Do P (V (Instr.extract t6_13 0)) fun t7_14 =>
  Do P (V (Instr.extract t6_13 1)) fun t8_15 =>
  Do P (V (Instr.alloc 41 true (.tuple #[]))) fun c9 =>
  Do P (U (Instr.storeAt 41 c9 t7_14)) fun t10_x =>
  Do P (V (Instr.fieldAt 41 c9 0)) fun t11_16 =>
  Do P (V (Instr.loadAt 23 t11_16)) fun t12_17 =>
  Do P (vBuild 37 [(0, t12_17), (1, t8_15)]) fun t13_19 =>
  Do P (U (Instr.storeAt 37 t3_6 t13_19)) fun t14_x =>
  RetC P 37 t3_6 K
def A16 : Ann := .s (.n) (.s (.n) (.s (.n) (.n)))
set_option maxRecDepth 100000 in
theorem c16 (arg0 arg1 arg2 : Value) (K : Value → WP) (w : World) (h : s16 Try.prog arg0 arg1 arg2 K w) : Runs Try.prog 16 [arg0, arg1, arg2] K w :=
  runs_of_E wide (fn := Try.f16) (c := Try.f16.body.getD .skip) 20 A16 [arg0, arg1, arg2] w K Try.func16 (by kernel_rfl) (by kernel_rfl) (by kernel_rfl) (by kernel_rfl)
    (Eq.mp (by kernel_rfl : s16 Try.prog arg0 arg1 arg2 K w = E Try.prog (Try.f16.body.getD .skip) A16 (topK Try.prog K Try.f16.results) (fun i => (([arg0, arg1, arg2] : List Value)[i]?).getD undef) w) h)
theorem ct16 {arg0 arg1 arg2 : Value} {h : Hp} {post : Hp → Value → Prop} (hg : ∀ w0, Gs w0 h h [] (s16 Try.prog arg0 arg1 arg2 (RetP w0 h post))) : Ct Try.prog 16 [arg0, arg1, arg2] h post := Ct.of (sf := s16 Try.prog arg0 arg1 arg2) (c16 arg0 arg1 arg2) hg
theorem in16 {arg0 arg1 arg2 : Value} {S : WP} {K : Value → WP} (hg : G S (s16 Try.prog arg0 arg1 arg2 K)) : G S (Do Try.prog (vCall (.func (.func 16) #[] ⟨[]⟩) [arg0, arg1, arg2]) K) := Gs.into (args := [arg0, arg1, arg2]) (caps := []) (sf := s16 Try.prog arg0 arg1 arg2) (c16 arg0 arg1 arg2) hg

/- skewer/skewerref21.Prove : names 0 x, 1 s, 2 side, 3 x, 4 s, 5 side, 7 free, 8 known, 9 l, 10 i, 11 moves, 12 k, 13 out, 14 i -/
def s17 (P : Program) (arg0 arg1 arg2 : Value) (K : Value → WP) : WP :=
  Do P (V (Instr.box 27 arg0)) fun x1 =>
  Do P (V (Instr.box 30 arg1)) fun s2 =>
  Do P (V (Instr.alloc 37 true (.tuple #[]))) fun t3_6 =>
  Do P (V (Instr.loadAt 27 x1)) fun t4_15 =>
  Do P (vCall (.func (.func 22) #[] ⟨[]⟩) [t4_15]) fun t5_16 =>
  Do P (V (Op.unary .not t5_16)) fun t6_17 =>
  If t6_17 (
   Do P (vBuild 37 [(1, (.int .i64 210))]) fun t7_18 =>
   Do P (U (Instr.storeAt 37 t3_6 t7_18)) fun t8_x =>
   RetC P 37 t3_6 K
  ) (
   Jn (α := Value) (fun j9 => Jk fun _ => -- t30
    If j9 (
     Do P (vBuild 37 [(1, (.int .i64 1))]) fun t10_31 =>
     Do P (U (Instr.storeAt 37 t3_6 t10_31)) fun t11_x =>
     RetC P 37 t3_6 K
    ) (
     Do P (V (Instr.fieldAt 30 s2 1)) fun t12_32 =>
     Do P (V (Instr.loadAt 3 t12_32)) fun t13_33 =>
     Do P (vCall (.func (.func 36) #[] ⟨[]⟩) [t13_33]) fun t14_34 =>
     Do P (V (Instr.loadAt 27 x1)) fun t15_35 =>
     Do P (vCall (.func (.func 35) #[] ⟨[]⟩) [t15_35, t14_34]) fun t16_37 =>
     Do P (V (Instr.loadAt 30 s2)) fun t17_38 =>
     Do P (vCall (.func (.func 39) #[] ⟨[]⟩) [t17_38, arg2, t16_37, t14_34]) fun t18_42 =>
     Do P (V (Op.unary .not t18_42)) fun t19_43 =>
     If t19_43 (
      Do P (vBuild 37 [(1, (.int .i64 211))]) fun t20_44 =>
      Do P (U (Instr.storeAt 37 t3_6 t20_44)) fun t21_x =>
      RetC P 37 t3_6 K
     ) (
      Do P (V (Instr.loadAt 30 s2)) fun t22_45 =>
      Do P (vBuildSlice 23 1 [(0, t22_45)]) fun t23_46 =>
      Lp (α := Value × Value) (fun c24 s24 => Jk fun _ => -- l i
       Do P (vBuiltin .len #[23] 3 [s24.1]) fun t25_49 =>
       Do P (V (binOp .lss 3 s24.2 t25_49)) fun t26_50 =>
       If t26_50 (
        Dr <|
        Qk P (V (Instr.loadAt 27 x1)) fun C27 t27_53 =>
        Qk P (V (Instr.indexAt 23 s24.1 s24.2)) fun C28 t28_56 =>
        Qk P (V (Instr.loadAt 30 t28_56)) fun C29 t29_57 =>
        Do P (vCall (.func (.func 25) #[] ⟨[]⟩) [t27_53, t29_57]) fun t30_58 =>
        Lp (α := Value × Value) (fun c31 s31 => Jk fun _ => -- l k
         Do P (vBuiltin .len #[23] 3 [t30_58]) fun t32_61 =>
         Do P (V (binOp .lss 3 s31.2 t32_61)) fun t33_62 =>
         If t33_62 (
          Jn (α := Value) (fun j34 => Jk fun _ => -- l
           Do P (V (binOp .add 3 s31.2 (.int .i64 1))) fun t35_64 =>
           c31 (j34, t35_64)
          ) fun k34 =>
          Jn (α := Value) (fun j36 => Jk fun _ => -- t90
           If j36 (
            Do P (V (Instr.indexAt 23 t30_58 s31.2)) fun t37_94 =>
            Do P (V (Instr.loadAt 30 t37_94)) fun t38_95 =>
            Do P (vBuildSlice 23 1 [(0, t38_95)]) fun t39_96 =>
            Do P (vBuiltin .append #[23, 23] 23 [s31.1, t39_96]) fun t40_97 =>
            k34 t40_97
           ) (
            k34 s31.1
           )
          ) fun k36 =>
          Do P (V (Instr.indexAt 23 t30_58 s31.2)) fun t41_68 =>
          Do P (V (Instr.loadAt 30 t41_68)) fun t42_69 =>
          Do P (vCall (.func (.func 40) #[] ⟨[]⟩) [s31.1, t42_69]) fun t43_70 =>
          Do P (V (Op.unary .not t43_70)) fun t44_71 =>
          Gd t44_71 true (
           Do P (V (Instr.indexAt 23 s31.1 s24.2)) fun t45_75 =>
           Do P (V (Instr.fieldAt 30 t45_75 2)) fun t46_76 =>
           Do P (V (Instr.loadAt 3 t46_76)) fun t47_77 =>
           Do P (V (EqG .neq 3 (.tmp 77) (.tmp 78) t47_77 arg2)) fun t48_79 =>
           Gd t48_79 false (
            Do P (V (Instr.indexAt 23 t30_58 s31.2)) fun t49_83 =>
            Do P (V (Instr.loadAt 30 t49_83)) fun t50_84 =>
            Do P (vCall (.func (.func 39) #[] ⟨[]⟩) [t50_84, arg2, t16_37, t14_34]) fun t51_88 =>
            k36 t51_88
           ) (
            k36 (.bool true)
           )
          ) (
           k36 (.bool false)
          )
         ) (
          Do P (V (binOp .add 3 s24.2 (.int .i64 1))) fun t52_52 =>
          c24 (s31.1, t52_52)
         )
        ) (s24.1, (.int .i64 0))
       ) (
        Do P (vBuildSlice 23 0 []) fun t53_98 =>
        Lp (α := Value × Value) (fun c54 s54 => Jk fun _ => -- out i
         Do P (vBuiltin .len #[23] 3 [s24.1]) fun t55_101 =>
         Do P (V (binOp .lss 3 s54.2 t55_101)) fun t56_102 =>
         If t56_102 (
          Do P (V (Instr.indexAt 23 s24.1 s54.2)) fun t57_108 =>
          Do P (V (Instr.loadAt 30 t57_108)) fun t58_109 =>
          Do P (vCall (.func (.func 41) #[] ⟨[]⟩) [s54.1, t58_109]) fun t59_110 =>
          Do P (V (binOp .add 3 s54.2 (.int .i64 1))) fun t60_104 =>
          c54 (t59_110, t60_104)
         ) (
          Do P (vBuild 37 [(0, s54.1)]) fun t61_112 =>
          Do P (U (Instr.storeAt 37 t3_6 t61_112)) fun t62_x =>
          RetC P 37 t3_6 K
         )
        ) (t53_98, (.int .i64 0))
       )
      ) (t23_46, (.int .i64 0))
     )
    )
   ) fun k9 =>
   Do P (V (Instr.loadAt 27 x1)) fun t63_19 =>
   Do P (V (Instr.loadAt 30 s2)) fun t64_20 =>
   Do P (vCall (.func (.func 33) #[] ⟨[]⟩) [t63_19, t64_20]) fun t65_21 =>
   Do P (V (Op.unary .not t65_21)) fun t66_22 =>
   Gd t66_22 false (
    Do P (V (binOp .lss 3 arg2 (.int .i64 0))) fun t67_25 =>
    Gd t67_25 false (
     Do P (V (binOp .gtr 3 arg2 (.int .i64 1))) fun t68_29 =>
     k9 t68_29
    ) (
     k9 (.bool true)
    )
   ) (
    k9 (.bool true)
   )
  )
def A17 : Ann := .s (.n) (.s (.s (.n) (.s (.s (.n) (.n)) (.n))) (.s (.j [30] 2146959360 (.n) (.s (.s (.n) (.n)) (.n))) (.s (.n) (.s (.n) (.s (.s (.n) (.s (.s (.n) (.n)) (.n))) (.s (.n) (.s (.s (.n) (.lp [9, 10] 316912650057057209636687453696 (.s (.s (.n) (.s (.n) (.n))) (.s (.s (.plan [(0, 8, 9007199254740992), (0, 512, 18014398509481984), (0, 1024, 36028797018963968), (6, 54043195528445952, 72057594037927936), (8, 72057594037927936, 144115188075855872), (17, 153122387330596864, 288230376151711744), (63, 288230376151711744, 2048)] (.q 0 (.q 1 (.q 2 (.q 3 (.q 4 (.l 5 (.q 6 .done)))))))) (.s (.n) (.lp [9, 12] 316912650056480889621872382464 (.s (.s (.n) (.s (.n) (.n))) (.j [9] 316912650020163862226756698624 (.j [90] 2475880041677272402379145216 (.n) (.s (.n) (.n))) (.n)))))) (.n))))) (.s (.n) (.s (.s (.n) (.lp [13, 14] 2595514603967299699564499813031936 (.s (.s (.n) (.s (.n) (.n))) (.s (.n) (.n))))) (.s (.n) (.n)))))))))))
set_option maxRecDepth 100000 in
theorem c17 (arg0 arg1 arg2 : Value) (K : Value → WP) (w : World) (h : s17 Try.prog arg0 arg1 arg2 K w) : Runs Try.prog 17 [arg0, arg1, arg2] K w :=
  runs_of_E wide (fn := Try.f17) (c := Try.f17.body.getD .skip) 113 A17 [arg0, arg1, arg2] w K Try.func17 (by kernel_rfl) (by kernel_rfl) (by kernel_rfl) (by kernel_rfl)
    (Eq.mp (by kernel_rfl : s17 Try.prog arg0 arg1 arg2 K w = E Try.prog (Try.f17.body.getD .skip) A17 (topK Try.prog K Try.f17.results) (fun i => (([arg0, arg1, arg2] : List Value)[i]?).getD undef) w) h)
theorem ct17 {arg0 arg1 arg2 : Value} {h : Hp} {post : Hp → Value → Prop} (hg : ∀ w0, Gs w0 h h [] (s17 Try.prog arg0 arg1 arg2 (RetP w0 h post))) : Ct Try.prog 17 [arg0, arg1, arg2] h post := Ct.of (sf := s17 Try.prog arg0 arg1 arg2) (c17 arg0 arg1 arg2) hg
theorem in17 {arg0 arg1 arg2 : Value} {S : WP} {K : Value → WP} (hg : G S (s17 Try.prog arg0 arg1 arg2 K)) : G S (Do Try.prog (vCall (.func (.func 17) #[] ⟨[]⟩) [arg0, arg1, arg2]) K) := Gs.into (args := [arg0, arg1, arg2]) (caps := []) (sf := s17 Try.prog arg0 arg1 arg2) (c17 arg0 arg1 arg2) hg

/- skewer/loopy.Check : names 0 x, 1 s, 2 side, 3 c, 4 x, 5 s, 6 side, 7 c, 9 in, 10 _, 11 t, 12 t, 13 l, 14 isIn, 15 isOut -/
def s18 (P : Program) (arg0 arg1 arg2 arg3 : Value) (K : Value → WP) : WP :=
  Do P (V (Instr.box 27 arg0)) fun x1 =>
  Do P (V (Instr.box 30 arg1)) fun s2 =>
  Do P (V (Instr.box 41 arg3)) fun c3 =>
  Jn (α := Value) (fun j4 => Jk fun _ => -- t32
   If j4 (
    K (.bool false)
   ) (
    Do P (V (Instr.makeMap 82 none)) fun t5_33 =>
    Do P (V (Instr.alloc 82 true (.tuple #[]))) fun t6_9 =>
    Do P (U (Instr.storeAt 82 t6_9 t5_33)) fun t7_x =>
    Do P (V (Instr.fieldAt 41 c3 0)) fun t8_34 =>
    Do P (V (Instr.loadAt 23 t8_34)) fun t9_35 =>
    Do P (vBuiltin .len #[23] 3 [t9_35]) fun t10_36 =>
    Lp (α := Value) (fun c11 s11 => Jk fun _ => -- t37
     Do P (V (binOp .lss 3 s11 t10_36)) fun t12_38 =>
     If t12_38 (
      Do P (V (Instr.indexAt 23 t9_35 s11)) fun t13_39 =>
      Do P (V (Instr.loadAt 30 t13_39)) fun t14_40 =>
      Do P (V (Instr.alloc 30 true (.tuple #[]))) fun t15 =>
      Do P (U (Instr.storeAt 30 t15 t14_40)) fun t16_x =>
      Do P (V (Instr.loadAt 27 x1)) fun t17_41 =>
      Do P (V (Instr.loadAt 30 t15)) fun t18_42 =>
      Do P (vCall (.func (.func 42) #[] ⟨[]⟩) [t17_41, t18_42]) fun t19_43 =>
      Do P (V (Op.unary .not t19_43)) fun t20_44 =>
      If t20_44 (
       K (.bool false)
      ) (
       Do P (V (Instr.loadAt 82 t6_9)) fun t21_45 =>
       Do P (V (Instr.loadAt 30 t15)) fun t22_46 =>
       Do P (U (Instr.mapUpdate 82 t21_45 t22_46 (.bool true))) fun t23_x =>
       Do P (V (binOp .add 3 s11 (.int .i64 1))) fun t24_47 =>
       c11 t24_47
      )
     ) (
      Do P (V (Instr.loadAt 82 t6_9)) fun t25_48 =>
      Do P (V (Instr.range 82 t25_48)) fun t26_49 =>
      Lp (α := Unit) (fun c27 s27 => Jk fun _ => -- 
       Do P (V (Instr.next t26_49 false 0)) fun t28_50 =>
       Do P (V (Instr.extract t28_50 0)) fun t29_51 =>
       If t29_51 (
        Do P (V (Instr.entry t26_49)) fun t30_52 =>
        Do P (V (Instr.extract t30_52 0)) fun t31_53 =>
        Do P (V (Instr.alloc 30 true (.tuple #[]))) fun t32 =>
        Do P (U (Instr.storeAt 30 t32 t31_53)) fun t33_x =>
        Do P (V (Instr.loadAt 27 x1)) fun t34_54 =>
        Do P (V (Instr.loadAt 30 t32)) fun t35_55 =>
        Do P (vCall (.func (.func 43) #[] ⟨[]⟩) [t34_54, t35_55]) fun t36_56 =>
        Jn (α := Value) (fun j37 => Jk fun _ => -- t79
         If j37 (
          K (.bool false)
         ) (
          c27 ()
         )
        ) fun k37 =>
        Do P (V (Instr.fieldAt 30 t32 2)) fun t38_59 =>
        Do P (V (Instr.loadAt 3 t38_59)) fun t39_60 =>
        Do P (V (EqG .eql 3 (.tmp 60) (.tmp 61) t39_60 arg2)) fun t40_62 =>
        Gd t40_62 true (
         Do P (vCall (.func (.func 46) #[] ⟨[]⟩) [t36_56, (.func (.func 44) #[] ⟨[t6_9]⟩)]) fun t41_66 =>
         Do P (V (Op.unary .not t41_66)) fun t42_67 =>
         Gd t42_67 false (
          Do P (V (Instr.fieldAt 30 t32 2)) fun t43_70 =>
          Do P (V (Instr.loadAt 3 t43_70)) fun t44_71 =>
          Do P (V (EqG .neq 3 (.tmp 71) (.tmp 72) t44_71 arg2)) fun t45_73 =>
          Gd t45_73 true (
           Do P (vCall (.func (.func 46) #[] ⟨[]⟩) [t36_56, (.func (.func 45) #[] ⟨[t6_9]⟩)]) fun t46_77 =>
           k37 t46_77
          ) (
           k37 (.bool false)
          )
         ) (
          k37 (.bool true)
         )
        ) (
         Do P (V (Instr.fieldAt 30 t32 2)) fun t47_70 =>
         Do P (V (Instr.loadAt 3 t47_70)) fun t48_71 =>
         Do P (V (EqG .neq 3 (.tmp 71) (.tmp 72) t48_71 arg2)) fun t49_73 =>
         Gd t49_73 true (
          Do P (vCall (.func (.func 46) #[] ⟨[]⟩) [t36_56, (.func (.func 45) #[] ⟨[t6_9]⟩)]) fun t50_77 =>
          k37 t50_77
         ) (
          k37 (.bool false)
         )
        )
       ) (
        Do P (V (Instr.loadAt 82 t6_9)) fun t51_80 =>
        Do P (V (Instr.loadAt 30 s2)) fun t52_81 =>
        Do P (V (Instr.lookup 82 t51_80 t52_81 false)) fun t53_82 =>
        K t53_82
       )
      ) ()
     )
    ) (.int .i64 0)
   )
  ) fun k4 =>
  Do P (V (Instr.loadAt 27 x1)) fun t54_16 =>
  Do P (vCall (.func (.func 23) #[] ⟨[]⟩) [t54_16]) fun t55_17 =>
  Do P (V (Op.unary .not t55_17)) fun t56_18 =>
  Gd t56_18 false (
   Do P (V (Instr.loadAt 27 x1)) fun t57_20 =>
   Do P (V (Instr.loadAt 30 s2)) fun t58_21 =>
   Do P (vCall (.func (.func 42) #[] ⟨[]⟩) [t57_20, t58_21]) fun t59_22 =>
   Do P (V (Op.unary .not t59_22)) fun t60_23 =>
   Gd t60_23 false (
    Do P (V (binOp .lss 3 arg2 (.int .i64 0))) fun t61_27 =>
    Gd t61_27 false (
     Do P (V (binOp .gtr 3 arg2 (.int .i64 1))) fun t62_31 =>
     k4 t62_31
    ) (
     k4 (.bool true)
    )
   ) (
    k4 (.bool true)
   )
  ) (
   k4 (.bool true)
  )
def A18 : Ann := .s (.n) (.s (.j [32] 8589869056 (.n) (.s (.s (.n) (.n)) (.n))) (.s (.n) (.s (.s (.n) (.lp [37] 281337537759488 (.s (.n) (.s (.s (.n) (.n)) (.s (.s (.n) (.s (.s (.n) (.s (.s (.n) (.n)) (.n))) (.n))) (.n)))))) (.s (.s (.n) (.lp [] 1208925818488729267925248 (.s (.n) (.s (.s (.n) (.n)) (.s (.n) (.s (.n) (.s (.n) (.s (.n) (.j [79] 1208925243153876871282688 (.n) (.s (.s (.n) (.n)) (.n))))))))))) (.s (.n) (.n))))))
set_option maxRecDepth 100000 in
theorem c18 (arg0 arg1 arg2 arg3 : Value) (K : Value → WP) (w : World) (h : s18 Try.prog arg0 arg1 arg2 arg3 K w) : Runs Try.prog 18 [arg0, arg1, arg2, arg3] K w :=
  runs_of_E wide (fn := Try.f18) (c := Try.f18.body.getD .skip) 83 A18 [arg0, arg1, arg2, arg3] w K Try.func18 (by kernel_rfl) (by kernel_rfl) (by kernel_rfl) (by kernel_rfl)
    (Eq.mp (by kernel_rfl : s18 Try.prog arg0 arg1 arg2 arg3 K w = E Try.prog (Try.f18.body.getD .skip) A18 (topK Try.prog K Try.f18.results) (fun i => (([arg0, arg1, arg2, arg3] : List Value)[i]?).getD undef) w) h)
theorem ct18 {arg0 arg1 arg2 arg3 : Value} {h : Hp} {post : Hp → Value → Prop} (hg : ∀ w0, Gs w0 h h [] (s18 Try.prog arg0 arg1 arg2 arg3 (RetP w0 h post))) : Ct Try.prog 18 [arg0, arg1, arg2, arg3] h post := Ct.of (sf := s18 Try.prog arg0 arg1 arg2 arg3) (c18 arg0 arg1 arg2 arg3) hg
theorem in18 {arg0 arg1 arg2 arg3 : Value} {S : WP} {K : Value → WP} (hg : G S (s18 Try.prog arg0 arg1 arg2 arg3 K)) : G S (Do Try.prog (vCall (.func (.func 18) #[] ⟨[]⟩) [arg0, arg1, arg2, arg3]) K) := Gs.into (args := [arg0, arg1, arg2, arg3]) (caps := []) (sf := s18 Try.prog arg0 arg1 arg2 arg3) (c18 arg0 arg1 arg2 arg3) hg

/- skewer/skewerref21.Check : names 0 x, 1 s, 2 side, 3 l, 4 x, 5 s, 6 side, 7 l, 9 i, 10 moves, 11 in, 12 k -/
def s19 (P : Program) (arg0 arg1 arg2 arg3 : Value) (K : Value → WP) : WP :=
  Do P (V (Instr.box 27 arg0)) fun x1 =>
  Do P (V (Instr.box 30 arg1)) fun s2 =>
  Jn (α := Value) (fun j3 => Jk fun _ => -- t35
   If j3 (
    K (.bool false)
   ) (
    Lp (α := Value) (fun c4 s4 => Jk fun _ => -- i
     Do P (vBuiltin .len #[23] 3 [arg3]) fun t5_38 =>
     Do P (V (binOp .lss 3 s4 t5_38)) fun t6_39 =>
     If t6_39 (
      Dr <|
      Qk P (V (Instr.loadAt 27 x1)) fun C7 t7_42 =>
      Qk P (V (Instr.indexAt 23 arg3 s4)) fun C8 t8_45 =>
      Qk P (V (Instr.loadAt 30 t8_45)) fun C9 t9_46 =>
      Do P (vCall (.func (.func 33) #[] ⟨[]⟩) [t7_42, t9_46]) fun t10_47 =>
      Qk P (V (Op.unary .not t10_47)) fun C11 t11_48 =>
      If t11_48 (
       K (.bool false)
      ) (
       Dr <|
       Qk P (V (Instr.loadAt 27 x1)) fun C12 t12_49 =>
       Qk P (V (Instr.indexAt 23 arg3 s4)) fun C13 t13_52 =>
       Qk P (V (Instr.loadAt 30 t13_52)) fun C14 t14_53 =>
       Do P (vCall (.func (.func 25) #[] ⟨[]⟩) [t12_49, t14_53]) fun t15_54 =>
       Lp (α := Value × Value) (fun c16 s16 => Jk fun _ => -- in k
        Do P (vBuiltin .len #[23] 3 [t15_54]) fun t17_57 =>
        Do P (V (binOp .lss 3 s16.2 t17_57)) fun t18_58 =>
        If t18_58 (
         Jn (α := Value) (fun j19 => Jk fun _ => -- in
          Do P (V (binOp .add 3 s16.2 (.int .i64 1))) fun t20_60 =>
          c16 (j19, t20_60)
         ) fun k19 =>
         Do P (V (Instr.indexAt 23 t15_54 s16.2)) fun t21_64 =>
         Do P (V (Instr.loadAt 30 t21_64)) fun t22_65 =>
         Do P (vCall (.func (.func 40) #[] ⟨[]⟩) [arg3, t22_65]) fun t23_66 =>
         If t23_66 (
          Do P (V (binOp .add 3 s16.1 (.int .i64 1))) fun t24_68 =>
          k19 t24_68
         ) (
          k19 s16.1
         )
        ) (
         Jn (α := Value) (fun j25 => Jk fun _ => -- t94
          If j25 (
           K (.bool false)
          ) (
           Do P (V (binOp .add 3 s4 (.int .i64 1))) fun t26_41 =>
           c4 t26_41
          )
         ) fun k25 =>
         Do P (V (Instr.indexAt 23 arg3 s4)) fun t27_71 =>
         Do P (V (Instr.fieldAt 30 t27_71 2)) fun t28_72 =>
         Do P (V (Instr.loadAt 3 t28_72)) fun t29_73 =>
         Do P (V (EqG .eql 3 (.tmp 73) (.tmp 74) t29_73 arg2)) fun t30_75 =>
         Gd t30_75 true (
          Do P (V (EqG .eql 3 (.tmp 77) (.const (.int .i64 0)) s16.1 (.int .i64 0))) fun t31_78 =>
          Gd t31_78 false (
           Do P (V (Instr.indexAt 23 arg3 s4)) fun t32_83 =>
           Do P (V (Instr.fieldAt 30 t32_83 2)) fun t33_84 =>
           Do P (V (Instr.loadAt 3 t33_84)) fun t34_85 =>
           Do P (V (EqG .neq 3 (.tmp 85) (.tmp 86) t34_85 arg2)) fun t35_87 =>
           Gd t35_87 true (
            Do P (vBuiltin .len #[23] 3 [t15_54]) fun t36_91 =>
            Do P (V (binOp .lss 3 s16.1 t36_91)) fun t37_92 =>
            k25 t37_92
           ) (
            k25 (.bool false)
           )
          ) (
           k25 (.bool true)
          )
         ) (
          Do P (V (Instr.indexAt 23 arg3 s4)) fun t38_83 =>
          Do P (V (Instr.fieldAt 30 t38_83 2)) fun t39_84 =>
          Do P (V (Instr.loadAt 3 t39_84)) fun t40_85 =>
          Do P (V (EqG .neq 3 (.tmp 85) (.tmp 86) t40_85 arg2)) fun t41_87 =>
          Gd t41_87 true (
           Do P (vBuiltin .len #[23] 3 [t15_54]) fun t42_91 =>
           Do P (V (binOp .lss 3 s16.1 t42_91)) fun t43_92 =>
           k25 t43_92
          ) (
           k25 (.bool false)
          )
         )
        )
       ) ((.int .i64 0), (.int .i64 0))
      )
     ) (
      K (.bool true)
     )
    ) (.int .i64 0)
   )
  ) fun k3 =>
  Do P (V (Instr.loadAt 27 x1)) fun t44_13 =>
  Do P (vCall (.func (.func 22) #[] ⟨[]⟩) [t44_13]) fun t45_14 =>
  Do P (V (Op.unary .not t45_14)) fun t46_15 =>
  Gd t46_15 false (
   Do P (V (Instr.loadAt 27 x1)) fun t47_17 =>
   Do P (V (Instr.loadAt 30 s2)) fun t48_18 =>
   Do P (vCall (.func (.func 33) #[] ⟨[]⟩) [t47_17, t48_18]) fun t49_19 =>
   Do P (V (Op.unary .not t49_19)) fun t50_20 =>
   Gd t50_20 false (
    Do P (V (binOp .lss 3 arg2 (.int .i64 0))) fun t51_24 =>
    Gd t51_24 false (
     Do P (V (binOp .gtr 3 arg2 (.int .i64 1))) fun t52_28 =>
     Gd t52_28 false (
      Do P (V (Instr.loadAt 30 s2)) fun t53_32 =>
      Do P (vCall (.func (.func 40) #[] ⟨[]⟩) [arg3, t53_32]) fun t54_33 =>
      Do P (V (Op.unary .not t54_33)) fun t55_34 =>
      k3 t55_34
     ) (
      k3 (.bool true)
     )
    ) (
     k3 (.bool true)
    )
   ) (
    k3 (.bool true)
   )
  ) (
   k3 (.bool true)
  )
def A19 : Ann := .s (.n) (.s (.j [35] 68719468544 (.n) (.s (.s (.n) (.n)) (.n))) (.s (.s (.n) (.lp [9] 39614081257132168728052506368 (.s (.s (.n) (.s (.n) (.n))) (.s (.s (.s (.plan [(0, 16, 4398046511104), (0, 8, 8796093022208), (0, 512, 17592186044416), (6, 26388279066624, 35184372088832), (8, 35184372088832, 70368744177664), (17, 74766790688768, 140737488355328), (32, 140737488355328, 281474976710656)] (.q 0 (.q 1 (.q 2 (.q 3 (.q 4 (.l 5 (.q 6 .done)))))))) (.s (.s (.n) (.n)) (.n))) (.s (.plan [(0, 16, 562949953421312), (0, 8, 1125899906842624), (0, 512, 2251799813685248), (6, 3377699720527872, 4503599627370496), (8, 4503599627370496, 9007199254740992), (17, 9570149208162304, 18014398509481984), (63, 18014398509481984, 1024), (127, 0, 2048)] (.q 0 (.q 1 (.q 2 (.q 3 (.q 4 (.l 5 (.q 6 (.q 7 .done))))))))) (.s (.s (.n) (.lp [11, 12] 590259781561686693888 (.s (.s (.n) (.s (.n) (.n))) (.j [11] 587989967349491959808 (.s (.n) (.s (.n) (.n))) (.n))))) (.j [94] 39614080666836358438066323456 (.n) (.s (.s (.n) (.n)) (.n)))))) (.n))))) (.s (.n) (.n))))
set_option maxRecDepth 100000 in
theorem c19 (arg0 arg1 arg2 arg3 : Value) (K : Value → WP) (w : World) (h : s19 Try.prog arg0 arg1 arg2 arg3 K w) : Runs Try.prog 19 [arg0, arg1, arg2, arg3] K w :=
  runs_of_E wide (fn := Try.f19) (c := Try.f19.body.getD .skip) 95 A19 [arg0, arg1, arg2, arg3] w K Try.func19 (by kernel_rfl) (by kernel_rfl) (by kernel_rfl) (by kernel_rfl)
    (Eq.mp (by kernel_rfl : s19 Try.prog arg0 arg1 arg2 arg3 K w = E Try.prog (Try.f19.body.getD .skip) A19 (topK Try.prog K Try.f19.results) (fun i => (([arg0, arg1, arg2, arg3] : List Value)[i]?).getD undef) w) h)
theorem ct19 {arg0 arg1 arg2 arg3 : Value} {h : Hp} {post : Hp → Value → Prop} (hg : ∀ w0, Gs w0 h h [] (s19 Try.prog arg0 arg1 arg2 arg3 (RetP w0 h post))) : Ct Try.prog 19 [arg0, arg1, arg2, arg3] h post := Ct.of (sf := s19 Try.prog arg0 arg1 arg2 arg3) (c19 arg0 arg1 arg2 arg3) hg
theorem in19 {arg0 arg1 arg2 arg3 : Value} {S : WP} {K : Value → WP} (hg : G S (s19 Try.prog arg0 arg1 arg2 arg3 K)) : G S (Do Try.prog (vCall (.func (.func 19) #[] ⟨[]⟩) [arg0, arg1, arg2, arg3]) K) := Gs.into (args := [arg0, arg1, arg2, arg3]) (caps := []) (sf := s19 Try.prog arg0 arg1 arg2 arg3) (c19 arg0 arg1 arg2 arg3) hg

/- skewer/skewerlaw21.bounds : names 0 x, 1 node, 2 x, 3 node, 5 b, 6 e -/
def s20 (P : Program) (arg0 arg1 : Value) (K : Value → WP) : WP :=
  Do P (V (Instr.box 27 arg0)) fun x1 =>
  Do P (V (Instr.alloc 46 true (.tuple #[]))) fun t2_4 =>
  Do P (V (Instr.loadAt 27 x1)) fun t3_8 =>
  Do P (vCall (.func (.func 47) #[] ⟨[]⟩) [t3_8, arg1]) fun t4_10 =>
  Do P (V (Instr.extract t4_10 0)) fun t5_11 =>
  Do P (V (Instr.extract t4_10 1)) fun t6_12 =>
  Do P (V (Instr.alloc 44 true (.tuple #[]))) fun b7 =>
  Do P (U (Instr.storeAt 44 b7 t5_11)) fun t8_x =>
  Do P (V (Instr.loadAt 44 b7)) fun t9_13 =>
  Do P (vBuild 46 [(0, t9_13), (1, t6_12)]) fun t10_15 =>
  Do P (U (Instr.storeAt 46 t2_4 t10_15)) fun t11_x =>
  RetC P 46 t2_4 K
def A20 : Ann := .s (.n) (.s (.n) (.s (.n) (.n)))
set_option maxRecDepth 100000 in
theorem c20 (arg0 arg1 : Value) (K : Value → WP) (w : World) (h : s20 Try.prog arg0 arg1 K w) : Runs Try.prog 20 [arg0, arg1] K w :=
  runs_of_E wide (fn := Try.f20) (c := Try.f20.body.getD .skip) 16 A20 [arg0, arg1] w K Try.func20 (by kernel_rfl) (by kernel_rfl) (by kernel_rfl) (by kernel_rfl)
    (Eq.mp (by kernel_rfl : s20 Try.prog arg0 arg1 K w = E Try.prog (Try.f20.body.getD .skip) A20 (topK Try.prog K Try.f20.results) (fun i => (([arg0, arg1] : List Value)[i]?).getD undef) w) h)
theorem ct20 {arg0 arg1 : Value} {h : Hp} {post : Hp → Value → Prop} (hg : ∀ w0, Gs w0 h h [] (s20 Try.prog arg0 arg1 (RetP w0 h post))) : Ct Try.prog 20 [arg0, arg1] h post := Ct.of (sf := s20 Try.prog arg0 arg1) (c20 arg0 arg1) hg
theorem in20 {arg0 arg1 : Value} {S : WP} {K : Value → WP} (hg : G S (s20 Try.prog arg0 arg1 K)) : G S (Do Try.prog (vCall (.func (.func 20) #[] ⟨[]⟩) [arg0, arg1]) K) := Gs.into (args := [arg0, arg1]) (caps := []) (sf := s20 Try.prog arg0 arg1) (c20 arg0 arg1) hg

/- skewer/skewerref21.Bounds : names 0 x, 1 node, 2 x, 3 node, 5 known, 6 out, 7 n -/
def s21 (P : Program) (arg0 arg1 : Value) (K : Value → WP) : WP :=
  Do P (V (Instr.box 27 arg0)) fun x1 =>
  Do P (V (Instr.alloc 46 true (.tuple #[]))) fun t2_4 =>
  Do P (V (Instr.loadAt 27 x1)) fun t3_8 =>
  Do P (vCall (.func (.func 22) #[] ⟨[]⟩) [t3_8]) fun t4_9 =>
  Do P (V (Op.unary .not t4_9)) fun t5_10 =>
  If t5_10 (
   Do P (vBuild 46 [(1, (.int .i64 210))]) fun t6_11 =>
   Do P (U (Instr.storeAt 46 t2_4 t6_11)) fun t7_x =>
   RetC P 46 t2_4 K
  ) (
   Jn (α := Value) (fun j8 => Jk fun _ => -- t20
    If j8 (
     Do P (vBuild 46 [(1, (.int .i64 1))]) fun t9_21 =>
     Do P (U (Instr.storeAt 46 t2_4 t9_21)) fun t10_x =>
     RetC P 46 t2_4 K
    ) (
     Do P (V (Instr.loadAt 27 x1)) fun t11_22 =>
     Do P (vCall (.func (.func 35) #[] ⟨[]⟩) [t11_22, (.int .i64 8)]) fun t12_23 =>
     Do P (vBuild 44 [(0, (.int .i64 (-9))), (1, (.int .i64 9))]) fun t13_24 =>
     Do P (V (Instr.alloc 44 true (.tuple #[]))) fun out14 =>
     Do P (U (Instr.storeAt 44 out14 t13_24)) fun t15_x =>
     Lp (α := Value) (fun c16 s16 => Jk fun _ => -- n
      Do P (V (binOp .leq 3 s16 (.int .i64 8))) fun t17_26 =>
      If t17_26 (
       Jn (α := Unit) (fun j18 => Jk fun _ => -- 
        Do P (V (binOp .add 3 s16 (.int .i64 1))) fun t19_28 =>
        c16 t19_28
       ) fun k18 =>
       Jn (α := Unit) (fun j20 => Jk fun _ => -- 
        Jn (α := Value) (fun j21 => Jk fun _ => -- t49
         If j21 (
          Do P (V (Instr.fieldAt 44 out14 1)) fun t22_51 =>
          Do P (U (Instr.storeAt 3 t22_51 s16)) fun t23_x =>
          k18 ()
         ) (
          k18 ()
         )
        ) fun k21 =>
        Do P (V (Instr.fieldAt 44 out14 1)) fun t24_38 =>
        Do P (V (Instr.loadAt 3 t24_38)) fun t25_39 =>
        Do P (V (binOp .gtr 3 t25_39 (.int .i64 8))) fun t26_40 =>
        Gd t26_40 true (
         Do P (V (Op.unary .neg s16)) fun t27_44 =>
         Do P (vBuild 30 [(0, arg1), (1, t27_44)]) fun t28_45 =>
         Do P (vCall (.func (.func 34) #[] ⟨[]⟩) [t28_45, t12_23, (.int .i64 8)]) fun t29_47 =>
         Do P (V (EqG .neq 3 (.tmp 47) (.const (.int .i64 1)) t29_47 (.int .i64 1))) fun t30_48 =>
         k21 t30_48
        ) (
         k21 (.bool false)
        )
       ) fun k20 =>
       Do P (V (Op.unary .neg s16)) fun t31_31 =>
       Do P (vBuild 30 [(0, arg1), (1, t31_31), (2, (.int .i64 1))]) fun t32_32 =>
       Do P (vCall (.func (.func 34) #[] ⟨[]⟩) [t32_32, t12_23, (.int .i64 8)]) fun t33_34 =>
       Do P (V (EqG .neq 3 (.tmp 34) (.const (.int .i64 3)) t33_34 (.int .i64 3))) fun t34_35 =>
       If t34_35 (
        Do P (V (Instr.fieldAt 44 out14 0)) fun t35_37 =>
        Do P (U (Instr.storeAt 3 t35_37 s16)) fun t36_x =>
        k20 ()
       ) (
        k20 ()
       )
      ) (
       Do P (V (Instr.loadAt 44 out14)) fun t37_52 =>
       Do P (vBuild 46 [(0, t37_52)]) fun t38_53 =>
       Do P (U (Instr.storeAt 46 t2_4 t38_53)) fun t39_x =>
       RetC P 46 t2_4 K
      )
     ) (.int .i64 (-8))
    )
   ) fun k8 =>
   Do P (V (binOp .lss 3 arg1 (.int .i64 0))) fun t40_13 =>
   Gd t40_13 false (
    Do P (V (Instr.fieldAt 27 x1 0)) fun t41_16 =>
    Do P (V (Instr.loadAt 25 t41_16)) fun t42_17 =>
    Do P (vBuiltin .len #[25] 3 [t42_17]) fun t43_18 =>
    Do P (V (binOp .geq 3 arg1 t43_18)) fun t44_19 =>
    k8 t44_19
   ) (
    k8 (.bool true)
   )
  )
def A21 : Ann := .s (.n) (.s (.s (.n) (.s (.s (.n) (.n)) (.n))) (.s (.j [20] 2093056 (.n) (.s (.s (.n) (.n)) (.n))) (.s (.n) (.s (.s (.n) (.lp [7] 4503599593816192 (.s (.s (.n) (.s (.n) (.n))) (.j [] 4503599090499584 (.j [] 274341036032 (.s (.n) (.s (.n) (.n))) (.j [49] 1125625028935680 (.n) (.s (.n) (.n)))) (.n))))) (.s (.n) (.n))))))
set_option maxRecDepth 100000 in
theorem c21 (arg0 arg1 : Value) (K : Value → WP) (w : World) (h : s21 Try.prog arg0 arg1 K w) : Runs Try.prog 21 [arg0, arg1] K w :=
  runs_of_E wide (fn := Try.f21) (c := Try.f21.body.getD .skip) 54 A21 [arg0, arg1] w K Try.func21 (by kernel_rfl) (by kernel_rfl) (by kernel_rfl) (by kernel_rfl)
    (Eq.mp (by kernel_rfl : s21 Try.prog arg0 arg1 K w = E Try.prog (Try.f21.body.getD .skip) A21 (topK Try.prog K Try.f21.results) (fun i => (([arg0, arg1] : List Value)[i]?).getD undef) w) h)
theorem ct21 {arg0 arg1 : Value} {h : Hp} {post : Hp → Value → Prop} (hg : ∀ w0, Gs w0 h h [] (s21 Try.prog arg0 arg1 (RetP w0 h post))) : Ct Try.prog 21 [arg0, arg1] h post := Ct.of (sf := s21 Try.prog arg0 arg1) (c21 arg0 arg1) hg
theorem in21 {arg0 arg1 : Value} {S : WP} {K : Value → WP} (hg : G S (s21 Try.prog arg0 arg1 K)) : G S (Do Try.prog (vCall (.func (.func 21) #[] ⟨[]⟩) [arg0, arg1]) K) := Gs.into (args := [arg0, arg1]) (caps := []) (sf := s21 Try.prog arg0 arg1) (c21 arg0 arg1) hg

/- skewer/skewerref21.Valid : names 0 x, 1 x, 3 n -/
def s22 (P : Program) (arg0 : Value) (K : Value → WP) : WP :=
  Do P (V (Instr.box 27 arg0)) fun x1 =>
  Do P (V (Instr.fieldAt 27 x1 0)) fun t2_4 =>
  Do P (V (Instr.loadAt 25 t2_4)) fun t3_5 =>
  Do P (vBuiltin .len #[25] 3 [t3_5]) fun t4_6 =>
  Do P (V (binOp .geq 3 t4_6 (.int .i64 1))) fun t5_8 =>
  Gd t5_8 true (
   Do P (V (binOp .leq 3 t4_6 (.int .i64 32))) fun t6_11 =>
   Gd t6_11 true (
    Do P (V (Instr.fieldAt 27 x1 0)) fun t7_14 =>
    Do P (V (Instr.loadAt 25 t7_14)) fun t8_15 =>
    Do P (vCall (.func (.func 48) #[] ⟨[]⟩) [t8_15, t4_6]) fun t9_17 =>
    Gd t9_17 true (
     Do P (V (Instr.fieldAt 27 x1 1)) fun t10_20 =>
     Do P (V (Instr.loadAt 25 t10_20)) fun t11_21 =>
     Do P (vCall (.func (.func 48) #[] ⟨[]⟩) [t11_21, t4_6]) fun t12_23 =>
     K t12_23
    ) (
     K (.bool false)
    )
   ) (
    K (.bool false)
   )
  ) (
   K (.bool false)
  )
def A22 : Ann := .s (.n) (.s (.n) (.s (.n) (.n)))
set_option maxRecDepth 100000 in
theorem c22 (arg0 : Value) (K : Value → WP) (w : World) (h : s22 Try.prog arg0 K w) : Runs Try.prog 22 [arg0] K w :=
  runs_of_E wide (fn := Try.f22) (c := Try.f22.body.getD .skip) 25 A22 [arg0] w K Try.func22 (by kernel_rfl) (by kernel_rfl) (by kernel_rfl) (by kernel_rfl)
    (Eq.mp (by kernel_rfl : s22 Try.prog arg0 K w = E Try.prog (Try.f22.body.getD .skip) A22 (topK Try.prog K Try.f22.results) (fun i => (([arg0] : List Value)[i]?).getD undef) w) h)
theorem ct22 {arg0 : Value} {h : Hp} {post : Hp → Value → Prop} (hg : ∀ w0, Gs w0 h h [] (s22 Try.prog arg0 (RetP w0 h post))) : Ct Try.prog 22 [arg0] h post := Ct.of (sf := s22 Try.prog arg0) (c22 arg0) hg
theorem in22 {arg0 : Value} {S : WP} {K : Value → WP} (hg : G S (s22 Try.prog arg0 K)) : G S (Do Try.prog (vCall (.func (.func 22) #[] ⟨[]⟩) [arg0]) K) := Gs.into (args := [arg0]) (caps := []) (sf := s22 Try.prog arg0) (c22 arg0) hg

/- skewer/loopy.Valid : names 0 x, 1 x, 3 n, 4 wrong -/
def s23 (P : Program) (arg0 : Value) (K : Value → WP) : WP :=
  Do P (V (Instr.box 27 arg0)) fun x1 =>
  Do P (V (Instr.fieldAt 27 x1 0)) fun t2_5 =>
  Do P (V (Instr.loadAt 25 t2_5)) fun t3_6 =>
  Do P (vBuiltin .len #[25] 3 [t3_6]) fun t4_7 =>
  Do P (V (Instr.alloc 3 true (.tuple #[]))) fun n5 =>
  Do P (U (Instr.storeAt 3 n5 t4_7)) fun t6_x =>
  Do P (V (Instr.loadAt 3 n5)) fun t7_9 =>
  Do P (V (binOp .geq 3 t7_9 (.int .i64 1))) fun t8_10 =>
  Gd t8_10 true (
   Do P (V (Instr.loadAt 3 n5)) fun t9_12 =>
   Do P (V (binOp .leq 3 t9_12 (.int .i64 32))) fun t10_13 =>
   Gd t10_13 true (
    Do P (V (Instr.fieldAt 27 x1 1)) fun t11_16 =>
    Do P (V (Instr.loadAt 25 t11_16)) fun t12_17 =>
    Do P (vBuiltin .len #[25] 3 [t12_17]) fun t13_18 =>
    Do P (V (Instr.loadAt 3 n5)) fun t14_19 =>
    Do P (V (EqG .eql 3 (.tmp 18) (.tmp 19) t13_18 t14_19)) fun t15_20 =>
    Gd t15_20 true (
     Do P (V (Instr.fieldAt 27 x1 0)) fun t16_23 =>
     Do P (V (Instr.loadAt 25 t16_23)) fun t17_24 =>
     Do P (vCall (.func (.func 52) #[] ⟨[]⟩) [t17_24, (.func (.func 49) #[] ⟨[n5]⟩)]) fun t18_26 =>
     Do P (V (Op.unary .not t18_26)) fun t19_27 =>
     Gd t19_27 true (
      Do P (V (Instr.fieldAt 27 x1 1)) fun t20_30 =>
      Do P (V (Instr.loadAt 25 t20_30)) fun t21_31 =>
      Do P (vCall (.func (.func 52) #[] ⟨[]⟩) [t21_31, (.func (.func 49) #[] ⟨[n5]⟩)]) fun t22_33 =>
      Do P (V (Op.unary .not t22_33)) fun t23_34 =>
      K t23_34
     ) (
      K (.bool false)
     )
    ) (
     K (.bool false)
    )
   ) (
    K (.bool false)
   )
  ) (
   K (.bool false)
  )
def A23 : Ann := .s (.n) (.s (.n) (.s (.n) (.s (.n) (.n))))
set_option maxRecDepth 100000 in
theorem c23 (arg0 : Value) (K : Value → WP) (w : World) (h : s23 Try.prog arg0 K w) : Runs Try.prog 23 [arg0] K w :=
  runs_of_E wide (fn := Try.f23) (c := Try.f23.body.getD .skip) 36 A23 [arg0] w K Try.func23 (by kernel_rfl) (by kernel_rfl) (by kernel_rfl) (by kernel_rfl)
    (Eq.mp (by kernel_rfl : s23 Try.prog arg0 K w = E Try.prog (Try.f23.body.getD .skip) A23 (topK Try.prog K Try.f23.results) (fun i => (([arg0] : List Value)[i]?).getD undef) w) h)
theorem ct23 {arg0 : Value} {h : Hp} {post : Hp → Value → Prop} (hg : ∀ w0, Gs w0 h h [] (s23 Try.prog arg0 (RetP w0 h post))) : Ct Try.prog 23 [arg0] h post := Ct.of (sf := s23 Try.prog arg0) (c23 arg0) hg
theorem in23 {arg0 : Value} {S : WP} {K : Value → WP} (hg : G S (s23 Try.prog arg0 K)) : G S (Do Try.prog (vCall (.func (.func 23) #[] ⟨[]⟩) [arg0]) K) := Gs.into (args := [arg0]) (caps := []) (sf := s23 Try.prog arg0) (c23 arg0) hg

/- skewer/skewerlaw21.spot : names 0 x, 1 w, 2 x, 3 w -/
def s24 (P : Program) (arg0 arg1 : Value) (K : Value → WP) : WP :=
  Do P (V (Instr.box 27 arg0)) fun x1 =>
  Do P (V (Instr.box 51 arg1)) fun w2 =>
  Do P (V (Instr.alloc 30 true (.tuple #[]))) fun t3_4 =>
  Dr <|
  Qk P (V (Instr.indexAt 51 w2 (.int .i64 0))) fun C4 t4_5 =>
  Qk P (V (Instr.loadAt 5 t4_5)) fun C5 t5_6 =>
  Qk P (V (convert 5 3 t5_6)) fun C6 t6_7 =>
  Qk P (V (Instr.fieldAt 27 x1 0)) fun C7 t7_8 =>
  Qk P (V (Instr.loadAt 25 t7_8)) fun C8 t8_9 =>
  Qk P (vBuiltin .len #[25] 3 [t8_9]) fun C9 t9_10 =>
  Qk P (V (binOp .rem 3 t6_7 t9_10)) fun C10 t10_11 =>
  Qk P (V (Instr.indexAt 51 w2 (.int .i64 1))) fun C11 t11_12 =>
  Qk P (V (Instr.loadAt 5 t11_12)) fun C12 t12_13 =>
  Qk P (V (convert 5 3 t12_13)) fun C13 t13_14 =>
  Qk P (V (binOp .rem 3 t13_14 (.int .i64 9))) fun C14 t14_15 =>
  Qk P (V (binOp .sub 3 t14_15 (.int .i64 4))) fun C15 t15_16 =>
  Qk P (V (Instr.indexAt 51 w2 (.int .i64 2))) fun C16 t16_17 =>
  Qk P (V (Instr.loadAt 5 t16_17)) fun C17 t17_18 =>
  Qk P (V (convert 5 3 t17_18)) fun C18 t18_19 =>
  Qk P (V (binOp .rem 3 t18_19 (.int .i64 2))) fun C19 t19_20 =>
  Qk P (vBuild 30 [(0, t10_11), (1, t15_16), (2, t19_20)]) fun C20 t20_21 =>
  Do P (U (Instr.storeAt 30 t3_4 t20_21)) fun t21_x =>
  RetC P 30 t3_4 K
def A24 : Ann := .s (.n) (.s (.plan [(0, 8, 32), (1, 32, 64), (2, 64, 128), (0, 4, 256), (8, 256, 512), (16, 512, 1024), (36, 1152, 2048), (0, 8, 4096), (128, 4096, 8192), (256, 8192, 16384), (512, 16384, 32768), (1024, 32768, 65536), (0, 8, 131072), (4096, 131072, 262144), (8192, 262144, 524288), (16384, 524288, 1048576), (34880, 1116160, 2097152), (131071, 2097168, 0)] (.q 0 (.q 1 (.q 2 (.q 3 (.q 4 (.q 5 (.q 6 (.q 7 (.q 8 (.q 9 (.q 10 (.q 11 (.q 12 (.q 13 (.q 14 (.q 15 (.q 16 (.l 17 .done))))))))))))))))))) (.n))
set_option maxRecDepth 100000 in
theorem c24 (arg0 arg1 : Value) (K : Value → WP) (w : World) (h : s24 Try.prog arg0 arg1 K w) : Runs Try.prog 24 [arg0, arg1] K w :=
  runs_of_E wide (fn := Try.f24) (c := Try.f24.body.getD .skip) 22 A24 [arg0, arg1] w K Try.func24 (by kernel_rfl) (by kernel_rfl) (by kernel_rfl) (by kernel_rfl)
    (Eq.mp (by kernel_rfl : s24 Try.prog arg0 arg1 K w = E Try.prog (Try.f24.body.getD .skip) A24 (topK Try.prog K Try.f24.results) (fun i => (([arg0, arg1] : List Value)[i]?).getD undef) w) h)
theorem ct24 {arg0 arg1 : Value} {h : Hp} {post : Hp → Value → Prop} (hg : ∀ w0, Gs w0 h h [] (s24 Try.prog arg0 arg1 (RetP w0 h post))) : Ct Try.prog 24 [arg0, arg1] h post := Ct.of (sf := s24 Try.prog arg0 arg1) (c24 arg0 arg1) hg
theorem in24 {arg0 arg1 : Value} {S : WP} {K : Value → WP} (hg : G S (s24 Try.prog arg0 arg1 K)) : G S (Do Try.prog (vCall (.func (.func 24) #[] ⟨[]⟩) [arg0, arg1]) K) := Gs.into (args := [arg0, arg1]) (caps := []) (sf := s24 Try.prog arg0 arg1) (c24 arg0 arg1) hg

/- skewer/skewerref21.Moves : names 0 x, 1 s, 2 x, 3 s, 5 out, 6 options, 7 i -/
def s25 (P : Program) (arg0 arg1 : Value) (K : Value → WP) : WP :=
  Do P (V (Instr.box 27 arg0)) fun x1 =>
  Do P (V (Instr.box 30 arg1)) fun s2 =>
  Dr <|
  Qk P (V (Instr.fieldAt 27 x1 0)) fun C3 t3_9 =>
  Qk P (V (Instr.loadAt 25 t3_9)) fun C4 t4_10 =>
  Qk P (V (Instr.fieldAt 30 s2 0)) fun C5 t5_11 =>
  Qk P (V (Instr.loadAt 3 t5_11)) fun C6 t6_12 =>
  Qk P (V (Instr.indexAt 25 t4_10 t6_12)) fun C7 t7_13 =>
  Qk P (V (Instr.loadAt 49 t7_13)) fun C8 t8_14 =>
  Do P (vBuildSlice 23 0 []) fun t9_8 =>
  With C8 <|
  With C7 <|
  With C6 <|
  With C5 <|
  With C4 <|
  With C3 <|
  Jn (α := Value) (fun j10 => Jk fun _ => -- options
   Lp (α := Value × Value) (fun c11 s11 => Jk fun _ => -- out i
    Do P (vBuiltin .len #[49] 3 [j10]) fun t12_26 =>
    Do P (V (binOp .lss 3 s11.2 t12_26)) fun t13_27 =>
    If t13_27 (
     Dr <|
     Qk P (V (Instr.indexAt 49 j10 s11.2)) fun C14 t14_33 =>
     Qk P (V (Instr.loadAt 3 t14_33)) fun C15 t15_34 =>
     Qk P (V (Instr.fieldAt 30 s2 1)) fun C16 t16_35 =>
     Qk P (V (Instr.loadAt 3 t16_35)) fun C17 t17_36 =>
     Qk P (V (Instr.fieldAt 30 s2 2)) fun C18 t18_37 =>
     Qk P (V (Instr.loadAt 3 t18_37)) fun C19 t19_38 =>
     Qk P (V (binOp .sub 3 (.int .i64 1) t19_38)) fun C20 t20_39 =>
     Qk P (vBuild 30 [(0, t15_34), (1, t17_36), (2, t20_39)]) fun C21 t21_40 =>
     Do P (vBuildSlice 23 1 [(0, t21_40)]) fun t22_41 =>
     Do P (vBuiltin .append #[23, 23] 23 [s11.1, t22_41]) fun t23_42 =>
     Do P (V (binOp .add 3 s11.2 (.int .i64 1))) fun t24_29 =>
     c11 (t23_42, t24_29)
    ) (
     Jn (α := Value) (fun j25 => Jk fun _ => -- out
      Jn (α := Value) (fun j26 => Jk fun _ => -- t67
       If j26 (
        Do P (V (Instr.fieldAt 30 s2 0)) fun t27_69 =>
        Do P (V (Instr.loadAt 3 t27_69)) fun t28_70 =>
        Do P (V (Instr.fieldAt 30 s2 1)) fun t29_71 =>
        Do P (V (Instr.loadAt 3 t29_71)) fun t30_72 =>
        Do P (V (binOp .add 3 t30_72 (.int .i64 1))) fun t31_73 =>
        Do P (vBuild 30 [(0, t28_70), (1, t31_73)]) fun t32_74 =>
        Do P (vBuildSlice 23 1 [(0, t32_74)]) fun t33_75 =>
        Do P (vBuiltin .append #[23, 23] 23 [j25, t33_75]) fun t34_76 =>
        K t34_76
       ) (
        K j25
       )
      ) fun k26 =>
      Do P (V (Instr.fieldAt 30 s2 2)) fun t35_60 =>
      Do P (V (Instr.loadAt 3 t35_60)) fun t36_61 =>
      Do P (V (EqG .eql 3 (.tmp 61) (.const (.int .i64 1)) t36_61 (.int .i64 1))) fun t37_62 =>
      Gd t37_62 true (
       Do P (V (Instr.fieldAt 30 s2 1)) fun t38_64 =>
       Do P (V (Instr.loadAt 3 t38_64)) fun t39_65 =>
       Do P (V (binOp .lss 3 t39_65 (.int .i64 0))) fun t40_66 =>
       k26 t40_66
      ) (
       k26 (.bool false)
      )
     ) fun k25 =>
     Jn (α := Value) (fun j41 => Jk fun _ => -- t50
      If j41 (
       Do P (V (Instr.fieldAt 30 s2 0)) fun t42_52 =>
       Do P (V (Instr.loadAt 3 t42_52)) fun t43_53 =>
       Do P (V (Instr.fieldAt 30 s2 1)) fun t44_54 =>
       Do P (V (Instr.loadAt 3 t44_54)) fun t45_55 =>
       Do P (V (binOp .sub 3 t45_55 (.int .i64 1))) fun t46_56 =>
       Do P (vBuild 30 [(0, t43_53), (1, t46_56), (2, (.int .i64 1))]) fun t47_57 =>
       Do P (vBuildSlice 23 1 [(0, t47_57)]) fun t48_58 =>
       Do P (vBuiltin .append #[23, 23] 23 [s11.1, t48_58]) fun t49_59 =>
       k25 t49_59
      ) (
       k25 s11.1
      )
     ) fun k41 =>
     Do P (V (Instr.fieldAt 30 s2 2)) fun t50_43 =>
     Do P (V (Instr.loadAt 3 t50_43)) fun t51_44 =>
     Do P (V (EqG .eql 3 (.tmp 44) (.const (.int .i64 0)) t51_44 (.int .i64 0))) fun t52_45 =>
     Gd t52_45 true (
      Do P (V (Instr.fieldAt 30 s2 1)) fun t53_47 =>
      Do P (V (Instr.loadAt 3 t53_47)) fun t54_48 =>
      Do P (V (binOp .gtr 3 t54_48 (.int .i64 0))) fun t55_49 =>
      k41 t55_49
     ) (
      k41 (.bool false)
     )
    )
   ) (t9_8, (.int .i64 0))
  ) fun k10 =>
  Do P (V (Instr.fieldAt 30 s2 2)) fun t56_15 =>
  Do P (V (Instr.loadAt 3 t56_15)) fun t57_16 =>
  Do P (V (EqG .eql 3 (.tmp 16) (.const (.int .i64 1)) t57_16 (.int .i64 1))) fun t58_17 =>
  If t58_17 (
   Do P (V (Instr.fieldAt 27 x1 1)) fun t59_18 =>
   Do P (V (Instr.loadAt 25 t59_18)) fun t60_19 =>
   Do P (V (Instr.fieldAt 30 s2 0)) fun t61_20 =>
   Do P (V (Instr.loadAt 3 t61_20)) fun t62_21 =>
   Do P (V (Instr.indexAt 25 t60_19 t62_21)) fun t63_22 =>
   Do P (V (Instr.loadAt 49 t63_22)) fun t64_23 =>
   k10 t64_23
  ) (
   k10 t8_14
  )
def A25 : Ann := .s (.n) (.s (.plan [(0, 0, 256), (0, 4, 512), (2, 512, 1024), (0, 8, 2048), (8, 2048, 4096), (20, 5120, 8192), (32, 8192, 16384), (1, 256, 32), (255, 16384, 64)] (.q 1 (.q 2 (.q 3 (.q 4 (.q 5 (.q 6 (.l 0 (.q 7 (.q 8 .done)))))))))) (.j [6] 16744512 (.s (.n) (.s (.n) (.n))) (.s (.s (.n) (.lp [5, 7] 8796076245152 (.s (.s (.n) (.s (.n) (.n))) (.s (.plan [(0, 32, 1073741824), (0, 64, 2147483648), (0, 128, 4294967296), (6, 6442450944, 8589934592), (8, 8589934592, 17179869184), (0, 8, 34359738368), (32, 34359738368, 68719476736), (0, 8, 137438953472), (128, 137438953472, 274877906944), (256, 274877906944, 549755813888), (592, 635655159808, 1099511627776), (1024, 1099511627776, 2199023255552), (2049, 2200096997376, 4398046511104), (8191, 4398046511104, 32)] (.q 0 (.q 1 (.q 2 (.q 3 (.q 4 (.q 5 (.q 6 (.q 7 (.q 8 (.q 9 (.q 10 (.l 11 (.l 12 (.q 13 .done))))))))))))))) (.n))))) (.j [5] 1152912708513824800 (.j [50] 2243003720663040 (.n) (.s (.n) (.n))) (.s (.j [67] 293994983674745978880 (.n) (.s (.n) (.n))) (.s (.n) (.n)))))))
set_option maxRecDepth 100000 in
theorem c25 (arg0 arg1 : Value) (K : Value → WP) (w : World) (h : s25 Try.prog arg0 arg1 K w) : Runs Try.prog 25 [arg0, arg1] K w :=
  runs_of_E wide (fn := Try.f25) (c := Try.f25.body.getD .skip) 78 A25 [arg0, arg1] w K Try.func25 (by kernel_rfl) (by kernel_rfl) (by kernel_rfl) (by kernel_rfl)
    (Eq.mp (by kernel_rfl : s25 Try.prog arg0 arg1 K w = E Try.prog (Try.f25.body.getD .skip) A25 (topK Try.prog K Try.f25.results) (fun i => (([arg0, arg1] : List Value)[i]?).getD undef) w) h)
theorem ct25 {arg0 arg1 : Value} {h : Hp} {post : Hp → Value → Prop} (hg : ∀ w0, Gs w0 h h [] (s25 Try.prog arg0 arg1 (RetP w0 h post))) : Ct Try.prog 25 [arg0, arg1] h post := Ct.of (sf := s25 Try.prog arg0 arg1) (c25 arg0 arg1) hg
theorem in25 {arg0 arg1 : Value} {S : WP} {K : Value → WP} (hg : G S (s25 Try.prog arg0 arg1 K)) : G S (Do Try.prog (vCall (.func (.func 25) #[] ⟨[]⟩) [arg0, arg1]) K) := Gs.into (args := [arg0, arg1]) (caps := []) (sf := s25 Try.prog arg0 arg1) (c25 arg0 arg1) hg

/- skewer/skewerref21.Less : names 0 a, 1 b, 2 a, 3 b -/
def s26 (P : Program) (arg0 arg1 : Value) (K : Value → WP) : WP :=
  Do P (V (Instr.box 30 arg0)) fun a1 =>
  Do P (V (Instr.box 30 arg1)) fun b2 =>
  Do P (V (Instr.fieldAt 30 a1 0)) fun t3_5 =>
  Do P (V (Instr.loadAt 3 t3_5)) fun t4_6 =>
  Do P (V (Instr.fieldAt 30 b2 0)) fun t5_7 =>
  Do P (V (Instr.loadAt 3 t5_7)) fun t6_8 =>
  Do P (V (EqG .neq 3 (.tmp 6) (.tmp 8) t4_6 t6_8)) fun t7_9 =>
  If t7_9 (
   Do P (V (Instr.fieldAt 30 a1 0)) fun t8_10 =>
   Do P (V (Instr.loadAt 3 t8_10)) fun t9_11 =>
   Do P (V (Instr.fieldAt 30 b2 0)) fun t10_12 =>
   Do P (V (Instr.loadAt 3 t10_12)) fun t11_13 =>
   Do P (V (binOp .lss 3 t9_11 t11_13)) fun t12_14 =>
   K t12_14
  ) (
   Do P (V (Instr.fieldAt 30 a1 1)) fun t13_15 =>
   Do P (V (Instr.loadAt 3 t13_15)) fun t14_16 =>
   Do P (V (Instr.fieldAt 30 b2 1)) fun t15_17 =>
   Do P (V (Instr.loadAt 3 t15_17)) fun t16_18 =>
   Do P (V (EqG .neq 3 (.tmp 16) (.tmp 18) t14_16 t16_18)) fun t17_19 =>
   If t17_19 (
    Do P (V (Instr.fieldAt 30 a1 1)) fun t18_20 =>
    Do P (V (Instr.loadAt 3 t18_20)) fun t19_21 =>
    Do P (V (Instr.fieldAt 30 b2 1)) fun t20_22 =>
    Do P (V (Instr.loadAt 3 t20_22)) fun t21_23 =>
    Do P (V (binOp .lss 3 t19_21 t21_23)) fun t22_24 =>
    K t22_24
   ) (
    Do P (V (Instr.fieldAt 30 a1 2)) fun t23_25 =>
    Do P (V (Instr.loadAt 3 t23_25)) fun t24_26 =>
    Do P (V (Instr.fieldAt 30 b2 2)) fun t25_27 =>
    Do P (V (Instr.loadAt 3 t25_27)) fun t26_28 =>
    Do P (V (binOp .lss 3 t24_26 t26_28)) fun t27_29 =>
    K t27_29
   )
  )
def A26 : Ann := .s (.n) (.s (.s (.n) (.s (.s (.n) (.n)) (.n))) (.s (.s (.n) (.s (.s (.n) (.n)) (.n))) (.s (.n) (.n))))
set_option maxRecDepth 100000 in
theorem c26 (arg0 arg1 : Value) (K : Value → WP) (w : World) (h : s26 Try.prog arg0 arg1 K w) : Runs Try.prog 26 [arg0, arg1] K w :=
  runs_of_E wide (fn := Try.f26) (c := Try.f26.body.getD .skip) 30 A26 [arg0, arg1] w K Try.func26 (by kernel_rfl) (by kernel_rfl) (by kernel_rfl) (by kernel_rfl)
    (Eq.mp (by kernel_rfl : s26 Try.prog arg0 arg1 K w = E Try.prog (Try.f26.body.getD .skip) A26 (topK Try.prog K Try.f26.results) (fun i => (([arg0, arg1] : List Value)[i]?).getD undef) w) h)
theorem ct26 {arg0 arg1 : Value} {h : Hp} {post : Hp → Value → Prop} (hg : ∀ w0, Gs w0 h h [] (s26 Try.prog arg0 arg1 (RetP w0 h post))) : Ct Try.prog 26 [arg0, arg1] h post := Ct.of (sf := s26 Try.prog arg0 arg1) (c26 arg0 arg1) hg
theorem in26 {arg0 arg1 : Value} {S : WP} {K : Value → WP} (hg : G S (s26 Try.prog arg0 arg1 K)) : G S (Do Try.prog (vCall (.func (.func 26) #[] ⟨[]⟩) [arg0, arg1]) K) := Gs.into (args := [arg0, arg1]) (caps := []) (sf := s26 Try.prog arg0 arg1) (c26 arg0 arg1) hg

/- skewer/skewerref21.Turned : names 0 x, 1 x -/
def s27 (P : Program) (arg0 : Value) (K : Value → WP) : WP :=
  Do P (V (Instr.box 27 arg0)) fun x1 =>
  Do P (V (Instr.alloc 27 true (.tuple #[]))) fun t2_2 =>
  Do P (V (Instr.fieldAt 27 x1 1)) fun t3_3 =>
  Do P (V (Instr.loadAt 25 t3_3)) fun t4_4 =>
  Do P (V (Instr.fieldAt 27 x1 0)) fun t5_5 =>
  Do P (V (Instr.loadAt 25 t5_5)) fun t6_6 =>
  Do P (vBuild 27 [(0, t4_4), (1, t6_6)]) fun t7_7 =>
  Do P (U (Instr.storeAt 27 t2_2 t7_7)) fun t8_x =>
  RetC P 27 t2_2 K
def A27 : Ann := .s (.n) (.s (.n) (.n))
set_option maxRecDepth 100000 in
theorem c27 (arg0 : Value) (K : Value → WP) (w : World) (h : s27 Try.prog arg0 K w) : Runs Try.prog 27 [arg0] K w :=
  runs_of_E wide (fn := Try.f27) (c := Try.f27.body.getD .skip) 8 A27 [arg0] w K Try.func27 (by kernel_rfl) (by kernel_rfl) (by kernel_rfl) (by kernel_rfl)
    (Eq.mp (by kernel_rfl : s27 Try.prog arg0 K w = E Try.prog (Try.f27.body.getD .skip) A27 (topK Try.prog K Try.f27.results) (fun i => (([arg0] : List Value)[i]?).getD undef) w) h)
theorem ct27 {arg0 : Value} {h : Hp} {post : Hp → Value → Prop} (hg : ∀ w0, Gs w0 h h [] (s27 Try.prog arg0 (RetP w0 h post))) : Ct Try.prog 27 [arg0] h post := Ct.of (sf := s27 Try.prog arg0) (c27 arg0) hg
theorem in27 {arg0 : Value} {S : WP} {K : Value → WP} (hg : G S (s27 Try.prog arg0 K)) : G S (Do Try.prog (vCall (.func (.func 27) #[] ⟨[]⟩) [arg0]) K) := Gs.into (args := [arg0]) (caps := []) (sf := s27 Try.prog arg0) (c27 arg0) hg

/- skewer/loopy.Solve : names 0 x, 1 s, 2 x, 3 s -/
def s32 (P : Program) (arg0 arg1 : Value) (K : Value → WP) : WP :=
  Do P (V (Instr.box 27 arg0)) fun x1 =>
  Do P (V (Instr.box 30 arg1)) fun s2 =>
  Do P (V (Instr.loadAt 27 x1)) fun t3_6 =>
  Do P (vCall (.func (.func 23) #[] ⟨[]⟩) [t3_6]) fun t4_7 =>
  Do P (V (Op.unary .not t4_7)) fun t5_8 =>
  If t5_8 (
   K (.tuple #[(.int .i64 0), (.int .i64 210)])
  ) (
   Do P (V (Instr.loadAt 27 x1)) fun t6_9 =>
   Do P (V (Instr.loadAt 30 s2)) fun t7_10 =>
   Do P (vCall (.func (.func 42) #[] ⟨[]⟩) [t6_9, t7_10]) fun t8_11 =>
   Do P (V (Op.unary .not t8_11)) fun t9_12 =>
   If t9_12 (
    K (.tuple #[(.int .i64 0), (.int .i64 1)])
   ) (
    Dr <|
    Qk P (V (Instr.loadAt 27 x1)) fun C10 t10_13 =>
    Qk P (V (Instr.fieldAt 30 s2 1)) fun C11 t11_14 =>
    Qk P (V (Instr.loadAt 3 t11_14)) fun C12 t12_15 =>
    Qk P (V (Instr.fieldAt 30 s2 1)) fun C13 t13_16 =>
    Qk P (V (Instr.loadAt 3 t13_16)) fun C14 t14_17 =>
    Qk P (V (Op.unary .neg t14_17)) fun C15 t15_18 =>
    Qk P (vBuiltin .max #[3, 3] 3 [t12_15, t15_18]) fun C16 t16_19 =>
    Qk P (V (Instr.loadAt 30 s2)) fun C17 t17_21 =>
    Do P (vCall (.func (.func 60) #[] ⟨[]⟩) [t10_13, t16_19]) fun t18_20 =>
    With C17 <|
    Do P (vCall (.func (.func 59) #[] ⟨[]⟩) [t18_20, t17_21]) fun t19_22 =>
    K (.tuple #[t19_22, (.int .i64 0)])
   )
  )
def A32 : Ann := .s (.n) (.s (.s (.n) (.s (.s (.n) (.n)) (.n))) (.s (.s (.n) (.s (.s (.n) (.n)) (.n))) (.s (.plan [(0, 4, 8192), (0, 8, 16384), (2, 16384, 32768), (0, 8, 65536), (8, 65536, 131072), (16, 131072, 262144), (36, 294912, 524288), (65, 532480, 1048576), (0, 8, 2097152), (384, 3145728, 4194304), (1023, 4194304, 16), (2047, 0, 32)] (.q 0 (.q 1 (.q 2 (.q 3 (.q 4 (.q 5 (.q 6 (.q 8 (.l 7 (.l 9 (.q 10 (.q 11 .done))))))))))))) (.n))))
set_option maxRecDepth 100000 in
theorem c32 (arg0 arg1 : Value) (K : Value → WP) (w : World) (h : s32 Try.prog arg0 arg1 K w) : Runs Try.prog 32 [arg0, arg1] K w :=
  runs_of_E wide (fn := Try.f32) (c := Try.f32.body.getD .skip) 23 A32 [arg0, arg1] w K Try.func32 (by kernel_rfl) (by kernel_rfl) (by kernel_rfl) (by kernel_rfl)
    (Eq.mp (by kernel_rfl : s32 Try.prog arg0 arg1 K w = E Try.prog (Try.f32.body.getD .skip) A32 (topK Try.prog K Try.f32.results) (fun i => (([arg0, arg1] : List Value)[i]?).getD undef) w) h)
theorem ct32 {arg0 arg1 : Value} {h : Hp} {post : Hp → Value → Prop} (hg : ∀ w0, Gs w0 h h [] (s32 Try.prog arg0 arg1 (RetP w0 h post))) : Ct Try.prog 32 [arg0, arg1] h post := Ct.of (sf := s32 Try.prog arg0 arg1) (c32 arg0 arg1) hg
theorem in32 {arg0 arg1 : Value} {S : WP} {K : Value → WP} (hg : G S (s32 Try.prog arg0 arg1 K)) : G S (Do Try.prog (vCall (.func (.func 32) #[] ⟨[]⟩) [arg0, arg1]) K) := Gs.into (args := [arg0, arg1]) (caps := []) (sf := s32 Try.prog arg0 arg1) (c32 arg0 arg1) hg

/- skewer/skewerref21.Spot : names 0 x, 1 s, 2 x, 3 s -/
def s33 (P : Program) (arg0 arg1 : Value) (K : Value → WP) : WP :=
  Do P (V (Instr.box 27 arg0)) fun x1 =>
  Do P (V (Instr.box 30 arg1)) fun s2 =>
  Do P (V (Instr.fieldAt 30 s2 0)) fun t3_5 =>
  Do P (V (Instr.loadAt 3 t3_5)) fun t4_6 =>
  Do P (V (binOp .geq 3 t4_6 (.int .i64 0))) fun t5_7 =>
  Gd t5_7 true (
   Do P (V (Instr.fieldAt 30 s2 0)) fun t6_9 =>
   Do P (V (Instr.loadAt 3 t6_9)) fun t7_10 =>
   Do P (V (Instr.fieldAt 27 x1 0)) fun t8_11 =>
   Do P (V (Instr.loadAt 25 t8_11)) fun t9_12 =>
   Do P (vBuiltin .len #[25] 3 [t9_12]) fun t10_13 =>
   Do P (V (binOp .lss 3 t7_10 t10_13)) fun t11_14 =>
   Gd t11_14 true (
    Do P (V (Instr.fieldAt 30 s2 1)) fun t12_17 =>
    Do P (V (Instr.loadAt 3 t12_17)) fun t13_18 =>
    Do P (V (binOp .geq 3 t13_18 (.int .i64 (-16)))) fun t14_19 =>
    Gd t14_19 true (
     Do P (V (Instr.fieldAt 30 s2 1)) fun t15_22 =>
     Do P (V (Instr.loadAt 3 t15_22)) fun t16_23 =>
     Do P (V (binOp .leq 3 t16_23 (.int .i64 16))) fun t17_24 =>
     Gd t17_24 true (
      Do P (V (Instr.fieldAt 30 s2 2)) fun t18_27 =>
      Do P (V (Instr.loadAt 3 t18_27)) fun t19_28 =>
      Do P (V (EqG .eql 3 (.tmp 28) (.const (.int .i64 0)) t19_28 (.int .i64 0))) fun t20_29 =>
      Gd t20_29 false (
       Do P (V (Instr.fieldAt 30 s2 2)) fun t21_31 =>
       Do P (V (Instr.loadAt 3 t21_31)) fun t22_32 =>
       Do P (V (EqG .eql 3 (.tmp 32) (.const (.int .i64 1)) t22_32 (.int .i64 1))) fun t23_33 =>
       K t23_33
      ) (
       K (.bool true)
      )
     ) (
      K (.bool false)
     )
    ) (
     K (.bool false)
    )
   ) (
    K (.bool false)
   )
  ) (
   K (.bool false)
  )
def A33 : Ann := .s (.n) (.s (.n) (.n))
set_option maxRecDepth 100000 in
theorem c33 (arg0 arg1 : Value) (K : Value → WP) (w : World) (h : s33 Try.prog arg0 arg1 K w) : Runs Try.prog 33 [arg0, arg1] K w :=
  runs_of_E wide (fn := Try.f33) (c := Try.f33.body.getD .skip) 36 A33 [arg0, arg1] w K Try.func33 (by kernel_rfl) (by kernel_rfl) (by kernel_rfl) (by kernel_rfl)
    (Eq.mp (by kernel_rfl : s33 Try.prog arg0 arg1 K w = E Try.prog (Try.f33.body.getD .skip) A33 (topK Try.prog K Try.f33.results) (fun i => (([arg0, arg1] : List Value)[i]?).getD undef) w) h)
theorem ct33 {arg0 arg1 : Value} {h : Hp} {post : Hp → Value → Prop} (hg : ∀ w0, Gs w0 h h [] (s33 Try.prog arg0 arg1 (RetP w0 h post))) : Ct Try.prog 33 [arg0, arg1] h post := Ct.of (sf := s33 Try.prog arg0 arg1) (c33 arg0 arg1) hg
theorem in33 {arg0 arg1 : Value} {S : WP} {K : Value → WP} (hg : G S (s33 Try.prog arg0 arg1 K)) : G S (Do Try.prog (vCall (.func (.func 33) #[] ⟨[]⟩) [arg0, arg1]) K) := Gs.into (args := [arg0, arg1]) (caps := []) (sf := s33 Try.prog arg0 arg1) (c33 arg0 arg1) hg

/- skewer/skewerref21.Left : names 0 s, 1 known, 2 free, 3 s, 4 known, 5 free, 7 k -/
def s34 (P : Program) (arg0 arg1 arg2 : Value) (K : Value → WP) : WP :=
  Do P (V (Instr.box 30 arg0)) fun s1 =>
  Do P (V (Instr.loadAt 30 s1)) fun t2_9 =>
  Do P (vCall (.func (.func 61) #[] ⟨[]⟩) [t2_9, arg2]) fun t3_11 =>
  Do P (V (Instr.indexAt 49 arg1 t3_11)) fun t4_12 =>
  Do P (V (Instr.loadAt 3 t4_12)) fun t5_13 =>
  Do P (V (EqG .eql 3 (.tmp 14) (.const (.int .i64 0)) t5_13 (.int .i64 0))) fun t6_15 =>
  If t6_15 (
   K (.int .i64 2)
  ) (
   Do P (V (Instr.fieldAt 30 s1 2)) fun t7_16 =>
   Do P (V (Instr.loadAt 3 t7_16)) fun t8_17 =>
   Do P (V (EqG .eql 3 (.tmp 17) (.const (.int .i64 1)) t8_17 (.int .i64 1))) fun t9_18 =>
   If t9_18 (
    Do P (V (binOp .sub 3 (.int .i64 4) t5_13)) fun t10_20 =>
    K t10_20
   ) (
    K t5_13
   )
  )
def A34 : Ann := .s (.n) (.s (.n) (.s (.s (.n) (.s (.s (.n) (.n)) (.n))) (.s (.s (.n) (.s (.s (.n) (.n)) (.n))) (.s (.n) (.n)))))
set_option maxRecDepth 100000 in
theorem c34 (arg0 arg1 arg2 : Value) (K : Value → WP) (w : World) (h : s34 Try.prog arg0 arg1 arg2 K w) : Runs Try.prog 34 [arg0, arg1, arg2] K w :=
  runs_of_E wide (fn := Try.f34) (c := Try.f34.body.getD .skip) 22 A34 [arg0, arg1, arg2] w K Try.func34 (by kernel_rfl) (by kernel_rfl) (by kernel_rfl) (by kernel_rfl)
    (Eq.mp (by kernel_rfl : s34 Try.prog arg0 arg1 arg2 K w = E Try.prog (Try.f34.body.getD .skip) A34 (topK Try.prog K Try.f34.results) (fun i => (([arg0, arg1, arg2] : List Value)[i]?).getD undef) w) h)
theorem ct34 {arg0 arg1 arg2 : Value} {h : Hp} {post : Hp → Value → Prop} (hg : ∀ w0, Gs w0 h h [] (s34 Try.prog arg0 arg1 arg2 (RetP w0 h post))) : Ct Try.prog 34 [arg0, arg1, arg2] h post := Ct.of (sf := s34 Try.prog arg0 arg1 arg2) (c34 arg0 arg1 arg2) hg
theorem in34 {arg0 arg1 arg2 : Value} {S : WP} {K : Value → WP} (hg : G S (s34 Try.prog arg0 arg1 arg2 K)) : G S (Do Try.prog (vCall (.func (.func 34) #[] ⟨[]⟩) [arg0, arg1, arg2]) K) := Gs.into (args := [arg0, arg1, arg2]) (caps := []) (sf := s34 Try.prog arg0 arg1 arg2) (c34 arg0 arg1 arg2) hg

/- skewer/skewerref21.Results : names 0 x, 1 free, 2 x, 3 free, 5 out, 6 grown, 7 i, 8 s, 9 r -/
def s35 (P : Program) (arg0 arg1 : Value) (K : Value → WP) : WP :=
  Do P (V (Instr.box 27 arg0)) fun x1 =>
  Do P (V (Instr.fieldAt 27 x1 0)) fun t2_10 =>
  Do P (V (Instr.loadAt 25 t2_10)) fun t3_11 =>
  Do P (vBuiltin .len #[25] 3 [t3_11]) fun t4_12 =>
  Do P (V (binOp .mul 3 (.int .i64 2) t4_12)) fun t5_13 =>
  Do P (V (binOp .mul 3 (.int .i64 2) arg1)) fun t6_15 =>
  Do P (V (binOp .add 3 t6_15 (.int .i64 1))) fun t7_16 =>
  Do P (V (binOp .mul 3 t5_13 t7_16)) fun t8_17 =>
  Do P (V (Instr.makeSlice 49 t8_17 t8_17)) fun t9_18 =>
  Lp (α := Value) (fun c10 s10 => Jk fun _ => -- grown
   If s10 (
    Lp (α := Value × Value) (fun c11 s11 => Jk fun _ => -- grown i
     Do P (vBuiltin .len #[49] 3 [t9_18]) fun t12_22 =>
     Do P (V (binOp .lss 3 s11.2 t12_22)) fun t13_23 =>
     If t13_23 (
      Jn (α := Value) (fun j14 => Jk fun _ => -- grown
       Do P (V (binOp .add 3 s11.2 (.int .i64 1))) fun t15_25 =>
       c11 (j14, t15_25)
      ) fun k14 =>
      Dr <|
      Qk P (V (binOp .quo 3 s11.2 (.int .i64 2))) fun C16 t16_27 =>
      Qk P (V (binOp .mul 3 (.int .i64 2) arg1)) fun C17 t17_29 =>
      Qk P (V (binOp .add 3 t17_29 (.int .i64 1))) fun C18 t18_30 =>
      Qk P (V (binOp .quo 3 t16_27 t18_30)) fun C19 t19_31 =>
      Qk P (V (binOp .quo 3 s11.2 (.int .i64 2))) fun C20 t20_33 =>
      Qk P (V (binOp .mul 3 (.int .i64 2) arg1)) fun C21 t21_35 =>
      Qk P (V (binOp .add 3 t21_35 (.int .i64 1))) fun C22 t22_36 =>
      Qk P (V (binOp .rem 3 t20_33 t22_36)) fun C23 t23_37 =>
      Qk P (V (binOp .sub 3 t23_37 arg1)) fun C24 t24_39 =>
      Qk P (V (binOp .rem 3 s11.2 (.int .i64 2))) fun C25 t25_41 =>
      Qk P (vBuild 30 [(0, t19_31), (1, t24_39), (2, t25_41)]) fun C26 t26_42 =>
      Do P (V (Instr.alloc 30 true (.tuple #[]))) fun s27 =>
      With C26 <|
      With C25 <|
      With C24 <|
      With C23 <|
      With C22 <|
      With C21 <|
      With C20 <|
      With C19 <|
      With C18 <|
      With C17 <|
      With C16 <|
      Do P (U (Instr.storeAt 30 s27 t26_42)) fun t28_x =>
      Do P (V (Instr.loadAt 27 x1)) fun t29_43 =>
      Do P (V (Instr.loadAt 30 s27)) fun t30_44 =>
      Do P (vCall (.func (.func 25) #[] ⟨[]⟩) [t29_43, t30_44]) fun t31_45 =>
      Do P (vCall (.func (.func 62) #[] ⟨[]⟩) [t31_45, t9_18, arg1]) fun t32_48 =>
      Jn (α := Value) (fun j33 => Jk fun _ => -- t57
       If j33 (
        Do P (V (Instr.indexAt 49 t9_18 s11.2)) fun t34_61 =>
        Do P (U (Instr.storeAt 3 t34_61 t32_48)) fun t35_x =>
        k14 (.bool true)
       ) (
        k14 s11.1
       )
      ) fun k33 =>
      Do P (V (Instr.indexAt 49 t9_18 s11.2)) fun t36_51 =>
      Do P (V (Instr.loadAt 3 t36_51)) fun t37_52 =>
      Do P (V (EqG .eql 3 (.tmp 52) (.const (.int .i64 0)) t37_52 (.int .i64 0))) fun t38_53 =>
      Gd t38_53 true (
       Do P (V (EqG .neq 3 (.tmp 55) (.const (.int .i64 0)) t32_48 (.int .i64 0))) fun t39_56 =>
       k33 t39_56
      ) (
       k33 (.bool false)
      )
     ) (
      c10 s11.1
     )
    ) ((.bool false), (.int .i64 0))
   ) (
    K t9_18
   )
  ) (.bool true)
def A35 : Ann := .s (.n) (.s (.n) (.s (.lp [6] 4611686018426864576 (.s (.s (.n) (.s (.n) (.n))) (.s (.n) (.s (.n) (.lp [6, 7] 4611686018426340288 (.s (.s (.n) (.s (.n) (.n))) (.j [6] 4611686018360279872 (.s (.plan [(0, 128, 67108864), (1, 67108864, 134217728), (0, 2, 268435456), (4, 268435456, 536870912), (8, 536870912, 1073741824), (18, 1207959552, 2147483648), (0, 128, 4294967296), (64, 4294967296, 8589934592), (0, 2, 17179869184), (256, 17179869184, 34359738368), (512, 34359738368, 68719476736), (1152, 77309411328, 137438953472), (0, 2, 274877906944), (6144, 412316860416, 549755813888), (0, 128, 1099511627776), (16384, 1099511627776, 2199023255552), (40992, 2750926553088, 4398046511104), (0, 0, 256), (262143, 4398046511360, 0)] (.q 0 (.q 1 (.q 2 (.q 3 (.q 4 (.q 5 (.q 6 (.q 7 (.q 8 (.q 9 (.q 10 (.q 11 (.q 12 (.q 13 (.q 14 (.q 15 (.q 16 (.l 17 (.l 18 .done)))))))))))))))))))) (.s (.n) (.j [57] 287667426198290432 (.n) (.s (.n) (.n))))) (.n)))))))) (.s (.n) (.n))))
set_option maxRecDepth 100000 in
theorem c35 (arg0 arg1 : Value) (K : Value → WP) (w : World) (h : s35 Try.prog arg0 arg1 K w) : Runs Try.prog 35 [arg0, arg1] K w :=
  runs_of_E wide (fn := Try.f35) (c := Try.f35.body.getD .skip) 63 A35 [arg0, arg1] w K Try.func35 (by kernel_rfl) (by kernel_rfl) (by kernel_rfl) (by kernel_rfl)
    (Eq.mp (by kernel_rfl : s35 Try.prog arg0 arg1 K w = E Try.prog (Try.f35.body.getD .skip) A35 (topK Try.prog K Try.f35.results) (fun i => (([arg0, arg1] : List Value)[i]?).getD undef) w) h)
theorem ct35 {arg0 arg1 : Value} {h : Hp} {post : Hp → Value → Prop} (hg : ∀ w0, Gs w0 h h [] (s35 Try.prog arg0 arg1 (RetP w0 h post))) : Ct Try.prog 35 [arg0, arg1] h post := Ct.of (sf := s35 Try.prog arg0 arg1) (c35 arg0 arg1) hg
theorem in35 {arg0 arg1 : Value} {S : WP} {K : Value → WP} (hg : G S (s35 Try.prog arg0 arg1 K)) : G S (Do Try.prog (vCall (.func (.func 35) #[] ⟨[]⟩) [arg0, arg1]) K) := Gs.into (args := [arg0, arg1]) (caps := []) (sf := s35 Try.prog arg0 arg1) (c35 arg0 arg1) hg

/- skewer/skewerref21.abs : names 0 n, 1 n -/
def s36 (P : Program) (arg0 : Value) (K : Value → WP) : WP :=
  Do P (V (Op.unary .neg arg0)) fun t1_5 =>
  Do P (vBuiltin .max #[3, 3] 3 [arg0, t1_5]) fun t2_6 =>
  K t2_6
def A36 : Ann := .s (.n) (.s (.n) (.n))
set_option maxRecDepth 100000 in
theorem c36 (arg0 : Value) (K : Value → WP) (w : World) (h : s36 Try.prog arg0 K w) : Runs Try.prog 36 [arg0] K w :=
  runs_of_E wide (fn := Try.f36) (c := Try.f36.body.getD .skip) 7 A36 [arg0] w K Try.func36 (by kernel_rfl) (by kernel_rfl) (by kernel_rfl) (by kernel_rfl)
    (Eq.mp (by kernel_rfl : s36 Try.prog arg0 K w = E Try.prog (Try.f36.body.getD .skip) A36 (topK Try.prog K Try.f36.results) (fun i => (([arg0] : List Value)[i]?).getD undef) w) h)
theorem ct36 {arg0 : Value} {h : Hp} {post : Hp → Value → Prop} (hg : ∀ w0, Gs w0 h h [] (s36 Try.prog arg0 (RetP w0 h post))) : Ct Try.prog 36 [arg0] h post := Ct.of (sf := s36 Try.prog arg0) (c36 arg0) hg
theorem in36 {arg0 : Value} {S : WP} {K : Value → WP} (hg : G S (s36 Try.prog arg0 K)) : G S (Do Try.prog (vCall (.func (.func 36) #[] ⟨[]⟩) [arg0]) K) := Gs.into (args := [arg0]) (caps := []) (sf := s36 Try.prog arg0) (c36 arg0) hg

/- skewer/skewerref21.Same : names 0 a, 1 b, 2 a, 3 b, 5 i -/
def s37 (P : Program) (arg0 arg1 : Value) (K : Value → WP) : WP :=
  Do P (vBuiltin .len #[23] 3 [arg0]) fun t1_7 =>
  Do P (vBuiltin .len #[23] 3 [arg1]) fun t2_9 =>
  Do P (V (EqG .neq 3 (.tmp 7) (.tmp 9) t1_7 t2_9)) fun t3_10 =>
  If t3_10 (
   K (.bool false)
  ) (
   Lp (α := Value) (fun c4 s4 => Jk fun _ => -- i
    Do P (vBuiltin .len #[23] 3 [arg0]) fun t5_13 =>
    Do P (V (binOp .lss 3 s4 t5_13)) fun t6_14 =>
    If t6_14 (
     Dr <|
     Qk P (V (Instr.indexAt 23 arg0 s4)) fun C7 t7_19 =>
     Qk P (V (Instr.loadAt 30 t7_19)) fun C8 t8_20 =>
     Qk P (V (Instr.indexAt 23 arg1 s4)) fun C9 t9_23 =>
     Qk P (V (Instr.loadAt 30 t9_23)) fun C10 t10_24 =>
     Qk P (V (EqG .neq 30 (.tmp 20) (.tmp 24) t8_20 t10_24)) fun C11 t11_25 =>
     If t11_25 (
      K (.bool false)
     ) (
      Do P (V (binOp .add 3 s4 (.int .i64 1))) fun t12_16 =>
      c4 t12_16
     )
    ) (
     K (.bool true)
    )
   ) (.int .i64 0)
  )
def A37 : Ann := .s (.n) (.s (.s (.n) (.s (.s (.n) (.n)) (.n))) (.s (.s (.n) (.lp [5] 67106864 (.s (.s (.n) (.s (.n) (.n))) (.s (.s (.plan [(0, 1, 131072), (0, 32, 262144), (3, 393216, 524288), (4, 524288, 1048576), (0, 2, 2097152), (0, 32, 4194304), (48, 6291456, 8388608), (64, 8388608, 16777216), (136, 17825792, 33554432)] (.q 0 (.q 1 (.q 2 (.q 3 (.q 4 (.q 5 (.q 6 (.q 7 (.q 8 .done)))))))))) (.s (.s (.n) (.n)) (.n))) (.n))))) (.s (.n) (.n))))
set_option maxRecDepth 100000 in
theorem c37 (arg0 arg1 : Value) (K : Value → WP) (w : World) (h : s37 Try.prog arg0 arg1 K w) : Runs Try.prog 37 [arg0, arg1] K w :=
  runs_of_E wide (fn := Try.f37) (c := Try.f37.body.getD .skip) 26 A37 [arg0, arg1] w K Try.func37 (by kernel_rfl) (by kernel_rfl) (by kernel_rfl) (by kernel_rfl)
    (Eq.mp (by kernel_rfl : s37 Try.prog arg0 arg1 K w = E Try.prog (Try.f37.body.getD .skip) A37 (topK Try.prog K Try.f37.results) (fun i => (([arg0, arg1] : List Value)[i]?).getD undef) w) h)
theorem ct37 {arg0 arg1 : Value} {h : Hp} {post : Hp → Value → Prop} (hg : ∀ w0, Gs w0 h h [] (s37 Try.prog arg0 arg1 (RetP w0 h post))) : Ct Try.prog 37 [arg0, arg1] h post := Ct.of (sf := s37 Try.prog arg0 arg1) (c37 arg0 arg1) hg
theorem in37 {arg0 arg1 : Value} {S : WP} {K : Value → WP} (hg : G S (s37 Try.prog arg0 arg1 K)) : G S (Do Try.prog (vCall (.func (.func 37) #[] ⟨[]⟩) [arg0, arg1]) K) := Gs.into (args := [arg0, arg1]) (caps := []) (sf := s37 Try.prog arg0 arg1) (c37 arg0 arg1) hg

/- skewer/loopy.Prove : names 0 x, 1 s, 2 side, 3 x, 4 s, 5 side, 8 known, 9 seen, 10 spots, 11 visit -/
def s38 (P : Program) (arg0 arg1 arg2 : Value) (K : Value → WP) : WP :=
  Do P (V (Instr.box 27 arg0)) fun x1 =>
  Do P (V (Instr.box 30 arg1)) fun s2 =>
  Do P (V (Instr.box 3 arg2)) fun side3 =>
  Do P (V (Instr.alloc 41 true (.tuple #[]))) fun t4_6 =>
  Do P (V (Instr.loadAt 27 x1)) fun t5_12 =>
  Do P (vCall (.func (.func 23) #[] ⟨[]⟩) [t5_12]) fun t6_13 =>
  Do P (V (Op.unary .not t6_13)) fun t7_14 =>
  If t7_14 (
   Do P (vBuild 41 []) fun t8_15 =>
   Do P (U (Instr.storeAt 41 t4_6 t8_15)) fun t9_x =>
   RetC P 41 t4_6 fun r => K (.tuple #[r, (.int .i64 210)])
  ) (
   Jn (α := Value) (fun j10 => Jk fun _ => -- t27
    If j10 (
     Do P (vBuild 41 []) fun t11_28 =>
     Do P (U (Instr.storeAt 41 t4_6 t11_28)) fun t12_x =>
     RetC P 41 t4_6 fun r => K (.tuple #[r, (.int .i64 1)])
    ) (
     Do P (V (Instr.loadAt 27 x1)) fun t13_29 =>
     Do P (V (Instr.fieldAt 30 s2 1)) fun t14_30 =>
     Do P (V (Instr.loadAt 3 t14_30)) fun t15_31 =>
     Do P (V (Instr.fieldAt 30 s2 1)) fun t16_32 =>
     Do P (V (Instr.loadAt 3 t16_32)) fun t17_33 =>
     Do P (V (Op.unary .neg t17_33)) fun t18_34 =>
     Do P (vBuiltin .max #[3, 3] 3 [t15_31, t18_34]) fun t19_35 =>
     Do P (vCall (.func (.func 60) #[] ⟨[]⟩) [t13_29, t19_35]) fun t20_36 =>
     Do P (V (Instr.alloc 102 true (.tuple #[]))) fun known21 =>
     Do P (U (Instr.storeAt 102 known21 t20_36)) fun t22_x =>
     Do P (V (Instr.loadAt 102 known21)) fun t23_37 =>
     Do P (V (Instr.loadAt 30 s2)) fun t24_38 =>
     Do P (V (Instr.loadAt 3 side3)) fun t25_39 =>
     Do P (vCall (.func (.func 63) #[] ⟨[]⟩) [t23_37, t24_38, t25_39]) fun t26_40 =>
     Do P (V (Op.unary .not t26_40)) fun t27_41 =>
     If t27_41 (
      Do P (vBuild 41 []) fun t28_42 =>
      Do P (U (Instr.storeAt 41 t4_6 t28_42)) fun t29_x =>
      RetC P 41 t4_6 fun r => K (.tuple #[r, (.int .i64 211)])
     ) (
      Do P (V (Instr.makeMap 82 none)) fun t30_43 =>
      Do P (V (Instr.alloc 82 true (.tuple #[]))) fun seen31 =>
      Do P (U (Instr.storeAt 82 seen31 t30_43)) fun t32_x =>
      Do P (V (Instr.alloc 23 true (.tuple #[]))) fun spots33 =>
      Do P (V (Instr.alloc 107 true (.tuple #[]))) fun visit34 =>
      Do P (U (Instr.storeAt 107 visit34 (.func (.func 64) #[] ⟨[seen31, spots33, x1, side3, known21, visit34]⟩))) fun t35_x =>
      Do P (V (Instr.loadAt 107 visit34)) fun t36_45 =>
      Do P (V (Instr.loadAt 30 s2)) fun t37_46 =>
      Do P (vCall t36_45 [t37_46]) fun t38_47 =>
      Do P (V (Instr.loadAt 23 spots33)) fun t39_48 =>
      Do P (vCall (.func (.func 65) #[] ⟨[]⟩) [t39_48, (.func (.func 66) #[] ⟨[]⟩)]) fun t40_49 =>
      Do P (V (Instr.loadAt 23 spots33)) fun t41_50 =>
      Do P (vBuild 41 [(0, t41_50)]) fun t42_51 =>
      Do P (U (Instr.storeAt 41 t4_6 t42_51)) fun t43_x =>
      RetC P 41 t4_6 fun r => K (.tuple #[r, (.int .i64 0)])
     )
    )
   ) fun k10 =>
   Do P (V (Instr.loadAt 27 x1)) fun t44_16 =>
   Do P (V (Instr.loadAt 30 s2)) fun t45_17 =>
   Do P (vCall (.func (.func 42) #[] ⟨[]⟩) [t44_16, t45_17]) fun t46_18 =>
   Do P (V (Op.unary .not t46_18)) fun t47_19 =>
   Gd t47_19 false (
    Do P (V (Instr.loadAt 3 side3)) fun t48_21 =>
    Do P (V (binOp .lss 3 t48_21 (.int .i64 0))) fun t49_22 =>
    Gd t49_22 false (
     Do P (V (Instr.loadAt 3 side3)) fun t50_25 =>
     Do P (V (binOp .gtr 3 t50_25 (.int .i64 1))) fun t51_26 =>
     k10 t51_26
    ) (
     k10 (.bool true)
    )
   ) (
    k10 (.bool true)
   )
  )
def A38 : Ann := .s (.n) (.s (.s (.n) (.s (.s (.n) (.n)) (.n))) (.s (.j [27] 268369920 (.n) (.s (.s (.n) (.n)) (.n))) (.s (.n) (.s (.s (.n) (.s (.s (.n) (.n)) (.n))) (.s (.n) (.s (.n) (.s (.n) (.s (.n) (.s (.n) (.s (.n) (.s (.n) (.n))))))))))))
set_option maxRecDepth 100000 in
theorem c38 (arg0 arg1 arg2 : Value) (K : Value → WP) (w : World) (h : s38 Try.prog arg0 arg1 arg2 K w) : Runs Try.prog 38 [arg0, arg1, arg2] K w :=
  runs_of_E wide (fn := Try.f38) (c := Try.f38.body.getD .skip) 52 A38 [arg0, arg1, arg2] w K Try.func38 (by kernel_rfl) (by kernel_rfl) (by kernel_rfl) (by kernel_rfl)
    (Eq.mp (by kernel_rfl : s38 Try.prog arg0 arg1 arg2 K w = E Try.prog (Try.f38.body.getD .skip) A38 (topK Try.prog K Try.f38.results) (fun i => (([arg0, arg1, arg2] : List Value)[i]?).getD undef) w) h)
theorem ct38 {arg0 arg1 arg2 : Value} {h : Hp} {post : Hp → Value → Prop} (hg : ∀ w0, Gs w0 h h [] (s38 Try.prog arg0 arg1 arg2 (RetP w0 h post))) : Ct Try.prog 38 [arg0, arg1, arg2] h post := Ct.of (sf := s38 Try.prog arg0 arg1 arg2) (c38 arg0 arg1 arg2) hg
theorem in38 {arg0 arg1 arg2 : Value} {S : WP} {K : Value → WP} (hg : G S (s38 Try.prog arg0 arg1 arg2 K)) : G S (Do Try.prog (vCall (.func (.func 38) #[] ⟨[]⟩) [arg0, arg1, arg2]) K) := Gs.into (args := [arg0, arg1, arg2]) (caps := []) (sf := s38 Try.prog arg0 arg1 arg2) (c38 arg0 arg1 arg2) hg

/- skewer/skewerref21.holds : names 0 s, 1 side, 2 known, 3 free, 4 s, 5 side, 6 known, 7 free, 9 r -/
def s39 (P : Program) (arg0 arg1 arg2 arg3 : Value) (K : Value → WP) : WP :=
  Do P (V (Instr.box 30 arg0)) fun s1 =>
  Do P (V (Instr.loadAt 30 s1)) fun t2_10 =>
  Do P (vCall (.func (.func 34) #[] ⟨[]⟩) [t2_10, arg2, arg3]) fun t3_13 =>
  Do P (V (EqG .eql 3 (.tmp 14) (.const (.int .i64 0)) arg1 (.int .i64 0))) fun t4_15 =>
  Gd t4_15 true (
   Do P (V (EqG .neq 3 (.tmp 17) (.const (.int .i64 3)) t3_13 (.int .i64 3))) fun t5_18 =>
   Gd t5_18 false (
    Do P (V (EqG .eql 3 (.tmp 21) (.const (.int .i64 1)) arg1 (.int .i64 1))) fun t6_22 =>
    Gd t6_22 true (
     Do P (V (EqG .neq 3 (.tmp 24) (.const (.int .i64 1)) t3_13 (.int .i64 1))) fun t7_25 =>
     K t7_25
    ) (
     K (.bool false)
    )
   ) (
    K (.bool true)
   )
  ) (
   Do P (V (EqG .eql 3 (.tmp 21) (.const (.int .i64 1)) arg1 (.int .i64 1))) fun t8_22 =>
   Gd t8_22 true (
    Do P (V (EqG .neq 3 (.tmp 24) (.const (.int .i64 1)) t3_13 (.int .i64 1))) fun t9_25 =>
    K t9_25
   ) (
    K (.bool false)
   )
  )
def A39 : Ann := .s (.n) (.s (.n) (.s (.n) (.n)))
set_option maxRecDepth 100000 in
theorem c39 (arg0 arg1 arg2 arg3 : Value) (K : Value → WP) (w : World) (h : s39 Try.prog arg0 arg1 arg2 arg3 K w) : Runs Try.prog 39 [arg0, arg1, arg2, arg3] K w :=
  runs_of_E wide (fn := Try.f39) (c := Try.f39.body.getD .skip) 28 A39 [arg0, arg1, arg2, arg3] w K Try.func39 (by kernel_rfl) (by kernel_rfl) (by kernel_rfl) (by kernel_rfl)
    (Eq.mp (by kernel_rfl : s39 Try.prog arg0 arg1 arg2 arg3 K w = E Try.prog (Try.f39.body.getD .skip) A39 (topK Try.prog K Try.f39.results) (fun i => (([arg0, arg1, arg2, arg3] : List Value)[i]?).getD undef) w) h)
theorem ct39 {arg0 arg1 arg2 arg3 : Value} {h : Hp} {post : Hp → Value → Prop} (hg : ∀ w0, Gs w0 h h [] (s39 Try.prog arg0 arg1 arg2 arg3 (RetP w0 h post))) : Ct Try.prog 39 [arg0, arg1, arg2, arg3] h post := Ct.of (sf := s39 Try.prog arg0 arg1 arg2 arg3) (c39 arg0 arg1 arg2 arg3) hg
theorem in39 {arg0 arg1 arg2 arg3 : Value} {S : WP} {K : Value → WP} (hg : G S (s39 Try.prog arg0 arg1 arg2 arg3 K)) : G S (Do Try.prog (vCall (.func (.func 39) #[] ⟨[]⟩) [arg0, arg1, arg2, arg3]) K) := Gs.into (args := [arg0, arg1, arg2, arg3]) (caps := []) (sf := s39 Try.prog arg0 arg1 arg2 arg3) (c39 arg0 arg1 arg2 arg3) hg

/- skewer/skewerref21.Has : names 0 l, 1 s, 2 l, 3 s, 5 i -/
def s40 (P : Program) (arg0 arg1 : Value) (K : Value → WP) : WP :=
  Do P (V (Instr.box 30 arg1)) fun s1 =>
  Lp (α := Value) (fun c2 s2 => Jk fun _ => -- i
   Do P (vBuiltin .len #[23] 3 [arg0]) fun t3_8 =>
   Do P (V (binOp .lss 3 s2 t3_8)) fun t4_9 =>
   If t4_9 (
    Dr <|
    Qk P (V (Instr.indexAt 23 arg0 s2)) fun C5 t5_14 =>
    Qk P (V (Instr.loadAt 30 t5_14)) fun C6 t6_15 =>
    Qk P (V (Instr.loadAt 30 s1)) fun C7 t7_16 =>
    Qk P (V (EqG .eql 30 (.tmp 15) (.tmp 16) t6_15 t7_16)) fun C8 t8_17 =>
    If t8_17 (
     K (.bool true)
    ) (
     Do P (V (binOp .add 3 s2 (.int .i64 1))) fun t9_11 =>
     c2 t9_11
    )
   ) (
    K (.bool false)
   )
  ) (.int .i64 0)
def A40 : Ann := .s (.n) (.s (.s (.n) (.lp [5] 262128 (.s (.s (.n) (.s (.n) (.n))) (.s (.s (.plan [(0, 1, 4096), (0, 32, 8192), (3, 12288, 16384), (4, 16384, 32768), (0, 8, 65536), (24, 98304, 131072)] (.q 0 (.q 1 (.q 2 (.q 3 (.q 4 (.q 5 .done))))))) (.s (.s (.n) (.n)) (.n))) (.n))))) (.s (.n) (.n)))
set_option maxRecDepth 100000 in
theorem c40 (arg0 arg1 : Value) (K : Value → WP) (w : World) (h : s40 Try.prog arg0 arg1 K w) : Runs Try.prog 40 [arg0, arg1] K w :=
  runs_of_E wide (fn := Try.f40) (c := Try.f40.body.getD .skip) 18 A40 [arg0, arg1] w K Try.func40 (by kernel_rfl) (by kernel_rfl) (by kernel_rfl) (by kernel_rfl)
    (Eq.mp (by kernel_rfl : s40 Try.prog arg0 arg1 K w = E Try.prog (Try.f40.body.getD .skip) A40 (topK Try.prog K Try.f40.results) (fun i => (([arg0, arg1] : List Value)[i]?).getD undef) w) h)
theorem ct40 {arg0 arg1 : Value} {h : Hp} {post : Hp → Value → Prop} (hg : ∀ w0, Gs w0 h h [] (s40 Try.prog arg0 arg1 (RetP w0 h post))) : Ct Try.prog 40 [arg0, arg1] h post := Ct.of (sf := s40 Try.prog arg0 arg1) (c40 arg0 arg1) hg
theorem in40 {arg0 arg1 : Value} {S : WP} {K : Value → WP} (hg : G S (s40 Try.prog arg0 arg1 K)) : G S (Do Try.prog (vCall (.func (.func 40) #[] ⟨[]⟩) [arg0, arg1]) K) := Gs.into (args := [arg0, arg1]) (caps := []) (sf := s40 Try.prog arg0 arg1) (c40 arg0 arg1) hg

/- skewer/skewerref21.insert : names 0 l, 1 s, 2 l, 3 s, 5 out, 6 done, 7 i -/
def s41 (P : Program) (arg0 arg1 : Value) (K : Value → WP) : WP :=
  Do P (V (Instr.box 30 arg1)) fun s1 =>
  Do P (vBuildSlice 23 0 []) fun t2_8 =>
  Lp (α := Value × Value × Value) (fun c3 s3 => Jk fun _ => -- out done i
   Do P (vBuiltin .len #[23] 3 [arg0]) fun t4_11 =>
   Do P (V (binOp .lss 3 s3.2.2 t4_11)) fun t5_12 =>
   If t5_12 (
    Jn (α := Value × Value) (fun j6 => Jk fun _ => -- out done
     Do P (V (Instr.indexAt 23 arg0 s3.2.2)) fun t7_32 =>
     Do P (V (Instr.loadAt 30 t7_32)) fun t8_33 =>
     Do P (vBuildSlice 23 1 [(0, t8_33)]) fun t9_34 =>
     Do P (vBuiltin .append #[23, 23] 23 [j6.1, t9_34]) fun t10_35 =>
     Do P (V (binOp .add 3 s3.2.2 (.int .i64 1))) fun t11_14 =>
     c3 (t10_35, j6.2, t11_14)
    ) fun k6 =>
    Jn (α := Value) (fun j12 => Jk fun _ => -- t24
     If j12 (
      Do P (V (Instr.loadAt 30 s1)) fun t13_26 =>
      Do P (vBuildSlice 23 1 [(0, t13_26)]) fun t14_27 =>
      Do P (vBuiltin .append #[23, 23] 23 [s3.1, t14_27]) fun t15_28 =>
      k6 (t15_28, (.bool true))
     ) (
      k6 (s3.1, s3.2.1)
     )
    ) fun k12 =>
    Dr <|
    Qk P (V (Op.unary .not s3.2.1)) fun C16 t16_16 =>
    Gd t16_16 true (
     Qk P (V (Instr.loadAt 30 s1)) fun C17 t17_18 =>
     Qk P (V (Instr.indexAt 23 arg0 s3.2.2)) fun C18 t18_21 =>
     Qk P (V (Instr.loadAt 30 t18_21)) fun C19 t19_22 =>
     Do P (vCall (.func (.func 26) #[] ⟨[]⟩) [t17_18, t19_22]) fun t20_23 =>
     k12 t20_23
    ) (
     k12 (.bool false)
    )
   ) (
    Do P (V (Op.unary .not s3.2.1)) fun t21_37 =>
    If t21_37 (
     Do P (V (Instr.loadAt 30 s1)) fun t22_39 =>
     Do P (vBuildSlice 23 1 [(0, t22_39)]) fun t23_40 =>
     Do P (vBuiltin .append #[23, 23] 23 [s3.1, t23_40]) fun t24_41 =>
     K t24_41
    ) (
     K s3.1
    )
   )
  ) (t2_8, (.bool false), (.int .i64 0))
def A41 : Ann := .s (.n) (.s (.n) (.s (.s (.n) (.lp [5, 6, 7] 68719476448 (.s (.s (.n) (.s (.n) (.n))) (.s (.j [5, 6] 536838240 (.j [24] 33521664 (.plan [(0, 64, 32768), (1, 32768, 65536), (2, 65536, 131072), (4, 131080, 262144), (4, 131073, 524288), (4, 131200, 1048576), (52, 1703936, 2097152), (68, 2228224, 4194304), (140, 4587520, 8388608), (260, 8519680, 16777216)] (.q 0 (.q 1 (.q 2 (.q 3 (.q 4 (.q 5 (.q 6 (.q 7 (.l 8 (.q 9 .done))))))))))) (.s (.n) (.n))) (.n)) (.n))))) (.s (.s (.n) (.s (.n) (.n))) (.s (.n) (.n)))))
set_option maxRecDepth 100000 in
theorem c41 (arg0 arg1 : Value) (K : Value → WP) (w : World) (h : s41 Try.prog arg0 arg1 K w) : Runs Try.prog 41 [arg0, arg1] K w :=
  runs_of_E wide (fn := Try.f41) (c := Try.f41.body.getD .skip) 43 A41 [arg0, arg1] w K Try.func41 (by kernel_rfl) (by kernel_rfl) (by kernel_rfl) (by kernel_rfl)
    (Eq.mp (by kernel_rfl : s41 Try.prog arg0 arg1 K w = E Try.prog (Try.f41.body.getD .skip) A41 (topK Try.prog K Try.f41.results) (fun i => (([arg0, arg1] : List Value)[i]?).getD undef) w) h)
theorem ct41 {arg0 arg1 : Value} {h : Hp} {post : Hp → Value → Prop} (hg : ∀ w0, Gs w0 h h [] (s41 Try.prog arg0 arg1 (RetP w0 h post))) : Ct Try.prog 41 [arg0, arg1] h post := Ct.of (sf := s41 Try.prog arg0 arg1) (c41 arg0 arg1) hg
theorem in41 {arg0 arg1 : Value} {S : WP} {K : Value → WP} (hg : G S (s41 Try.prog arg0 arg1 K)) : G S (Do Try.prog (vCall (.func (.func 41) #[] ⟨[]⟩) [arg0, arg1]) K) := Gs.into (args := [arg0, arg1]) (caps := []) (sf := s41 Try.prog arg0 arg1) (c41 arg0 arg1) hg

/- skewer/loopy.validSpot : names 0 x, 1 s, 2 x, 3 s -/
def s42 (P : Program) (arg0 arg1 : Value) (K : Value → WP) : WP :=
  Do P (V (Instr.box 27 arg0)) fun x1 =>
  Do P (V (Instr.box 30 arg1)) fun s2 =>
  Do P (V (Instr.fieldAt 30 s2 0)) fun t3_5 =>
  Do P (V (Instr.loadAt 3 t3_5)) fun t4_6 =>
  Do P (V (binOp .geq 3 t4_6 (.int .i64 0))) fun t5_7 =>
  Gd t5_7 true (
   Do P (V (Instr.fieldAt 30 s2 0)) fun t6_9 =>
   Do P (V (Instr.loadAt 3 t6_9)) fun t7_10 =>
   Do P (V (Instr.fieldAt 27 x1 0)) fun t8_11 =>
   Do P (V (Instr.loadAt 25 t8_11)) fun t9_12 =>
   Do P (vBuiltin .len #[25] 3 [t9_12]) fun t10_13 =>
   Do P (V (binOp .lss 3 t7_10 t10_13)) fun t11_14 =>
   Gd t11_14 true (
    Do P (V (Instr.fieldAt 30 s2 1)) fun t12_17 =>
    Do P (V (Instr.loadAt 3 t12_17)) fun t13_18 =>
    Do P (V (binOp .geq 3 t13_18 (.int .i64 (-16)))) fun t14_19 =>
    Gd t14_19 true (
     Do P (V (Instr.fieldAt 30 s2 1)) fun t15_22 =>
     Do P (V (Instr.loadAt 3 t15_22)) fun t16_23 =>
     Do P (V (binOp .leq 3 t16_23 (.int .i64 16))) fun t17_24 =>
     Gd t17_24 true (
      Do P (V (Instr.fieldAt 30 s2 2)) fun t18_27 =>
      Do P (V (Instr.loadAt 3 t18_27)) fun t19_28 =>
      Do P (V (EqG .eql 3 (.tmp 28) (.const (.int .i64 0)) t19_28 (.int .i64 0))) fun t20_29 =>
      Gd t20_29 false (
       Do P (V (Instr.fieldAt 30 s2 2)) fun t21_31 =>
       Do P (V (Instr.loadAt 3 t21_31)) fun t22_32 =>
       Do P (V (EqG .eql 3 (.tmp 32) (.const (.int .i64 1)) t22_32 (.int .i64 1))) fun t23_33 =>
       K t23_33
      ) (
       K (.bool true)
      )
     ) (
      K (.bool false)
     )
    ) (
     K (.bool false)
    )
   ) (
    K (.bool false)
   )
  ) (
   K (.bool false)
  )
def A42 : Ann := .s (.n) (.s (.n) (.n))
set_option maxRecDepth 100000 in
theorem c42 (arg0 arg1 : Value) (K : Value → WP) (w : World) (h : s42 Try.prog arg0 arg1 K w) : Runs Try.prog 42 [arg0, arg1] K w :=
  runs_of_E wide (fn := Try.f42) (c := Try.f42.body.getD .skip) 36 A42 [arg0, arg1] w K Try.func42 (by kernel_rfl) (by kernel_rfl) (by kernel_rfl) (by kernel_rfl)
    (Eq.mp (by kernel_rfl : s42 Try.prog arg0 arg1 K w = E Try.prog (Try.f42.body.getD .skip) A42 (topK Try.prog K Try.f42.results) (fun i => (([arg0, arg1] : List Value)[i]?).getD undef) w) h)
theorem ct42 {arg0 arg1 : Value} {h : Hp} {post : Hp → Value → Prop} (hg : ∀ w0, Gs w0 h h [] (s42 Try.prog arg0 arg1 (RetP w0 h post))) : Ct Try.prog 42 [arg0, arg1] h post := Ct.of (sf := s42 Try.prog arg0 arg1) (c42 arg0 arg1) hg
theorem in42 {arg0 arg1 : Value} {S : WP} {K : Value → WP} (hg : G S (s42 Try.prog arg0 arg1 K)) : G S (Do Try.prog (vCall (.func (.func 42) #[] ⟨[]⟩) [arg0, arg1]) K) := Gs.into (args := [arg0, arg1]) (caps := []) (sf := s42 Try.prog arg0 arg1) (c42 arg0 arg1) hg

/- skewer/loopy.moves : names 0 x, 1 s, 2 x, 3 s, 5 options, 6 step, 7 out, 8 _, 9 node -/
def s43 (P : Program) (arg0 arg1 : Value) (K : Value → WP) : WP :=
  Do P (V (Instr.box 27 arg0)) fun x1 =>
  Do P (V (Instr.box 30 arg1)) fun s2 =>
  Do P (V (Instr.fieldAt 27 x1 0)) fun t3_10 =>
  Do P (V (Instr.loadAt 25 t3_10)) fun t4_11 =>
  Do P (V (Instr.fieldAt 30 s2 0)) fun t5_12 =>
  Do P (V (Instr.loadAt 3 t5_12)) fun t6_13 =>
  Do P (V (Instr.indexAt 25 t4_11 t6_13)) fun t7_14 =>
  Do P (V (Instr.loadAt 49 t7_14)) fun t8_15 =>
  Jn (α := Value × Value) (fun j9 => Jk fun _ => -- options step
   Do P (vBuiltin .len #[49] 3 [j9.1]) fun t10_26 =>
   Lp (α := Value × Value) (fun c11 s11 => Jk fun _ => -- out t27
    Do P (V (binOp .lss 3 s11.2 t10_26)) fun t12_28 =>
    If t12_28 (
     Do P (V (Instr.indexAt 49 j9.1 s11.2)) fun t13_29 =>
     Do P (V (Instr.loadAt 3 t13_29)) fun t14_30 =>
     Do P (V (Instr.fieldAt 30 s2 1)) fun t15_33 =>
     Do P (V (Instr.loadAt 3 t15_33)) fun t16_34 =>
     Do P (V (Instr.fieldAt 30 s2 2)) fun t17_35 =>
     Do P (V (Instr.loadAt 3 t17_35)) fun t18_36 =>
     Do P (V (binOp .sub 3 (.int .i64 1) t18_36)) fun t19_37 =>
     Do P (vBuild 30 [(0, t14_30), (1, t16_34), (2, t19_37)]) fun t20_38 =>
     Do P (vBuildSlice 23 1 [(0, t20_38)]) fun t21_39 =>
     Do P (vBuiltin .append #[23, 23] 23 [s11.1, t21_39]) fun t22_40 =>
     Do P (V (binOp .add 3 s11.2 (.int .i64 1))) fun t23_41 =>
     c11 (t22_40, t23_41)
    ) (
     Do P (V (Instr.fieldAt 30 s2 1)) fun t24_42 =>
     Do P (V (Instr.loadAt 3 t24_42)) fun t25_43 =>
     Do P (V (binOp .mul 3 t25_43 j9.2)) fun t26_45 =>
     Do P (V (binOp .gtr 3 t26_45 (.int .i64 0))) fun t27_46 =>
     If t27_46 (
      Do P (V (Instr.fieldAt 30 s2 0)) fun t28_48 =>
      Do P (V (Instr.loadAt 3 t28_48)) fun t29_49 =>
      Do P (V (Instr.fieldAt 30 s2 1)) fun t30_50 =>
      Do P (V (Instr.loadAt 3 t30_50)) fun t31_51 =>
      Do P (V (binOp .sub 3 t31_51 j9.2)) fun t32_53 =>
      Do P (V (Instr.fieldAt 30 s2 2)) fun t33_54 =>
      Do P (V (Instr.loadAt 3 t33_54)) fun t34_55 =>
      Do P (V (binOp .sub 3 (.int .i64 1) t34_55)) fun t35_56 =>
      Do P (vBuild 30 [(0, t29_49), (1, t32_53), (2, t35_56)]) fun t36_57 =>
      Do P (vBuildSlice 23 1 [(0, t36_57)]) fun t37_58 =>
      Do P (vBuiltin .append #[23, 23] 23 [s11.1, t37_58]) fun t38_59 =>
      K t38_59
     ) (
      K s11.1
     )
    )
   ) ((.slice none 0 0), (.int .i64 0))
  ) fun k9 =>
  Do P (V (Instr.fieldAt 30 s2 2)) fun t39_16 =>
  Do P (V (Instr.loadAt 3 t39_16)) fun t40_17 =>
  Do P (V (EqG .eql 3 (.tmp 17) (.const (.int .i64 1)) t40_17 (.int .i64 1))) fun t41_18 =>
  If t41_18 (
   Do P (V (Instr.fieldAt 27 x1 1)) fun t42_19 =>
   Do P (V (Instr.loadAt 25 t42_19)) fun t43_20 =>
   Do P (V (Instr.fieldAt 30 s2 0)) fun t44_21 =>
   Do P (V (Instr.loadAt 3 t44_21)) fun t45_22 =>
   Do P (V (Instr.indexAt 25 t43_20 t45_22)) fun t46_23 =>
   Do P (V (Instr.loadAt 49 t46_23)) fun t47_24 =>
   k9 (t47_24, (.int .i64 (-1)))
  ) (
   k9 (t8_15, (.int .i64 1))
  )
def A43 : Ann := .s (.n) (.s (.n) (.j [5, 6] 33488992 (.s (.n) (.s (.n) (.n))) (.s (.n) (.s (.s (.n) (.lp [7, 27] 4397912294016 (.s (.n) (.s (.s (.n) (.n)) (.s (.s (.n) (.n)) (.n)))))) (.s (.s (.n) (.s (.n) (.n))) (.s (.n) (.n)))))))
set_option maxRecDepth 100000 in
theorem c43 (arg0 arg1 : Value) (K : Value → WP) (w : World) (h : s43 Try.prog arg0 arg1 K w) : Runs Try.prog 43 [arg0, arg1] K w :=
  runs_of_E wide (fn := Try.f43) (c := Try.f43.body.getD .skip) 61 A43 [arg0, arg1] w K Try.func43 (by kernel_rfl) (by kernel_rfl) (by kernel_rfl) (by kernel_rfl)
    (Eq.mp (by kernel_rfl : s43 Try.prog arg0 arg1 K w = E Try.prog (Try.f43.body.getD .skip) A43 (topK Try.prog K Try.f43.results) (fun i => (([arg0, arg1] : List Value)[i]?).getD undef) w) h)
theorem ct43 {arg0 arg1 : Value} {h : Hp} {post : Hp → Value → Prop} (hg : ∀ w0, Gs w0 h h [] (s43 Try.prog arg0 arg1 (RetP w0 h post))) : Ct Try.prog 43 [arg0, arg1] h post := Ct.of (sf := s43 Try.prog arg0 arg1) (c43 arg0 arg1) hg
theorem in43 {arg0 arg1 : Value} {S : WP} {K : Value → WP} (hg : G S (s43 Try.prog arg0 arg1 K)) : G S (Do Try.prog (vCall (.func (.func 43) #[] ⟨[]⟩) [arg0, arg1]) K) := Gs.into (args := [arg0, arg1]) (caps := []) (sf := s43 Try.prog arg0 arg1) (c43 arg0 arg1) hg

/- skewer/loopy.Check$1 : names 0 m, 2 m -/
def s44 (P : Program) (arg0 arg1 : Value) (K : Value → WP) : WP :=
  Do P (V (Instr.box 30 arg0)) fun m1 =>
  Do P (V (Instr.loadAt 82 arg1)) fun t2_4 =>
  Do P (V (Instr.loadAt 30 m1)) fun t3_5 =>
  Do P (V (Instr.lookup 82 t2_4 t3_5 false)) fun t4_6 =>
  K t4_6
def A44 : Ann := .s (.n) (.s (.n) (.n))
set_option maxRecDepth 100000 in
theorem c44 (arg0 arg1 : Value) (K : Value → WP) (w : World) (h : s44 Try.prog arg0 arg1 K w) : Runs Try.prog 44 [arg0, arg1] K w :=
  runs_of_E wide (fn := Try.f44) (c := Try.f44.body.getD .skip) 7 A44 [arg0, arg1] w K Try.func44 (by kernel_rfl) (by kernel_rfl) (by kernel_rfl) (by kernel_rfl)
    (Eq.mp (by kernel_rfl : s44 Try.prog arg0 arg1 K w = E Try.prog (Try.f44.body.getD .skip) A44 (topK Try.prog K Try.f44.results) (fun i => (([arg0, arg1] : List Value)[i]?).getD undef) w) h)
theorem ct44 {arg0 arg1 : Value} {h : Hp} {post : Hp → Value → Prop} (hg : ∀ w0, Gs w0 h h [] (s44 Try.prog arg0 arg1 (RetP w0 h post))) : Ct Try.prog 44 [arg0, arg1] h post := Ct.of (sf := s44 Try.prog arg0 arg1) (c44 arg0 arg1) hg
theorem in44 {arg0 arg1 : Value} {S : WP} {K : Value → WP} (hg : G S (s44 Try.prog arg0 arg1 K)) : G S (Do Try.prog (vCall (.func (.func 44) #[] ⟨[arg1]⟩) [arg0]) K) := Gs.into (args := [arg0]) (caps := [arg1]) (sf := s44 Try.prog arg0 arg1) (c44 arg0 arg1) hg

/- skewer/loopy.Check$2 : names 0 m, 2 m -/
def s45 (P : Program) (arg0 arg1 : Value) (K : Value → WP) : WP :=
  Do P (V (Instr.box 30 arg0)) fun m1 =>
  Do P (V (Instr.loadAt 82 arg1)) fun t2_4 =>
  Do P (V (Instr.loadAt 30 m1)) fun t3_5 =>
  Do P (V (Instr.lookup 82 t2_4 t3_5 false)) fun t4_6 =>
  Do P (V (Op.unary .not t4_6)) fun t5_7 =>
  K t5_7
def A45 : Ann := .s (.n) (.s (.n) (.n))
set_option maxRecDepth 100000 in
theorem c45 (arg0 arg1 : Value) (K : Value → WP) (w : World) (h : s45 Try.prog arg0 arg1 K w) : Runs Try.prog 45 [arg0, arg1] K w :=
  runs_of_E wide (fn := Try.f45) (c := Try.f45.body.getD .skip) 8 A45 [arg0, arg1] w K Try.func45 (by kernel_rfl) (by kernel_rfl) (by kernel_rfl) (by kernel_rfl)
    (Eq.mp (by kernel_rfl : s45 Try.prog arg0 arg1 K w = E Try.prog (Try.f45.body.getD .skip) A45 (topK Try.prog K Try.f45.results) (fun i => (([arg0, arg1] : List Value)[i]?).getD undef) w) h)
theorem ct45 {arg0 arg1 : Value} {h : Hp} {post : Hp → Value → Prop} (hg : ∀ w0, Gs w0 h h [] (s45 Try.prog arg0 arg1 (RetP w0 h post))) : Ct Try.prog 45 [arg0, arg1] h post := Ct.of (sf := s45 Try.prog arg0 arg1) (c45 arg0 arg1) hg
theorem in45 {arg0 arg1 : Value} {S : WP} {K : Value → WP} (hg : G S (s45 Try.prog arg0 arg1 K)) : G S (Do Try.prog (vCall (.func (.func 45) #[] ⟨[arg1]⟩) [arg0]) K) := Gs.into (args := [arg0]) (caps := [arg1]) (sf := s45 Try.prog arg0 arg1) (c45 arg0 arg1) hg

/- slices.ContainsFunc[[]skewer/api.Spot,skewer/api.Spot] : names 0 s, 1 f, 2 s, 3 f -/
def s46 (P : Program) (arg0 arg1 : Value) (K : Value → WP) : WP :=
  Do P (vCall (.func (.func 67) #[] ⟨[]⟩) [arg0, arg1]) fun t1_7 =>
  Do P (V (binOp .geq 3 t1_7 (.int .i64 0))) fun t2_8 =>
  K t2_8
def A46 : Ann := .s (.n) (.s (.n) (.n))
set_option maxRecDepth 100000 in
theorem c46 (arg0 arg1 : Value) (K : Value → WP) (w : World) (h : s46 Try.prog arg0 arg1 K w) : Runs Try.prog 46 [arg0, arg1] K w :=
  runs_of_E wide (fn := Try.f46) (c := Try.f46.body.getD .skip) 9 A46 [arg0, arg1] w K Try.func46 (by kernel_rfl) (by kernel_rfl) (by kernel_rfl) (by kernel_rfl)
    (Eq.mp (by kernel_rfl : s46 Try.prog arg0 arg1 K w = E Try.prog (Try.f46.body.getD .skip) A46 (topK Try.prog K Try.f46.results) (fun i => (([arg0, arg1] : List Value)[i]?).getD undef) w) h)
theorem ct46 {arg0 arg1 : Value} {h : Hp} {post : Hp → Value → Prop} (hg : ∀ w0, Gs w0 h h [] (s46 Try.prog arg0 arg1 (RetP w0 h post))) : Ct Try.prog 46 [arg0, arg1] h post := Ct.of (sf := s46 Try.prog arg0 arg1) (c46 arg0 arg1) hg
theorem in46 {arg0 arg1 : Value} {S : WP} {K : Value → WP} (hg : G S (s46 Try.prog arg0 arg1 K)) : G S (Do Try.prog (vCall (.func (.func 46) #[] ⟨[]⟩) [arg0, arg1]) K) := Gs.into (args := [arg0, arg1]) (caps := []) (sf := s46 Try.prog arg0 arg1) (c46 arg0 arg1) hg

/- skewer/loopy.Bounds : names 0 x, 1 node, 2 x, 3 node, 6 known, 7 lo, 8 hi -/
def s47 (P : Program) (arg0 arg1 : Value) (K : Value → WP) : WP :=
  Do P (V (Instr.box 27 arg0)) fun x1 =>
  Do P (V (Instr.alloc 44 true (.tuple #[]))) fun t2_4 =>
  Do P (V (Instr.loadAt 27 x1)) fun t3_9 =>
  Do P (vCall (.func (.func 23) #[] ⟨[]⟩) [t3_9]) fun t4_10 =>
  Do P (V (Op.unary .not t4_10)) fun t5_11 =>
  If t5_11 (
   Do P (vBuild 44 []) fun t6_12 =>
   Do P (U (Instr.storeAt 44 t2_4 t6_12)) fun t7_x =>
   RetC P 44 t2_4 fun r => K (.tuple #[r, (.int .i64 210)])
  ) (
   Jn (α := Value) (fun j8 => Jk fun _ => -- t21
    If j8 (
     Do P (vBuild 44 []) fun t9_22 =>
     Do P (U (Instr.storeAt 44 t2_4 t9_22)) fun t10_x =>
     RetC P 44 t2_4 fun r => K (.tuple #[r, (.int .i64 1)])
    ) (
     Do P (V (Instr.loadAt 27 x1)) fun t11_23 =>
     Do P (vCall (.func (.func 60) #[] ⟨[]⟩) [t11_23, (.int .i64 8)]) fun t12_24 =>
     Lp (α := Value) (fun c13 s13 => Jk fun _ => -- lo
      Jn (α := Value) (fun j14 => Jk fun _ => -- t35
       If j14 (
        Do P (V (binOp .sub 3 s13 (.int .i64 1))) fun t15_37 =>
        c13 t15_37
       ) (
        Lp (α := Value) (fun c16 s16 => Jk fun _ => -- hi
         Jn (α := Value) (fun j17 => Jk fun _ => -- t48
          If j17 (
           Do P (V (binOp .add 3 s16 (.int .i64 1))) fun t18_50 =>
           c16 t18_50
          ) (
           Do P (vBuild 44 [(0, s13), (1, s16)]) fun t19_53 =>
           Do P (U (Instr.storeAt 44 t2_4 t19_53)) fun t20_x =>
           RetC P 44 t2_4 fun r => K (.tuple #[r, (.int .i64 0)])
          )
         ) fun k17 =>
         Do P (V (binOp .leq 3 s16 (.int .i64 8))) fun t21_39 =>
         Gd t21_39 true (
          Do P (V (Op.unary .neg s16)) fun t22_44 =>
          Do P (vBuild 30 [(0, arg1), (1, t22_44)]) fun t23_45 =>
          Do P (vCall (.func (.func 63) #[] ⟨[]⟩) [t12_24, t23_45, (.int .i64 1)]) fun t24_46 =>
          Do P (V (Op.unary .not t24_46)) fun t25_47 =>
          k17 t25_47
         ) (
          k17 (.bool false)
         )
        ) (.int .i64 (-8))
       )
      ) fun k14 =>
      Do P (V (binOp .geq 3 s13 (.int .i64 (-8)))) fun t26_26 =>
      Gd t26_26 true (
       Do P (V (Op.unary .neg s13)) fun t27_31 =>
       Do P (vBuild 30 [(0, arg1), (1, t27_31), (2, (.int .i64 1))]) fun t28_32 =>
       Do P (vCall (.func (.func 63) #[] ⟨[]⟩) [t12_24, t28_32, (.int .i64 0)]) fun t29_33 =>
       Do P (V (Op.unary .not t29_33)) fun t30_34 =>
       k14 t30_34
      ) (
       k14 (.bool false)
      )
     ) (.int .i64 8)
    )
   ) fun k8 =>
   Do P (V (binOp .lss 3 arg1 (.int .i64 0))) fun t31_14 =>
   Gd t31_14 false (
    Do P (V (Instr.fieldAt 27 x1 0)) fun t32_17 =>
    Do P (V (Instr.loadAt 25 t32_17)) fun t33_18 =>
    Do P (vBuiltin .len #[25] 3 [t33_18]) fun t34_19 =>
    Do P (V (binOp .geq 3 arg1 t34_19)) fun t35_20 =>
    k8 t35_20
   ) (
    k8 (.bool true)
   )
  )
def A47 : Ann := .s (.n) (.s (.s (.n) (.s (.s (.n) (.n)) (.n))) (.s (.j [21] 4186112 (.n) (.s (.s (.n) (.n)) (.n))) (.s (.n) (.s (.n) (.s (.lp [7] 274844352640 (.s (.j [35] 68685922304 (.n) (.s (.n) (.n))) (.n))) (.s (.lp [8] 2251524935778560 (.s (.j [48] 562675075514368 (.n) (.s (.n) (.n))) (.n))) (.s (.n) (.n))))))))
set_option maxRecDepth 100000 in
theorem c47 (arg0 arg1 : Value) (K : Value → WP) (w : World) (h : s47 Try.prog arg0 arg1 K w) : Runs Try.prog 47 [arg0, arg1] K w :=
  runs_of_E wide (fn := Try.f47) (c := Try.f47.body.getD .skip) 54 A47 [arg0, arg1] w K Try.func47 (by kernel_rfl) (by kernel_rfl) (by kernel_rfl) (by kernel_rfl)
    (Eq.mp (by kernel_rfl : s47 Try.prog arg0 arg1 K w = E Try.prog (Try.f47.body.getD .skip) A47 (topK Try.prog K Try.f47.results) (fun i => (([arg0, arg1] : List Value)[i]?).getD undef) w) h)
theorem ct47 {arg0 arg1 : Value} {h : Hp} {post : Hp → Value → Prop} (hg : ∀ w0, Gs w0 h h [] (s47 Try.prog arg0 arg1 (RetP w0 h post))) : Ct Try.prog 47 [arg0, arg1] h post := Ct.of (sf := s47 Try.prog arg0 arg1) (c47 arg0 arg1) hg
theorem in47 {arg0 arg1 : Value} {S : WP} {K : Value → WP} (hg : G S (s47 Try.prog arg0 arg1 K)) : G S (Do Try.prog (vCall (.func (.func 47) #[] ⟨[]⟩) [arg0, arg1]) K) := Gs.into (args := [arg0, arg1]) (caps := []) (sf := s47 Try.prog arg0 arg1) (c47 arg0 arg1) hg

/- skewer/skewerref21.lists : names 0 l, 1 n, 2 l, 3 n, 5 i, 6 k -/
def s48 (P : Program) (arg0 arg1 : Value) (K : Value → WP) : WP :=
  Lp (α := Value) (fun c1 s1 => Jk fun _ => -- i
   Do P (vBuiltin .len #[25] 3 [arg0]) fun t2_9 =>
   Do P (V (binOp .lss 3 s1 t2_9)) fun t3_10 =>
   If t3_10 (
    Do P (V (Instr.indexAt 25 arg0 s1)) fun t4_15 =>
    Do P (V (Instr.loadAt 49 t4_15)) fun t5_16 =>
    Do P (vBuiltin .len #[49] 3 [t5_16]) fun t6_17 =>
    Do P (V (binOp .gtr 3 t6_17 (.int .i64 32))) fun t7_18 =>
    If t7_18 (
     K (.bool false)
    ) (
     Lp (α := Value) (fun c8 s8 => Jk fun _ => -- k
      Do P (V (Instr.indexAt 25 arg0 s1)) fun t9_22 =>
      Do P (V (Instr.loadAt 49 t9_22)) fun t10_23 =>
      Do P (vBuiltin .len #[49] 3 [t10_23]) fun t11_24 =>
      Do P (V (binOp .lss 3 s8 t11_24)) fun t12_25 =>
      If t12_25 (
       Jn (α := Value) (fun j13 => Jk fun _ => -- t46
        If j13 (
         K (.bool false)
        ) (
         Do P (V (binOp .add 3 s8 (.int .i64 1))) fun t14_27 =>
         c8 t14_27
        )
       ) fun k13 =>
       Do P (V (Instr.indexAt 25 arg0 s1)) fun t15_30 =>
       Do P (V (Instr.loadAt 49 t15_30)) fun t16_31 =>
       Do P (V (Instr.indexAt 49 t16_31 s8)) fun t17_33 =>
       Do P (V (Instr.loadAt 3 t17_33)) fun t18_34 =>
       Do P (V (binOp .lss 3 t18_34 (.int .i64 0))) fun t19_35 =>
       Gd t19_35 false (
        Do P (V (Instr.indexAt 25 arg0 s1)) fun t20_39 =>
        Do P (V (Instr.loadAt 49 t20_39)) fun t21_40 =>
        Do P (V (Instr.indexAt 49 t21_40 s8)) fun t22_42 =>
        Do P (V (Instr.loadAt 3 t22_42)) fun t23_43 =>
        Do P (V (binOp .geq 3 t23_43 arg1)) fun t24_45 =>
        k13 t24_45
       ) (
        k13 (.bool true)
       )
      ) (
       Do P (V (binOp .add 3 s1 (.int .i64 1))) fun t25_12 =>
       c1 t25_12
      )
     ) (.int .i64 0)
    )
   ) (
    Do P (vBuiltin .len #[25] 3 [arg0]) fun t26_48 =>
    Do P (V (EqG .eql 3 (.tmp 48) (.tmp 49) t26_48 arg1)) fun t27_50 =>
    K t27_50
   )
  ) (.int .i64 0)
def A48 : Ann := .s (.n) (.s (.s (.n) (.lp [5] 140737488355312 (.s (.s (.n) (.s (.n) (.n))) (.s (.s (.s (.n) (.s (.s (.n) (.n)) (.n))) (.s (.n) (.lp [6] 140737487831120 (.s (.s (.n) (.s (.n) (.n))) (.s (.j [46] 140737219919872 (.n) (.s (.s (.n) (.n)) (.n))) (.n)))))) (.n))))) (.s (.n) (.n)))
set_option maxRecDepth 100000 in
theorem c48 (arg0 arg1 : Value) (K : Value → WP) (w : World) (h : s48 Try.prog arg0 arg1 K w) : Runs Try.prog 48 [arg0, arg1] K w :=
  runs_of_E wide (fn := Try.f48) (c := Try.f48.body.getD .skip) 51 A48 [arg0, arg1] w K Try.func48 (by kernel_rfl) (by kernel_rfl) (by kernel_rfl) (by kernel_rfl)
    (Eq.mp (by kernel_rfl : s48 Try.prog arg0 arg1 K w = E Try.prog (Try.f48.body.getD .skip) A48 (topK Try.prog K Try.f48.results) (fun i => (([arg0, arg1] : List Value)[i]?).getD undef) w) h)
theorem ct48 {arg0 arg1 : Value} {h : Hp} {post : Hp → Value → Prop} (hg : ∀ w0, Gs w0 h h [] (s48 Try.prog arg0 arg1 (RetP w0 h post))) : Ct Try.prog 48 [arg0, arg1] h post := Ct.of (sf := s48 Try.prog arg0 arg1) (c48 arg0 arg1) hg
theorem in48 {arg0 arg1 : Value} {S : WP} {K : Value → WP} (hg : G S (s48 Try.prog arg0 arg1 K)) : G S (Do Try.prog (vCall (.func (.func 48) #[] ⟨[]⟩) [arg0, arg1]) K) := Gs.into (args := [arg0, arg1]) (caps := []) (sf := s48 Try.prog arg0 arg1) (c48 arg0 arg1) hg

/- skewer/loopy.Valid$1 : names 0 l, 2 l -/
def s49 (P : Program) (arg0 arg1 : Value) (K : Value → WP) : WP :=
  Do P (vBuiltin .len #[49] 3 [arg0]) fun t1_5 =>
  Do P (V (binOp .gtr 3 t1_5 (.int .i64 32))) fun t2_6 =>
  Gd t2_6 false (
   Do P (vCall (.func (.func 50) #[] ⟨[]⟩) [arg0, (.func (.func 51) #[] ⟨[arg1]⟩)]) fun t3_10 =>
   K t3_10
  ) (
   K (.bool true)
  )
def A49 : Ann := .s (.n) (.s (.n) (.n))
set_option maxRecDepth 100000 in
theorem c49 (arg0 arg1 : Value) (K : Value → WP) (w : World) (h : s49 Try.prog arg0 arg1 K w) : Runs Try.prog 49 [arg0, arg1] K w :=
  runs_of_E wide (fn := Try.f49) (c := Try.f49.body.getD .skip) 12 A49 [arg0, arg1] w K Try.func49 (by kernel_rfl) (by kernel_rfl) (by kernel_rfl) (by kernel_rfl)
    (Eq.mp (by kernel_rfl : s49 Try.prog arg0 arg1 K w = E Try.prog (Try.f49.body.getD .skip) A49 (topK Try.prog K Try.f49.results) (fun i => (([arg0, arg1] : List Value)[i]?).getD undef) w) h)
theorem ct49 {arg0 arg1 : Value} {h : Hp} {post : Hp → Value → Prop} (hg : ∀ w0, Gs w0 h h [] (s49 Try.prog arg0 arg1 (RetP w0 h post))) : Ct Try.prog 49 [arg0, arg1] h post := Ct.of (sf := s49 Try.prog arg0 arg1) (c49 arg0 arg1) hg
theorem in49 {arg0 arg1 : Value} {S : WP} {K : Value → WP} (hg : G S (s49 Try.prog arg0 arg1 K)) : G S (Do Try.prog (vCall (.func (.func 49) #[] ⟨[arg1]⟩) [arg0]) K) := Gs.into (args := [arg0]) (caps := [arg1]) (sf := s49 Try.prog arg0 arg1) (c49 arg0 arg1) hg

/- slices.ContainsFunc[[]int,int] : names 0 s, 1 f, 2 s, 3 f -/
def s50 (P : Program) (arg0 arg1 : Value) (K : Value → WP) : WP :=
  Do P (vCall (.func (.func 68) #[] ⟨[]⟩) [arg0, arg1]) fun t1_7 =>
  Do P (V (binOp .geq 3 t1_7 (.int .i64 0))) fun t2_8 =>
  K t2_8
def A50 : Ann := .s (.n) (.s (.n) (.n))
set_option maxRecDepth 100000 in
theorem c50 (arg0 arg1 : Value) (K : Value → WP) (w : World) (h : s50 Try.prog arg0 arg1 K w) : Runs Try.prog 50 [arg0, arg1] K w :=
  runs_of_E wide (fn := Try.f50) (c := Try.f50.body.getD .skip) 9 A50 [arg0, arg1] w K Try.func50 (by kernel_rfl) (by kernel_rfl) (by kernel_rfl) (by kernel_rfl)
    (Eq.mp (by kernel_rfl : s50 Try.prog arg0 arg1 K w = E Try.prog (Try.f50.body.getD .skip) A50 (topK Try.prog K Try.f50.results) (fun i => (([arg0, arg1] : List Value)[i]?).getD undef) w) h)
theorem ct50 {arg0 arg1 : Value} {h : Hp} {post : Hp → Value → Prop} (hg : ∀ w0, Gs w0 h h [] (s50 Try.prog arg0 arg1 (RetP w0 h post))) : Ct Try.prog 50 [arg0, arg1] h post := Ct.of (sf := s50 Try.prog arg0 arg1) (c50 arg0 arg1) hg
theorem in50 {arg0 arg1 : Value} {S : WP} {K : Value → WP} (hg : G S (s50 Try.prog arg0 arg1 K)) : G S (Do Try.prog (vCall (.func (.func 50) #[] ⟨[]⟩) [arg0, arg1]) K) := Gs.into (args := [arg0, arg1]) (caps := []) (sf := s50 Try.prog arg0 arg1) (c50 arg0 arg1) hg

/- skewer/loopy.Valid$1$1 : names 0 i, 2 i -/
def s51 (P : Program) (arg0 arg1 : Value) (K : Value → WP) : WP :=
  Do P (V (binOp .lss 3 arg0 (.int .i64 0))) fun t1_5 =>
  Gd t1_5 false (
   Do P (V (Instr.loadAt 3 arg1)) fun t2_8 =>
   Do P (V (binOp .geq 3 arg0 t2_8)) fun t3_9 =>
   K t3_9
  ) (
   K (.bool true)
  )
def A51 : Ann := .s (.n) (.s (.n) (.n))
set_option maxRecDepth 100000 in
theorem c51 (arg0 arg1 : Value) (K : Value → WP) (w : World) (h : s51 Try.prog arg0 arg1 K w) : Runs Try.prog 51 [arg0, arg1] K w :=
  runs_of_E wide (fn := Try.f51) (c := Try.f51.body.getD .skip) 11 A51 [arg0, arg1] w K Try.func51 (by kernel_rfl) (by kernel_rfl) (by kernel_rfl) (by kernel_rfl)
    (Eq.mp (by kernel_rfl : s51 Try.prog arg0 arg1 K w = E Try.prog (Try.f51.body.getD .skip) A51 (topK Try.prog K Try.f51.results) (fun i => (([arg0, arg1] : List Value)[i]?).getD undef) w) h)
theorem ct51 {arg0 arg1 : Value} {h : Hp} {post : Hp → Value → Prop} (hg : ∀ w0, Gs w0 h h [] (s51 Try.prog arg0 arg1 (RetP w0 h post))) : Ct Try.prog 51 [arg0, arg1] h post := Ct.of (sf := s51 Try.prog arg0 arg1) (c51 arg0 arg1) hg
theorem in51 {arg0 arg1 : Value} {S : WP} {K : Value → WP} (hg : G S (s51 Try.prog arg0 arg1 K)) : G S (Do Try.prog (vCall (.func (.func 51) #[] ⟨[arg1]⟩) [arg0]) K) := Gs.into (args := [arg0]) (caps := [arg1]) (sf := s51 Try.prog arg0 arg1) (c51 arg0 arg1) hg

/- slices.ContainsFunc[[][]int,[]int] : names 0 s, 1 f, 2 s, 3 f -/
def s52 (P : Program) (arg0 arg1 : Value) (K : Value → WP) : WP :=
  Do P (vCall (.func (.func 69) #[] ⟨[]⟩) [arg0, arg1]) fun t1_7 =>
  Do P (V (binOp .geq 3 t1_7 (.int .i64 0))) fun t2_8 =>
  K t2_8
def A52 : Ann := .s (.n) (.s (.n) (.n))
set_option maxRecDepth 100000 in
theorem c52 (arg0 arg1 : Value) (K : Value → WP) (w : World) (h : s52 Try.prog arg0 arg1 K w) : Runs Try.prog 52 [arg0, arg1] K w :=
  runs_of_E wide (fn := Try.f52) (c := Try.f52.body.getD .skip) 9 A52 [arg0, arg1] w K Try.func52 (by kernel_rfl) (by kernel_rfl) (by kernel_rfl) (by kernel_rfl)
    (Eq.mp (by kernel_rfl : s52 Try.prog arg0 arg1 K w = E Try.prog (Try.f52.body.getD .skip) A52 (topK Try.prog K Try.f52.results) (fun i => (([arg0, arg1] : List Value)[i]?).getD undef) w) h)
theorem ct52 {arg0 arg1 : Value} {h : Hp} {post : Hp → Value → Prop} (hg : ∀ w0, Gs w0 h h [] (s52 Try.prog arg0 arg1 (RetP w0 h post))) : Ct Try.prog 52 [arg0, arg1] h post := Ct.of (sf := s52 Try.prog arg0 arg1) (c52 arg0 arg1) hg
theorem in52 {arg0 arg1 : Value} {S : WP} {K : Value → WP} (hg : G S (s52 Try.prog arg0 arg1 K)) : G S (Do Try.prog (vCall (.func (.func 52) #[] ⟨[]⟩) [arg0, arg1]) K) := Gs.into (args := [arg0, arg1]) (caps := []) (sf := s52 Try.prog arg0 arg1) (c52 arg0 arg1) hg

/- skewer/loopy.result : names 0 known, 1 s, 2 known, 3 s, 5 k -/
def s59 (P : Program) (arg0 arg1 : Value) (K : Value → WP) : WP :=
  Do P (V (Instr.box 30 arg1)) fun s1 =>
  Do P (V (Instr.loadAt 30 s1)) fun t2_7 =>
  Do P (V (Instr.lookup 102 arg0 t2_7 false)) fun t3_8 =>
  Do P (V (EqG .eql 3 (.tmp 11) (.const (.int .i64 0)) t3_8 (.int .i64 0))) fun t4_12 =>
  If t4_12 (
   K (.int .i64 2)
  ) (
   Do P (V (Instr.fieldAt 30 s1 2)) fun t5_14 =>
   Do P (V (Instr.loadAt 3 t5_14)) fun t6_15 =>
   Do P (V (EqG .eql 3 (.tmp 15) (.const (.int .i64 1)) t6_15 (.int .i64 1))) fun t7_16 =>
   If t7_16 (
    Do P (V (binOp .sub 3 (.int .i64 4) t3_8)) fun t8_18 =>
    K t8_18
   ) (
    K t3_8
   )
  )
def A59 : Ann := .s (.n) (.s (.n) (.s (.n) (.s (.s (.n) (.n)) (.s (.n) (.s (.s (.n) (.n)) (.s (.n) (.n)))))))
set_option maxRecDepth 100000 in
theorem c59 (arg0 arg1 : Value) (K : Value → WP) (w : World) (h : s59 Try.prog arg0 arg1 K w) : Runs Try.prog 59 [arg0, arg1] K w :=
  runs_of_E wide (fn := Try.f59) (c := Try.f59.body.getD .skip) 19 A59 [arg0, arg1] w K Try.func59 (by kernel_rfl) (by kernel_rfl) (by kernel_rfl) (by kernel_rfl)
    (Eq.mp (by kernel_rfl : s59 Try.prog arg0 arg1 K w = E Try.prog (Try.f59.body.getD .skip) A59 (topK Try.prog K Try.f59.results) (fun i => (([arg0, arg1] : List Value)[i]?).getD undef) w) h)
theorem ct59 {arg0 arg1 : Value} {h : Hp} {post : Hp → Value → Prop} (hg : ∀ w0, Gs w0 h h [] (s59 Try.prog arg0 arg1 (RetP w0 h post))) : Ct Try.prog 59 [arg0, arg1] h post := Ct.of (sf := s59 Try.prog arg0 arg1) (c59 arg0 arg1) hg
theorem in59 {arg0 arg1 : Value} {S : WP} {K : Value → WP} (hg : G S (s59 Try.prog arg0 arg1 K)) : G S (Do Try.prog (vCall (.func (.func 59) #[] ⟨[]⟩) [arg0, arg1]) K) := Gs.into (args := [arg0, arg1]) (caps := []) (sf := s59 Try.prog arg0 arg1) (c59 arg0 arg1) hg

/- skewer/loopy.results : names 0 x, 1 n, 2 x, 3 n, 5 before, 6 left, 7 out, 8 work, 9 decide, 10 node, 11 k, 12 who, 13 s, 14 l, 15 _, 16 m, 17 s, 18 _, 19 b -/
def s60 (P : Program) (arg0 arg1 : Value) (K : Value → WP) : WP :=
  Do P (V (Instr.box 27 arg0)) fun x1 =>
  Do P (V (Instr.makeMap 141 none)) fun t2_20 =>
  Do P (V (Instr.makeMap 102 none)) fun t3_21 =>
  Do P (V (Instr.makeMap 102 none)) fun t4_22 =>
  Do P (V (Instr.alloc 102 true (.tuple #[]))) fun out5 =>
  Do P (U (Instr.storeAt 102 out5 t4_22)) fun t6_x =>
  Do P (V (Instr.alloc 23 true (.tuple #[]))) fun work7 =>
  Do P (V (Instr.fieldAt 27 x1 0)) fun t8_24 =>
  Do P (V (Instr.loadAt 25 t8_24)) fun t9_25 =>
  Do P (vBuiltin .len #[25] 3 [t9_25]) fun t10_26 =>
  Lp (α := Value) (fun c11 s11 => Jk fun _ => -- t27
   Do P (V (binOp .lss 3 s11 t10_26)) fun t12_28 =>
   If t12_28 (
    Do P (V (Op.unary .neg arg1)) fun t13_31 =>
    Lp (α := Value) (fun c14 s14 => Jk fun _ => -- k
     Do P (V (binOp .leq 3 s14 arg1)) fun t15_34 =>
     If t15_34 (
      Lp (α := Value) (fun c16 s16 => Jk fun _ => -- t37
       Do P (V (binOp .lss 3 s16 (.int .i64 2))) fun t17_38 =>
       If t17_38 (
        Jn (α := Unit) (fun j18 => Jk fun _ => -- 
         Do P (V (binOp .add 3 s16 (.int .i64 1))) fun t19_72 =>
         c16 t19_72
        ) fun k18 =>
        Do P (vBuild 30 [(0, s11), (1, s14), (2, s16)]) fun t20_43 =>
        Do P (V (Instr.alloc 30 true (.tuple #[]))) fun s21 =>
        Do P (U (Instr.storeAt 30 s21 t20_43)) fun t22_x =>
        Do P (V (Instr.loadAt 27 x1)) fun t23_44 =>
        Do P (V (Instr.loadAt 30 s21)) fun t24_45 =>
        Do P (vCall (.func (.func 43) #[] ⟨[]⟩) [t23_44, t24_45]) fun t25_46 =>
        Do P (V (Instr.loadAt 30 s21)) fun t26_48 =>
        Do P (vBuiltin .len #[23] 3 [t25_46]) fun t27_50 =>
        Do P (U (Instr.mapUpdate 102 t3_21 t26_48 t27_50)) fun t28_x =>
        Do P (vBuiltin .len #[23] 3 [t25_46]) fun t29_52 =>
        Lp (α := Value) (fun c30 s30 => Jk fun _ => -- t53
         Do P (V (binOp .lss 3 s30 t29_52)) fun t31_54 =>
         If t31_54 (
          Do P (V (Instr.indexAt 23 t25_46 s30)) fun t32_55 =>
          Do P (V (Instr.loadAt 30 t32_55)) fun t33_56 =>
          Do P (V (Instr.alloc 30 true (.tuple #[]))) fun m34 =>
          Do P (U (Instr.storeAt 30 m34 t33_56)) fun t35_x =>
          Do P (V (Instr.loadAt 30 m34)) fun t36_58 =>
          Do P (V (Instr.loadAt 30 s21)) fun t37_60 =>
          Do P (vBuildSlice 23 1 [(0, t37_60)]) fun t38_61 =>
          Do P (V (Instr.mapEntry 141 t2_20 t36_58)) fun t39_62 =>
          Do P (V (Instr.extract t39_62 0)) fun t40_59 =>
          Do P (vBuiltin .append #[23, 23] 23 [t40_59, t38_61]) fun t41_63 =>
          Do P (V (Instr.extract t39_62 1)) fun t42_64 =>
          Do P (U (Instr.entryStore 141 t2_20 t42_64 t41_63)) fun t43_x =>
          Do P (V (binOp .add 3 s30 (.int .i64 1))) fun t44_65 =>
          c30 t44_65
         ) (
          Do P (vBuiltin .len #[23] 3 [t25_46]) fun t45_67 =>
          Do P (V (EqG .eql 3 (.tmp 67) (.const (.int .i64 0)) t45_67 (.int .i64 0))) fun t46_68 =>
          If t46_68 (
           Do P (V (Instr.loadAt 30 s21)) fun t47_70 =>
           Do P (vCall (.func (.func 79) #[] ⟨[out5, work7]⟩) [t47_70, (.int .i64 3)]) fun t48_71 =>
           k18 ()
          ) (
           k18 ()
          )
         )
        ) (.int .i64 0)
       ) (
        Do P (V (binOp .add 3 s14 (.int .i64 1))) fun t49_36 =>
        c14 t49_36
       )
      ) (.int .i64 0)
     ) (
      Do P (V (binOp .add 3 s11 (.int .i64 1))) fun t50_73 =>
      c11 t50_73
     )
    ) t13_31
   ) (
    Lp (α := Unit) (fun c51 s51 => Jk fun _ => -- 
     Do P (V (Instr.loadAt 23 work7)) fun t52_74 =>
     Do P (vBuiltin .len #[23] 3 [t52_74]) fun t53_75 =>
     Do P (V (binOp .gtr 3 t53_75 (.int .i64 0))) fun t54_76 =>
     If t54_76 (
      Do P (V (Instr.loadAt 23 work7)) fun t55_77 =>
      Do P (V (Instr.indexAt 23 t55_77 (.int .i64 0))) fun t56_78 =>
      Do P (V (Instr.loadAt 30 t56_78)) fun t57_79 =>
      Do P (V (Instr.alloc 30 true (.tuple #[]))) fun s58 =>
      Do P (U (Instr.storeAt 30 s58 t57_79)) fun t59_x =>
      Do P (V (Instr.loadAt 23 work7)) fun t60_80 =>
      Do P (V (Instr.sliceAt 23 t60_80 (some (.int .i64 1)) none none)) fun t61_81 =>
      Do P (U (Instr.storeAt 23 work7 t61_81)) fun t62_x =>
      Do P (V (Instr.loadAt 30 s58)) fun t63_83 =>
      Do P (V (Instr.lookup 141 t2_20 t63_83 false)) fun t64_84 =>
      Do P (vBuiltin .len #[23] 3 [t64_84]) fun t65_85 =>
      Lp (α := Value) (fun c66 s66 => Jk fun _ => -- t86
       Do P (V (binOp .lss 3 s66 t65_85)) fun t67_87 =>
       If t67_87 (
        Jn (α := Unit) (fun j68 => Jk fun _ => -- 
         Do P (V (binOp .add 3 s66 (.int .i64 1))) fun t69_112 =>
         c66 t69_112
        ) fun k68 =>
        Do P (V (Instr.indexAt 23 t64_84 s66)) fun t70_88 =>
        Do P (V (Instr.loadAt 30 t70_88)) fun t71_89 =>
        Do P (V (Instr.alloc 30 true (.tuple #[]))) fun b72 =>
        Do P (U (Instr.storeAt 30 b72 t71_89)) fun t73_x =>
        Dr <|
        Qk P (V (Instr.loadAt 30 b72)) fun C74 t74_91 =>
        Qk P (V (Instr.lookup 102 t3_21 t74_91 false)) fun C75 t75_92 =>
        Qk P (V (binOp .sub 3 t75_92 (.int .i64 1))) fun C76 t76_93 =>
        Do P (V (Instr.mapEntry 102 t3_21 t74_91)) fun t77_94 =>
        With C76 <|
        With C75 <|
        Qk P (V (Instr.extract t77_94 1)) fun C78 t78_95 =>
        Do P (U (Instr.entryStore 102 t3_21 t78_95 t76_93)) fun t79_x =>
        Do P (V (Instr.loadAt 102 out5)) fun t80_97 =>
        Do P (V (Instr.loadAt 30 s58)) fun t81_98 =>
        Do P (V (Instr.lookup 102 t80_97 t81_98 false)) fun t82_99 =>
        Do P (V (EqG .eql 3 (.tmp 99) (.const (.int .i64 3)) t82_99 (.int .i64 3))) fun t83_100 =>
        If t83_100 (
         Do P (V (Instr.loadAt 30 b72)) fun t84_102 =>
         Do P (vCall (.func (.func 79) #[] ⟨[out5, work7]⟩) [t84_102, (.int .i64 1)]) fun t85_103 =>
         k68 ()
        ) (
         Do P (V (Instr.loadAt 30 b72)) fun t86_106 =>
         Do P (V (Instr.lookup 102 t3_21 t86_106 false)) fun t87_107 =>
         Do P (V (EqG .eql 3 (.tmp 107) (.const (.int .i64 0)) t87_107 (.int .i64 0))) fun t88_108 =>
         If t88_108 (
          Do P (V (Instr.loadAt 30 b72)) fun t89_110 =>
          Do P (vCall (.func (.func 79) #[] ⟨[out5, work7]⟩) [t89_110, (.int .i64 3)]) fun t90_111 =>
          k68 ()
         ) (
          k68 ()
         )
        )
       ) (
        c51 ()
       )
      ) (.int .i64 0)
     ) (
      Do P (V (Instr.loadAt 102 out5)) fun t91_113 =>
      K t91_113
     )
    ) ()
   )
  ) (.int .i64 0)
def A60 : Ann := .s (.n) (.s (.n) (.s (.n) (.s (.n) (.s (.n) (.s (.s (.n) (.lp [27] 18889465931478446734336 (.s (.n) (.s (.s (.n) (.n)) (.s (.s (.n) (.s (.n) (.lp [11] 9444732965734995556352 (.s (.s (.n) (.s (.n) (.n))) (.s (.s (.n) (.lp [37] 9444732965601851568128 (.s (.n) (.s (.s (.n) (.n)) (.j [] 4722366482319889494016 (.s (.n) (.s (.n) (.s (.n) (.s (.n) (.s (.s (.n) (.lp [53] 73777969095583531008 (.s (.n) (.s (.s (.n) (.n)) (.s (.s (.n) (.n)) (.n)))))) (.s (.n) (.s (.n) (.n)))))))) (.n)))))) (.n)))))) (.n)))))) (.s (.lp [] 10384593717050765791129514078240768 (.s (.s (.n) (.s (.n) (.n))) (.s (.n) (.s (.n) (.s (.n) (.lp [86] 10384593639698402801724725477769216 (.s (.n) (.s (.s (.n) (.n)) (.j [] 5192296549049817807185427604963328 (.s (.n) (.s (.plan [(0, 64, 1237940039285380274899124224), (0, 524288, 2475880078570760549798248448), (3, 3713820117856140824697372672, 4951760157141521099596496896), (4, 4951760157141521099596496896, 9903520314283042199192993792), (3, 3713820117856140824697372672, 19807040628566084398385987584), (16, 19807040628566084398385987584, 39614081257132168796771975168), (63, 50755541610700591270864093184, 0)] (.q 0 (.q 1 (.q 2 (.q 3 (.l 4 (.q 5 (.l 6 .done)))))))) (.s (.n) (.s (.n) (.s (.n) (.s (.n) (.n))))))) (.n)))))))))) (.s (.n) (.n))))))))
set_option maxRecDepth 100000 in
theorem c60 (arg0 arg1 : Value) (K : Value → WP) (w : World) (h : s60 Try.prog arg0 arg1 K w) : Runs Try.prog 60 [arg0, arg1] K w :=
  runs_of_E wide (fn := Try.f60) (c := Try.f60.body.getD .skip) 114 A60 [arg0, arg1] w K Try.func60 (by kernel_rfl) (by kernel_rfl) (by kernel_rfl) (by kernel_rfl)
    (Eq.mp (by kernel_rfl : s60 Try.prog arg0 arg1 K w = E Try.prog (Try.f60.body.getD .skip) A60 (topK Try.prog K Try.f60.results) (fun i => (([arg0, arg1] : List Value)[i]?).getD undef) w) h)
theorem ct60 {arg0 arg1 : Value} {h : Hp} {post : Hp → Value → Prop} (hg : ∀ w0, Gs w0 h h [] (s60 Try.prog arg0 arg1 (RetP w0 h post))) : Ct Try.prog 60 [arg0, arg1] h post := Ct.of (sf := s60 Try.prog arg0 arg1) (c60 arg0 arg1) hg
theorem in60 {arg0 arg1 : Value} {S : WP} {K : Value → WP} (hg : G S (s60 Try.prog arg0 arg1 K)) : G S (Do Try.prog (vCall (.func (.func 60) #[] ⟨[]⟩) [arg0, arg1]) K) := Gs.into (args := [arg0, arg1]) (caps := []) (sf := s60 Try.prog arg0 arg1) (c60 arg0 arg1) hg

/- skewer/skewerref21.index : names 0 s, 1 free, 2 s, 3 free -/
def s61 (P : Program) (arg0 arg1 : Value) (K : Value → WP) : WP :=
  Do P (V (Instr.box 30 arg0)) fun s1 =>
  Do P (V (Instr.fieldAt 30 s1 0)) fun t2_5 =>
  Do P (V (Instr.loadAt 3 t2_5)) fun t3_6 =>
  Do P (V (binOp .mul 3 (.int .i64 2) arg1)) fun t4_8 =>
  Do P (V (binOp .add 3 t4_8 (.int .i64 1))) fun t5_9 =>
  Do P (V (binOp .mul 3 t3_6 t5_9)) fun t6_10 =>
  Do P (V (Instr.fieldAt 30 s1 1)) fun t7_11 =>
  Do P (V (Instr.loadAt 3 t7_11)) fun t8_12 =>
  Do P (V (binOp .add 3 t6_10 t8_12)) fun t9_13 =>
  Do P (V (binOp .add 3 t9_13 arg1)) fun t10_15 =>
  Do P (V (binOp .mul 3 t10_15 (.int .i64 2))) fun t11_16 =>
  Do P (V (Instr.fieldAt 30 s1 2)) fun t12_17 =>
  Do P (V (Instr.loadAt 3 t12_17)) fun t13_18 =>
  Do P (V (binOp .add 3 t11_16 t13_18)) fun t14_19 =>
  K t14_19
def A61 : Ann := .s (.n) (.s (.n) (.n))
set_option maxRecDepth 100000 in
theorem c61 (arg0 arg1 : Value) (K : Value → WP) (w : World) (h : s61 Try.prog arg0 arg1 K w) : Runs Try.prog 61 [arg0, arg1] K w :=
  runs_of_E wide (fn := Try.f61) (c := Try.f61.body.getD .skip) 20 A61 [arg0, arg1] w K Try.func61 (by kernel_rfl) (by kernel_rfl) (by kernel_rfl) (by kernel_rfl)
    (Eq.mp (by kernel_rfl : s61 Try.prog arg0 arg1 K w = E Try.prog (Try.f61.body.getD .skip) A61 (topK Try.prog K Try.f61.results) (fun i => (([arg0, arg1] : List Value)[i]?).getD undef) w) h)
theorem ct61 {arg0 arg1 : Value} {h : Hp} {post : Hp → Value → Prop} (hg : ∀ w0, Gs w0 h h [] (s61 Try.prog arg0 arg1 (RetP w0 h post))) : Ct Try.prog 61 [arg0, arg1] h post := Ct.of (sf := s61 Try.prog arg0 arg1) (c61 arg0 arg1) hg
theorem in61 {arg0 arg1 : Value} {S : WP} {K : Value → WP} (hg : G S (s61 Try.prog arg0 arg1 K)) : G S (Do Try.prog (vCall (.func (.func 61) #[] ⟨[]⟩) [arg0, arg1]) K) := Gs.into (args := [arg0, arg1]) (caps := []) (sf := s61 Try.prog arg0 arg1) (c61 arg0 arg1) hg

/- skewer/skewerref21.best : names 0 l, 1 known, 2 free, 3 l, 4 known, 5 free, 7 r, 8 i, 9 k -/
def s62 (P : Program) (arg0 arg1 arg2 : Value) (K : Value → WP) : WP :=
  Lp (α := Value × Value) (fun c1 s1 => Jk fun _ => -- r i
   Do P (vBuiltin .len #[23] 3 [arg0]) fun t2_12 =>
   Do P (V (binOp .lss 3 s1.2 t2_12)) fun t3_13 =>
   If t3_13 (
    Jn (α := Value) (fun j4 => Jk fun _ => -- r
     Do P (V (binOp .add 3 s1.2 (.int .i64 1))) fun t5_15 =>
     c1 (j4, t5_15)
    ) fun k4 =>
    Do P (V (Instr.indexAt 23 arg0 s1.2)) fun t6_19 =>
    Do P (V (Instr.loadAt 30 t6_19)) fun t7_20 =>
    Do P (vCall (.func (.func 61) #[] ⟨[]⟩) [t7_20, arg2]) fun t8_22 =>
    Do P (V (Instr.indexAt 49 arg1 t8_22)) fun t9_23 =>
    Do P (V (Instr.loadAt 3 t9_23)) fun t10_24 =>
    Do P (V (EqG .eql 3 (.tmp 25) (.const (.int .i64 3)) t10_24 (.int .i64 3))) fun t11_26 =>
    If t11_26 (
     K (.int .i64 1)
    ) (
     Do P (V (EqG .neq 3 (.tmp 27) (.const (.int .i64 1)) t10_24 (.int .i64 1))) fun t12_28 =>
     If t12_28 (
      k4 (.int .i64 0)
     ) (
      k4 s1.1
     )
    )
   ) (
    K s1.1
   )
  ) ((.int .i64 3), (.int .i64 0))
def A62 : Ann := .s (.n) (.s (.n) (.s (.s (.n) (.lp [7, 8] 536870848 (.s (.s (.n) (.s (.n) (.n))) (.j [7] 536806080 (.s (.n) (.s (.s (.n) (.s (.s (.n) (.n)) (.n))) (.s (.n) (.s (.n) (.n))))) (.n))))) (.s (.n) (.n))))
set_option maxRecDepth 100000 in
theorem c62 (arg0 arg1 arg2 : Value) (K : Value → WP) (w : World) (h : s62 Try.prog arg0 arg1 arg2 K w) : Runs Try.prog 62 [arg0, arg1, arg2] K w :=
  runs_of_E wide (fn := Try.f62) (c := Try.f62.body.getD .skip) 30 A62 [arg0, arg1, arg2] w K Try.func62 (by kernel_rfl) (by kernel_rfl) (by kernel_rfl) (by kernel_rfl)
    (Eq.mp (by kernel_rfl : s62 Try.prog arg0 arg1 arg2 K w = E Try.prog (Try.f62.body.getD .skip) A62 (topK Try.prog K Try.f62.results) (fun i => (([arg0, arg1, arg2] : List Value)[i]?).getD undef) w) h)
theorem ct62 {arg0 arg1 arg2 : Value} {h : Hp} {post : Hp → Value → Prop} (hg : ∀ w0, Gs w0 h h [] (s62 Try.prog arg0 arg1 arg2 (RetP w0 h post))) : Ct Try.prog 62 [arg0, arg1, arg2] h post := Ct.of (sf := s62 Try.prog arg0 arg1 arg2) (c62 arg0 arg1 arg2) hg
theorem in62 {arg0 arg1 arg2 : Value} {S : WP} {K : Value → WP} (hg : G S (s62 Try.prog arg0 arg1 arg2 K)) : G S (Do Try.prog (vCall (.func (.func 62) #[] ⟨[]⟩) [arg0, arg1, arg2]) K) := Gs.into (args := [arg0, arg1, arg2]) (caps := []) (sf := s62 Try.prog arg0 arg1 arg2) (c62 arg0 arg1 arg2) hg

/- skewer/loopy.holds : names 0 known, 1 s, 2 side, 3 known, 4 s, 5 side, 7 lost -/
def s63 (P : Program) (arg0 arg1 arg2 : Value) (K : Value → WP) : WP :=
  Do P (V (Instr.box 30 arg1)) fun s1 =>
  Jn (α := Value) (fun j2 => Jk fun _ => -- lost
   Do P (V (Instr.loadAt 30 s1)) fun t3_11 =>
   Do P (vCall (.func (.func 59) #[] ⟨[]⟩) [arg0, t3_11]) fun t4_12 =>
   Do P (V (EqG .neq 3 (.tmp 12) (.tmp 13) t4_12 j2)) fun t5_14 =>
   K t5_14
  ) fun k2 =>
  Do P (V (EqG .eql 3 (.tmp 8) (.const (.int .i64 1)) arg2 (.int .i64 1))) fun t6_9 =>
  If t6_9 (
   k2 (.int .i64 1)
  ) (
   k2 (.int .i64 3)
  )
def A63 : Ann := .s (.n) (.s (.n) (.j [7] 896 (.s (.n) (.s (.n) (.n))) (.s (.n) (.n))))
set_option maxRecDepth 100000 in
theorem c63 (arg0 arg1 arg2 : Value) (K : Value → WP) (w : World) (h : s63 Try.prog arg0 arg1 arg2 K w) : Runs Try.prog 63 [arg0, arg1, arg2] K w :=
  runs_of_E wide (fn := Try.f63) (c := Try.f63.body.getD .skip) 15 A63 [arg0, arg1, arg2] w K Try.func63 (by kernel_rfl) (by kernel_rfl) (by kernel_rfl) (by kernel_rfl)
    (Eq.mp (by kernel_rfl : s63 Try.prog arg0 arg1 arg2 K w = E Try.prog (Try.f63.body.getD .skip) A63 (topK Try.prog K Try.f63.results) (fun i => (([arg0, arg1, arg2] : List Value)[i]?).getD undef) w) h)
theorem ct63 {arg0 arg1 arg2 : Value} {h : Hp} {post : Hp → Value → Prop} (hg : ∀ w0, Gs w0 h h [] (s63 Try.prog arg0 arg1 arg2 (RetP w0 h post))) : Ct Try.prog 63 [arg0, arg1, arg2] h post := Ct.of (sf := s63 Try.prog arg0 arg1 arg2) (c63 arg0 arg1 arg2) hg
theorem in63 {arg0 arg1 arg2 : Value} {S : WP} {K : Value → WP} (hg : G S (s63 Try.prog arg0 arg1 arg2 K)) : G S (Do Try.prog (vCall (.func (.func 63) #[] ⟨[]⟩) [arg0, arg1, arg2]) K) := Gs.into (args := [arg0, arg1, arg2]) (caps := []) (sf := s63 Try.prog arg0 arg1 arg2) (c63 arg0 arg1 arg2) hg

/- skewer/loopy.Prove$1 : names 0 t, 7 t, 8 _, 9 m -/
def s64 (P : Program) (arg0 arg1 arg2 arg3 arg4 arg5 arg6 : Value) (K : Value → WP) : WP :=
  Do P (V (Instr.box 30 arg0)) fun t1 =>
  Do P (V (Instr.loadAt 82 arg1)) fun t2_10 =>
  Do P (V (Instr.loadAt 30 t1)) fun t3_11 =>
  Do P (V (Instr.lookup 82 t2_10 t3_11 false)) fun t4_12 =>
  If t4_12 (
   K (.tuple #[])
  ) (
   Do P (V (Instr.loadAt 82 arg1)) fun t5_13 =>
   Do P (V (Instr.loadAt 30 t1)) fun t6_14 =>
   Do P (U (Instr.mapUpdate 82 t5_13 t6_14 (.bool true))) fun t7_x =>
   Do P (V (Instr.loadAt 23 arg2)) fun t8_15 =>
   Do P (V (Instr.loadAt 30 t1)) fun t9_16 =>
   Do P (vBuildSlice 23 1 [(0, t9_16)]) fun t10_17 =>
   Do P (vBuiltin .append #[23, 23] 23 [t8_15, t10_17]) fun t11_18 =>
   Do P (U (Instr.storeAt 23 arg2 t11_18)) fun t12_x =>
   Do P (V (Instr.loadAt 27 arg3)) fun t13_19 =>
   Do P (V (Instr.loadAt 30 t1)) fun t14_20 =>
   Do P (vCall (.func (.func 43) #[] ⟨[]⟩) [t13_19, t14_20]) fun t15_21 =>
   Do P (vBuiltin .len #[23] 3 [t15_21]) fun t16_22 =>
   Lp (α := Value) (fun c17 s17 => Jk fun _ => -- t23
    Do P (V (binOp .lss 3 s17 t16_22)) fun t18_24 =>
    If t18_24 (
     Jn (α := Unit) (fun j19 => Jk fun _ => -- 
      Do P (V (binOp .add 3 s17 (.int .i64 1))) fun t20_40 =>
      c17 t20_40
     ) fun k19 =>
     Do P (V (Instr.indexAt 23 t15_21 s17)) fun t21_25 =>
     Do P (V (Instr.loadAt 30 t21_25)) fun t22_26 =>
     Do P (V (Instr.alloc 30 true (.tuple #[]))) fun m23 =>
     Do P (U (Instr.storeAt 30 m23 t22_26)) fun t24_x =>
     Jn (α := Value) (fun j25 => Jk fun _ => -- t36
      If j25 (
       Do P (V (Instr.loadAt 107 arg6)) fun t26_37 =>
       Do P (V (Instr.loadAt 30 m23)) fun t27_38 =>
       Do P (vCall t26_37 [t27_38]) fun t28_39 =>
       k19 ()
      ) (
       k19 ()
      )
     ) fun k25 =>
     Do P (V (Instr.fieldAt 30 t1 2)) fun t29_27 =>
     Do P (V (Instr.loadAt 3 t29_27)) fun t30_28 =>
     Do P (V (Instr.loadAt 3 arg4)) fun t31_29 =>
     Do P (V (EqG .neq 3 (.tmp 28) (.tmp 29) t30_28 t31_29)) fun t32_30 =>
     Gd t32_30 false (
      Do P (V (Instr.loadAt 102 arg5)) fun t33_32 =>
      Do P (V (Instr.loadAt 30 m23)) fun t34_33 =>
      Do P (V (Instr.loadAt 3 arg4)) fun t35_34 =>
      Do P (vCall (.func (.func 63) #[] ⟨[]⟩) [t33_32, t34_33, t35_34]) fun t36_35 =>
      k25 t36_35
     ) (
      k25 (.bool true)
     )
    ) (
     K (.tuple #[])
    )
   ) (.int .i64 0)
  )
def A64 : Ann := .s (.n) (.s (.s (.n) (.s (.n) (.n))) (.s (.n) (.s (.n) (.s (.n) (.lp [23] 2199014867456 (.s (.n) (.s (.s (.n) (.n)) (.j [] 1099478073856 (.s (.n) (.j [36] 137304735744 (.n) (.s (.n) (.n)))) (.n)))))))))
set_option maxRecDepth 100000 in
theorem c64 (arg0 arg1 arg2 arg3 arg4 arg5 arg6 : Value) (K : Value → WP) (w : World) (h : s64 Try.prog arg0 arg1 arg2 arg3 arg4 arg5 arg6 K w) : Runs Try.prog 64 [arg0, arg1, arg2, arg3, arg4, arg5, arg6] K w :=
  runs_of_E wide (fn := Try.f64) (c := Try.f64.body.getD .skip) 41 A64 [arg0, arg1, arg2, arg3, arg4, arg5, arg6] w K Try.func64 (by kernel_rfl) (by kernel_rfl) (by kernel_rfl) (by kernel_rfl)
    (Eq.mp (by kernel_rfl : s64 Try.prog arg0 arg1 arg2 arg3 arg4 arg5 arg6 K w = E Try.prog (Try.f64.body.getD .skip) A64 (topK Try.prog K Try.f64.results) (fun i => (([arg0, arg1, arg2, arg3, arg4, arg5, arg6] : List Value)[i]?).getD undef) w) h)
theorem ct64 {arg0 arg1 arg2 arg3 arg4 arg5 arg6 : Value} {h : Hp} {post : Hp → Value → Prop} (hg : ∀ w0, Gs w0 h h [] (s64 Try.prog arg0 arg1 arg2 arg3 arg4 arg5 arg6 (RetP w0 h post))) : Ct Try.prog 64 [arg0, arg1, arg2, arg3, arg4, arg5, arg6] h post := Ct.of (sf := s64 Try.prog arg0 arg1 arg2 arg3 arg4 arg5 arg6) (c64 arg0 arg1 arg2 arg3 arg4 arg5 arg6) hg
theorem in64 {arg0 arg1 arg2 arg3 arg4 arg5 arg6 : Value} {S : WP} {K : Value → WP} (hg : G S (s64 Try.prog arg0 arg1 arg2 arg3 arg4 arg5 arg6 K)) : G S (Do Try.prog (vCall (.func (.func 64) #[] ⟨[arg1, arg2, arg3, arg4, arg5, arg6]⟩) [arg0]) K) := Gs.into (args := [arg0]) (caps := [arg1, arg2, arg3, arg4, arg5, arg6]) (sf := s64 Try.prog arg0 arg1 arg2 arg3 arg4 arg5 arg6) (c64 arg0 arg1 arg2 arg3 arg4 arg5 arg6) hg

/- skewer/loopy.compare : names 0 a, 1 b, 2 a, 3 b -/
def s66 (P : Program) (arg0 arg1 : Value) (K : Value → WP) : WP :=
  Do P (V (Instr.box 30 arg0)) fun a1 =>
  Do P (V (Instr.box 30 arg1)) fun b2 =>
  Dr <|
  Qk P (V (Instr.fieldAt 30 a1 0)) fun C3 t3_5 =>
  Qk P (V (Instr.loadAt 3 t3_5)) fun C4 t4_6 =>
  Qk P (V (Instr.fieldAt 30 b2 0)) fun C5 t5_7 =>
  Qk P (V (Instr.loadAt 3 t5_7)) fun C6 t6_8 =>
  Qk P (V (Instr.fieldAt 30 a1 1)) fun C7 t7_10 =>
  Qk P (V (Instr.loadAt 3 t7_10)) fun C8 t8_11 =>
  Qk P (V (Instr.fieldAt 30 b2 1)) fun C9 t9_12 =>
  Qk P (V (Instr.loadAt 3 t9_12)) fun C10 t10_13 =>
  Qk P (V (Instr.fieldAt 30 a1 2)) fun C11 t11_15 =>
  Qk P (V (Instr.loadAt 3 t11_15)) fun C12 t12_16 =>
  Qk P (V (Instr.fieldAt 30 b2 2)) fun C13 t13_17 =>
  Qk P (V (Instr.loadAt 3 t13_17)) fun C14 t14_18 =>
  Do P (vCall (.func (.func 83) #[] ⟨[]⟩) [t4_6, t6_8]) fun t15_9 =>
  With C14 <|
  With C13 <|
  With C12 <|
  With C11 <|
  With C10 <|
  With C9 <|
  With C8 <|
  With C7 <|
  Do P (vCall (.func (.func 83) #[] ⟨[]⟩) [t8_11, t10_13]) fun t16_14 =>
  With C14 <|
  With C13 <|
  With C12 <|
  With C11 <|
  Do P (vCall (.func (.func 83) #[] ⟨[]⟩) [t12_16, t14_18]) fun t17_19 =>
  Do P (vBuildSlice 49 3 [(0, t15_9), (1, t16_14), (2, t17_19)]) fun t18_20 =>
  Do P (vCall (.func (.func 82) #[] ⟨[]⟩) [t18_20]) fun t19_21 =>
  K t19_21
def A66 : Ann := .s (.n) (.s (.plan [(0, 4, 32), (1, 32, 64), (0, 8, 128), (4, 128, 256), (10, 320, 512), (0, 4, 1024), (32, 1024, 2048), (0, 8, 4096), (128, 4096, 8192), (336, 10240, 16384), (0, 4, 32768), (1024, 32768, 65536), (0, 8, 131072), (4096, 131072, 262144), (10752, 327680, 524288), (16912, 541184, 1048576), (49152, 1048576, 2097152), (131071, 2097152, 16)] (.q 0 (.q 1 (.q 2 (.q 3 (.q 5 (.q 6 (.q 7 (.q 8 (.q 10 (.q 11 (.q 12 (.q 13 (.l 4 (.l 9 (.l 14 (.l 15 (.l 16 (.q 17 .done))))))))))))))))))) (.n))
set_option maxRecDepth 100000 in
theorem c66 (arg0 arg1 : Value) (K : Value → WP) (w : World) (h : s66 Try.prog arg0 arg1 K w) : Runs Try.prog 66 [arg0, arg1] K w :=
  runs_of_E wide (fn := Try.f66) (c := Try.f66.body.getD .skip) 22 A66 [arg0, arg1] w K Try.func66 (by kernel_rfl) (by kernel_rfl) (by kernel_rfl) (by kernel_rfl)
    (Eq.mp (by kernel_rfl : s66 Try.prog arg0 arg1 K w = E Try.prog (Try.f66.body.getD .skip) A66 (topK Try.prog K Try.f66.results) (fun i => (([arg0, arg1] : List Value)[i]?).getD undef) w) h)
theorem ct66 {arg0 arg1 : Value} {h : Hp} {post : Hp → Value → Prop} (hg : ∀ w0, Gs w0 h h [] (s66 Try.prog arg0 arg1 (RetP w0 h post))) : Ct Try.prog 66 [arg0, arg1] h post := Ct.of (sf := s66 Try.prog arg0 arg1) (c66 arg0 arg1) hg
theorem in66 {arg0 arg1 : Value} {S : WP} {K : Value → WP} (hg : G S (s66 Try.prog arg0 arg1 K)) : G S (Do Try.prog (vCall (.func (.func 66) #[] ⟨[]⟩) [arg0, arg1]) K) := Gs.into (args := [arg0, arg1]) (caps := []) (sf := s66 Try.prog arg0 arg1) (c66 arg0 arg1) hg

/- slices.IndexFunc[[]skewer/api.Spot,skewer/api.Spot] : names 0 s, 1 f, 2 s, 3 f, 5 i -/
def s67 (P : Program) (arg0 arg1 : Value) (K : Value → WP) : WP :=
  Do P (vBuiltin .len #[23] 3 [arg0]) fun t1_7 =>
  Lp (α := Value) (fun c2 s2 => Jk fun _ => -- t8
   Do P (V (binOp .lss 3 s2 t1_7)) fun t3_9 =>
   If t3_9 (
    Do P (V (Instr.indexAt 23 arg0 s2)) fun t4_14 =>
    Do P (V (Instr.loadAt 30 t4_14)) fun t5_15 =>
    Do P (vCall arg1 [t5_15]) fun t6_16 =>
    If t6_16 (
     K s2
    ) (
     Do P (V (binOp .add 3 s2 (.int .i64 1))) fun t7_18 =>
     c2 t7_18
    )
   ) (
    K (.int .i64 (-1))
   )
  ) (.int .i64 0)
def A67 : Ann := .s (.n) (.s (.s (.n) (.lp [8] 524080 (.s (.n) (.s (.s (.n) (.n)) (.s (.s (.n) (.s (.n) (.s (.s (.n) (.n)) (.n)))) (.n)))))) (.s (.n) (.n)))
set_option maxRecDepth 100000 in
theorem c67 (arg0 arg1 : Value) (K : Value → WP) (w : World) (h : s67 Try.prog arg0 arg1 K w) : Runs Try.prog 67 [arg0, arg1] K w :=
  runs_of_E wide (fn := Try.f67) (c := Try.f67.body.getD .skip) 19 A67 [arg0, arg1] w K Try.func67 (by kernel_rfl) (by kernel_rfl) (by kernel_rfl) (by kernel_rfl)
    (Eq.mp (by kernel_rfl : s67 Try.prog arg0 arg1 K w = E Try.prog (Try.f67.body.getD .skip) A67 (topK Try.prog K Try.f67.results) (fun i => (([arg0, arg1] : List Value)[i]?).getD undef) w) h)
theorem ct67 {arg0 arg1 : Value} {h : Hp} {post : Hp → Value → Prop} (hg : ∀ w0, Gs w0 h h [] (s67 Try.prog arg0 arg1 (RetP w0 h post))) : Ct Try.prog 67 [arg0, arg1] h post := Ct.of (sf := s67 Try.prog arg0 arg1) (c67 arg0 arg1) hg
theorem in67 {arg0 arg1 : Value} {S : WP} {K : Value → WP} (hg : G S (s67 Try.prog arg0 arg1 K)) : G S (Do Try.prog (vCall (.func (.func 67) #[] ⟨[]⟩) [arg0, arg1]) K) := Gs.into (args := [arg0, arg1]) (caps := []) (sf := s67 Try.prog arg0 arg1) (c67 arg0 arg1) hg

/- slices.IndexFunc[[]int,int] : names 0 s, 1 f, 2 s, 3 f, 5 i -/
def s68 (P : Program) (arg0 arg1 : Value) (K : Value → WP) : WP :=
  Do P (vBuiltin .len #[49] 3 [arg0]) fun t1_7 =>
  Lp (α := Value) (fun c2 s2 => Jk fun _ => -- t8
   Do P (V (binOp .lss 3 s2 t1_7)) fun t3_9 =>
   If t3_9 (
    Do P (V (Instr.indexAt 49 arg0 s2)) fun t4_14 =>
    Do P (V (Instr.loadAt 3 t4_14)) fun t5_15 =>
    Do P (vCall arg1 [t5_15]) fun t6_16 =>
    If t6_16 (
     K s2
    ) (
     Do P (V (binOp .add 3 s2 (.int .i64 1))) fun t7_18 =>
     c2 t7_18
    )
   ) (
    K (.int .i64 (-1))
   )
  ) (.int .i64 0)
def A68 : Ann := .s (.n) (.s (.s (.n) (.lp [8] 524080 (.s (.n) (.s (.s (.n) (.n)) (.s (.s (.n) (.s (.n) (.s (.s (.n) (.n)) (.n)))) (.n)))))) (.s (.n) (.n)))
set_option maxRecDepth 100000 in
theorem c68 (arg0 arg1 : Value) (K : Value → WP) (w : World) (h : s68 Try.prog arg0 arg1 K w) : Runs Try.prog 68 [arg0, arg1] K w :=
  runs_of_E wide (fn := Try.f68) (c := Try.f68.body.getD .skip) 19 A68 [arg0, arg1] w K Try.func68 (by kernel_rfl) (by kernel_rfl) (by kernel_rfl) (by kernel_rfl)
    (Eq.mp (by kernel_rfl : s68 Try.prog arg0 arg1 K w = E Try.prog (Try.f68.body.getD .skip) A68 (topK Try.prog K Try.f68.results) (fun i => (([arg0, arg1] : List Value)[i]?).getD undef) w) h)
theorem ct68 {arg0 arg1 : Value} {h : Hp} {post : Hp → Value → Prop} (hg : ∀ w0, Gs w0 h h [] (s68 Try.prog arg0 arg1 (RetP w0 h post))) : Ct Try.prog 68 [arg0, arg1] h post := Ct.of (sf := s68 Try.prog arg0 arg1) (c68 arg0 arg1) hg
theorem in68 {arg0 arg1 : Value} {S : WP} {K : Value → WP} (hg : G S (s68 Try.prog arg0 arg1 K)) : G S (Do Try.prog (vCall (.func (.func 68) #[] ⟨[]⟩) [arg0, arg1]) K) := Gs.into (args := [arg0, arg1]) (caps := []) (sf := s68 Try.prog arg0 arg1) (c68 arg0 arg1) hg

/- slices.IndexFunc[[][]int,[]int] : names 0 s, 1 f, 2 s, 3 f, 5 i -/
def s69 (P : Program) (arg0 arg1 : Value) (K : Value → WP) : WP :=
  Do P (vBuiltin .len #[25] 3 [arg0]) fun t1_7 =>
  Lp (α := Value) (fun c2 s2 => Jk fun _ => -- t8
   Do P (V (binOp .lss 3 s2 t1_7)) fun t3_9 =>
   If t3_9 (
    Do P (V (Instr.indexAt 25 arg0 s2)) fun t4_14 =>
    Do P (V (Instr.loadAt 49 t4_14)) fun t5_15 =>
    Do P (vCall arg1 [t5_15]) fun t6_16 =>
    If t6_16 (
     K s2
    ) (
     Do P (V (binOp .add 3 s2 (.int .i64 1))) fun t7_18 =>
     c2 t7_18
    )
   ) (
    K (.int .i64 (-1))
   )
  ) (.int .i64 0)
def A69 : Ann := .s (.n) (.s (.s (.n) (.lp [8] 524080 (.s (.n) (.s (.s (.n) (.n)) (.s (.s (.n) (.s (.n) (.s (.s (.n) (.n)) (.n)))) (.n)))))) (.s (.n) (.n)))
set_option maxRecDepth 100000 in
theorem c69 (arg0 arg1 : Value) (K : Value → WP) (w : World) (h : s69 Try.prog arg0 arg1 K w) : Runs Try.prog 69 [arg0, arg1] K w :=
  runs_of_E wide (fn := Try.f69) (c := Try.f69.body.getD .skip) 19 A69 [arg0, arg1] w K Try.func69 (by kernel_rfl) (by kernel_rfl) (by kernel_rfl) (by kernel_rfl)
    (Eq.mp (by kernel_rfl : s69 Try.prog arg0 arg1 K w = E Try.prog (Try.f69.body.getD .skip) A69 (topK Try.prog K Try.f69.results) (fun i => (([arg0, arg1] : List Value)[i]?).getD undef) w) h)
theorem ct69 {arg0 arg1 : Value} {h : Hp} {post : Hp → Value → Prop} (hg : ∀ w0, Gs w0 h h [] (s69 Try.prog arg0 arg1 (RetP w0 h post))) : Ct Try.prog 69 [arg0, arg1] h post := Ct.of (sf := s69 Try.prog arg0 arg1) (c69 arg0 arg1) hg
theorem in69 {arg0 arg1 : Value} {S : WP} {K : Value → WP} (hg : G S (s69 Try.prog arg0 arg1 K)) : G S (Do Try.prog (vCall (.func (.func 69) #[] ⟨[]⟩) [arg0, arg1]) K) := Gs.into (args := [arg0, arg1]) (caps := []) (sf := s69 Try.prog arg0 arg1) (c69 arg0 arg1) hg

/- skewer/loopy.results$1 : names 0 s, 1 r, 4 s, 5 r -/
def s79 (P : Program) (arg0 arg1 arg2 arg3 : Value) (K : Value → WP) : WP :=
  Do P (V (Instr.box 30 arg0)) fun s1 =>
  Do P (V (Instr.loadAt 102 arg2)) fun t2_6 =>
  Do P (V (Instr.loadAt 30 s1)) fun t3_7 =>
  Do P (V (Instr.lookup 102 t2_6 t3_7 false)) fun t4_8 =>
  Do P (V (EqG .eql 3 (.tmp 8) (.const (.int .i64 0)) t4_8 (.int .i64 0))) fun t5_9 =>
  If t5_9 (
   Do P (V (Instr.loadAt 102 arg2)) fun t6_10 =>
   Do P (V (Instr.loadAt 30 s1)) fun t7_11 =>
   Do P (U (Instr.mapUpdate 102 t6_10 t7_11 arg1)) fun t8_x =>
   Do P (V (Instr.loadAt 23 arg3)) fun t9_13 =>
   Do P (V (Instr.loadAt 30 s1)) fun t10_14 =>
   Do P (vBuildSlice 23 1 [(0, t10_14)]) fun t11_15 =>
   Do P (vBuiltin .append #[23, 23] 23 [t9_13, t11_15]) fun t12_16 =>
   Do P (U (Instr.storeAt 23 arg3 t12_16)) fun t13_x =>
   K (.tuple #[])
  ) (
   K (.tuple #[])
  )
def A79 : Ann := .s (.n) (.s (.n) (.s (.s (.n) (.n)) (.n)))
set_option maxRecDepth 100000 in
theorem c79 (arg0 arg1 arg2 arg3 : Value) (K : Value → WP) (w : World) (h : s79 Try.prog arg0 arg1 arg2 arg3 K w) : Runs Try.prog 79 [arg0, arg1, arg2, arg3] K w :=
  runs_of_E wide (fn := Try.f79) (c := Try.f79.body.getD .skip) 17 A79 [arg0, arg1, arg2, arg3] w K Try.func79 (by kernel_rfl) (by kernel_rfl) (by kernel_rfl) (by kernel_rfl)
    (Eq.mp (by kernel_rfl : s79 Try.prog arg0 arg1 arg2 arg3 K w = E Try.prog (Try.f79.body.getD .skip) A79 (topK Try.prog K Try.f79.results) (fun i => (([arg0, arg1, arg2, arg3] : List Value)[i]?).getD undef) w) h)
theorem ct79 {arg0 arg1 arg2 arg3 : Value} {h : Hp} {post : Hp → Value → Prop} (hg : ∀ w0, Gs w0 h h [] (s79 Try.prog arg0 arg1 arg2 arg3 (RetP w0 h post))) : Ct Try.prog 79 [arg0, arg1, arg2, arg3] h post := Ct.of (sf := s79 Try.prog arg0 arg1 arg2 arg3) (c79 arg0 arg1 arg2 arg3) hg
theorem in79 {arg0 arg1 arg2 arg3 : Value} {S : WP} {K : Value → WP} (hg : G S (s79 Try.prog arg0 arg1 arg2 arg3 K)) : G S (Do Try.prog (vCall (.func (.func 79) #[] ⟨[arg2, arg3]⟩) [arg0, arg1]) K) := Gs.into (args := [arg0, arg1]) (caps := [arg2, arg3]) (sf := s79 Try.prog arg0 arg1 arg2 arg3) (c79 arg0 arg1 arg2 arg3) hg

/- cmp.Or[int] : names 0 vals, 1 vals, 3 zero, 4 _, 5 val -/
def s82 (P : Program) (arg0 : Value) (K : Value → WP) : WP :=
  Do P (vBuiltin .len #[49] 3 [arg0]) fun t1_7 =>
  Lp (α := Value) (fun c2 s2 => Jk fun _ => -- t8
   Do P (V (binOp .lss 3 s2 t1_7)) fun t3_9 =>
   If t3_9 (
    Do P (V (Instr.indexAt 49 arg0 s2)) fun t4_10 =>
    Do P (V (Instr.loadAt 3 t4_10)) fun t5_11 =>
    Do P (V (EqG .neq 3 (.tmp 12) (.tmp 13) t5_11 (.int .i64 0))) fun t6_14 =>
    If t6_14 (
     K t5_11
    ) (
     Do P (V (binOp .add 3 s2 (.int .i64 1))) fun t7_16 =>
     c2 t7_16
    )
   ) (
    K (.int .i64 0)
   )
  ) (.int .i64 0)
def A82 : Ann := .s (.n) (.s (.n) (.s (.s (.n) (.lp [8] 130852 (.s (.n) (.s (.s (.n) (.n)) (.s (.s (.n) (.s (.n) (.s (.s (.n) (.n)) (.n)))) (.n)))))) (.s (.n) (.n))))
set_option maxRecDepth 100000 in
theorem c82 (arg0 : Value) (K : Value → WP) (w : World) (h : s82 Try.prog arg0 K w) : Runs Try.prog 82 [arg0] K w :=
  runs_of_E wide (fn := Try.f82) (c := Try.f82.body.getD .skip) 18 A82 [arg0] w K Try.func82 (by kernel_rfl) (by kernel_rfl) (by kernel_rfl) (by kernel_rfl)
    (Eq.mp (by kernel_rfl : s82 Try.prog arg0 K w = E Try.prog (Try.f82.body.getD .skip) A82 (topK Try.prog K Try.f82.results) (fun i => (([arg0] : List Value)[i]?).getD undef) w) h)
theorem ct82 {arg0 : Value} {h : Hp} {post : Hp → Value → Prop} (hg : ∀ w0, Gs w0 h h [] (s82 Try.prog arg0 (RetP w0 h post))) : Ct Try.prog 82 [arg0] h post := Ct.of (sf := s82 Try.prog arg0) (c82 arg0) hg
theorem in82 {arg0 : Value} {S : WP} {K : Value → WP} (hg : G S (s82 Try.prog arg0 K)) : G S (Do Try.prog (vCall (.func (.func 82) #[] ⟨[]⟩) [arg0]) K) := Gs.into (args := [arg0]) (caps := []) (sf := s82 Try.prog arg0) (c82 arg0) hg

/- cmp.Compare[int] : names 0 x, 1 y, 2 x, 3 y, 5 xNaN, 6 yNaN -/
def s83 (P : Program) (arg0 arg1 : Value) (K : Value → WP) : WP :=
  Do P (vCall (.func (.func 97) #[] ⟨[]⟩) [arg0]) fun t1_8 =>
  Do P (vCall (.func (.func 97) #[] ⟨[]⟩) [arg1]) fun t2_10 =>
  If t1_8 (
   If t2_10 (
    K (.int .i64 0)
   ) (
    K (.int .i64 (-1))
   )
  ) (
   If t2_10 (
    K (.int .i64 1)
   ) (
    Do P (V (binOp .lss 3 arg0 arg1)) fun t3_16 =>
    If t3_16 (
     K (.int .i64 (-1))
    ) (
     Do P (V (binOp .gtr 3 arg0 arg1)) fun t4_19 =>
     If t4_19 (
      K (.int .i64 1)
     ) (
      K (.int .i64 0)
     )
    )
   )
  )
def A83 : Ann := .s (.n) (.s (.n) (.s (.n) (.s (.s (.n) (.s (.s (.s (.n) (.s (.s (.n) (.n)) (.n))) (.s (.n) (.n))) (.n))) (.s (.s (.n) (.s (.s (.n) (.n)) (.n))) (.s (.s (.n) (.s (.s (.n) (.n)) (.n))) (.s (.s (.n) (.s (.s (.n) (.n)) (.n))) (.s (.n) (.n))))))))
set_option maxRecDepth 100000 in
theorem c83 (arg0 arg1 : Value) (K : Value → WP) (w : World) (h : s83 Try.prog arg0 arg1 K w) : Runs Try.prog 83 [arg0, arg1] K w :=
  runs_of_E wide (fn := Try.f83) (c := Try.f83.body.getD .skip) 20 A83 [arg0, arg1] w K Try.func83 (by kernel_rfl) (by kernel_rfl) (by kernel_rfl) (by kernel_rfl)
    (Eq.mp (by kernel_rfl : s83 Try.prog arg0 arg1 K w = E Try.prog (Try.f83.body.getD .skip) A83 (topK Try.prog K Try.f83.results) (fun i => (([arg0, arg1] : List Value)[i]?).getD undef) w) h)
theorem ct83 {arg0 arg1 : Value} {h : Hp} {post : Hp → Value → Prop} (hg : ∀ w0, Gs w0 h h [] (s83 Try.prog arg0 arg1 (RetP w0 h post))) : Ct Try.prog 83 [arg0, arg1] h post := Ct.of (sf := s83 Try.prog arg0 arg1) (c83 arg0 arg1) hg
theorem in83 {arg0 arg1 : Value} {S : WP} {K : Value → WP} (hg : G S (s83 Try.prog arg0 arg1 K)) : G S (Do Try.prog (vCall (.func (.func 83) #[] ⟨[]⟩) [arg0, arg1]) K) := Gs.into (args := [arg0, arg1]) (caps := []) (sf := s83 Try.prog arg0 arg1) (c83 arg0 arg1) hg

/- cmp.isNaN[int] : names 0 x, 1 x -/
def s97 (P : Program) (arg0 : Value) (K : Value → WP) : WP :=
  Do P (V (EqG .neq 3 (.tmp 3) (.tmp 4) arg0 arg0)) fun t1_5 =>
  K t1_5
def A97 : Ann := .s (.n) (.s (.n) (.n))
set_option maxRecDepth 100000 in
theorem c97 (arg0 : Value) (K : Value → WP) (w : World) (h : s97 Try.prog arg0 K w) : Runs Try.prog 97 [arg0] K w :=
  runs_of_E wide (fn := Try.f97) (c := Try.f97.body.getD .skip) 6 A97 [arg0] w K Try.func97 (by kernel_rfl) (by kernel_rfl) (by kernel_rfl) (by kernel_rfl)
    (Eq.mp (by kernel_rfl : s97 Try.prog arg0 K w = E Try.prog (Try.f97.body.getD .skip) A97 (topK Try.prog K Try.f97.results) (fun i => (([arg0] : List Value)[i]?).getD undef) w) h)
theorem ct97 {arg0 : Value} {h : Hp} {post : Hp → Value → Prop} (hg : ∀ w0, Gs w0 h h [] (s97 Try.prog arg0 (RetP w0 h post))) : Ct Try.prog 97 [arg0] h post := Ct.of (sf := s97 Try.prog arg0) (c97 arg0) hg
theorem in97 {arg0 : Value} {S : WP} {K : Value → WP} (hg : G S (s97 Try.prog arg0 K)) : G S (Do Try.prog (vCall (.func (.func 97) #[] ⟨[]⟩) [arg0]) K) := Gs.into (args := [arg0]) (caps := []) (sf := s97 Try.prog arg0) (c97 arg0) hg

/- skewer/value.Of : names 0 x, 1 x, 4 room, 5 f -/
def s28 (P : Program) (arg0 : Value) (K : Value → WP) : WP :=
  Do P (V (Instr.box 65 arg0)) fun x1 =>
  Do P (V (Instr.alloc 61 true (.tuple #[]))) fun t2_2 =>
  Do P (V (Instr.loadAt 65 x1)) fun t3_6 =>
  Do P (vCall (.func (.func 53) #[] ⟨[]⟩) [t3_6]) fun t4_7 =>
  Do P (V (Op.unary .not t4_7)) fun t5_8 =>
  If t5_8 (
   Do P (vBuild 61 []) fun t6_9 =>
   Do P (U (Instr.storeAt 61 t2_2 t6_9)) fun t7_x =>
   RetC P 61 t2_2 fun r => K (.tuple #[r, (.int .i64 190)])
  ) (
   Do P (V (Instr.alloc 3 true (.tuple #[]))) fun room8 =>
   Do P (U (Instr.storeAt 3 room8 (.int .i64 2000))) fun t9_x =>
   Do P (V (Instr.loadAt 65 x1)) fun t10_10 =>
   Do P (vCall (.func (.func 54) #[] ⟨[]⟩) [t10_10, room8]) fun t11_11 =>
   Do P (V (Instr.alloc 61 true (.tuple #[]))) fun f12 =>
   Do P (U (Instr.storeAt 61 f12 t11_11)) fun t13_x =>
   Do P (V (Instr.loadAt 3 room8)) fun t14_12 =>
   Do P (V (binOp .lss 3 t14_12 (.int .i64 0))) fun t15_13 =>
   If t15_13 (
    Do P (vBuild 61 []) fun t16_14 =>
    Do P (U (Instr.storeAt 61 t2_2 t16_14)) fun t17_x =>
    RetC P 61 t2_2 fun r => K (.tuple #[r, (.int .i64 2)])
   ) (
    Do P (V (Instr.loadAt 61 f12)) fun t18_15 =>
    Do P (U (Instr.storeAt 61 t2_2 t18_15)) fun t19_x =>
    RetC P 61 t2_2 fun r => K (.tuple #[r, (.int .i64 0)])
   )
  )
def A28 : Ann := .s (.n) (.s (.s (.n) (.s (.s (.n) (.n)) (.n))) (.s (.n) (.s (.n) (.s (.s (.n) (.s (.s (.n) (.n)) (.n))) (.s (.n) (.n))))))
set_option maxRecDepth 100000 in
theorem c28 (arg0 : Value) (K : Value → WP) (w : World) (h : s28 Try.prog arg0 K w) : Runs Try.prog 28 [arg0] K w :=
  runs_of_E wide (fn := Try.f28) (c := Try.f28.body.getD .skip) 16 A28 [arg0] w K Try.func28 (by kernel_rfl) (by kernel_rfl) (by kernel_rfl) (by kernel_rfl)
    (Eq.mp (by kernel_rfl : s28 Try.prog arg0 K w = E Try.prog (Try.f28.body.getD .skip) A28 (topK Try.prog K Try.f28.results) (fun i => (([arg0] : List Value)[i]?).getD undef) w) h)
theorem ct28 {arg0 : Value} {h : Hp} {post : Hp → Value → Prop} (hg : ∀ w0, Gs w0 h h [] (s28 Try.prog arg0 (RetP w0 h post))) : Ct Try.prog 28 [arg0] h post := Ct.of (sf := s28 Try.prog arg0) (c28 arg0) hg
theorem in28 {arg0 : Value} {S : WP} {K : Value → WP} (hg : G S (s28 Try.prog arg0 K)) : G S (Do Try.prog (vCall (.func (.func 28) #[] ⟨[]⟩) [arg0]) K) := Gs.into (args := [arg0]) (caps := []) (sf := s28 Try.prog arg0) (c28 arg0) hg

/- skewer/value.Winner : names 0 f, 1 first, 2 f, 3 first, 5 b, 6 n, 7 zero -/
def s29 (P : Program) (arg0 arg1 : Value) (K : Value → WP) : WP :=
  Do P (V (Instr.box 61 arg0)) fun f1 =>
  Do P (vCall (.func (.func 55) #[] ⟨[]⟩) []) fun t2_8 =>
  Do P (V (Instr.loadAt 61 f1)) fun t3_10 =>
  Do P (vCall (.func (.func 56) #[] ⟨[]⟩) [t2_8, t3_10]) fun t4_11 =>
  Do P (vCall (.func (.func 57) #[] ⟨[]⟩) [t2_8, (.slice none 0 0), (.slice none 0 0)]) fun t5_13 =>
  Jn (α := Value) (fun j6 => Jk fun _ => -- t32
   If j6 (
    K (.int .i64 0)
   ) (
    K (.int .i64 1)
   )
  ) fun k6 =>
  Do P (V (EqG .eql 3 (.tmp 14) (.const (.int .i64 0)) arg1 (.int .i64 0))) fun t7_15 =>
  Gd t7_15 true (
   Do P (vCall (.func (.func 58) #[] ⟨[]⟩) [t2_8, t4_11, t5_13]) fun t8_20 =>
   Do P (V (Op.unary .not t8_20)) fun t9_21 =>
   Gd t9_21 false (
    Do P (V (EqG .neq 3 (.tmp 24) (.const (.int .i64 0)) arg1 (.int .i64 0))) fun t10_25 =>
    Gd t10_25 true (
     Do P (vCall (.func (.func 58) #[] ⟨[]⟩) [t2_8, t5_13, t4_11]) fun t11_30 =>
     k6 t11_30
    ) (
     k6 (.bool false)
    )
   ) (
    k6 (.bool true)
   )
  ) (
   Do P (V (EqG .neq 3 (.tmp 24) (.const (.int .i64 0)) arg1 (.int .i64 0))) fun t12_25 =>
   Gd t12_25 true (
    Do P (vCall (.func (.func 58) #[] ⟨[]⟩) [t2_8, t5_13, t4_11]) fun t13_30 =>
    k6 t13_30
   ) (
    k6 (.bool false)
   )
  )
def A29 : Ann := .s (.n) (.s (.n) (.s (.n) (.s (.j [32] 8589918208 (.n) (.s (.s (.n) (.n)) (.n))) (.s (.n) (.n)))))
set_option maxRecDepth 100000 in
theorem c29 (arg0 arg1 : Value) (K : Value → WP) (w : World) (h : s29 Try.prog arg0 arg1 K w) : Runs Try.prog 29 [arg0, arg1] K w :=
  runs_of_E wide (fn := Try.f29) (c := Try.f29.body.getD .skip) 33 A29 [arg0, arg1] w K Try.func29 (by kernel_rfl) (by kernel_rfl) (by kernel_rfl) (by kernel_rfl)
    (Eq.mp (by kernel_rfl : s29 Try.prog arg0 arg1 K w = E Try.prog (Try.f29.body.getD .skip) A29 (topK Try.prog K Try.f29.results) (fun i => (([arg0, arg1] : List Value)[i]?).getD undef) w) h)
theorem ct29 {arg0 arg1 : Value} {h : Hp} {post : Hp → Value → Prop} (hg : ∀ w0, Gs w0 h h [] (s29 Try.prog arg0 arg1 (RetP w0 h post))) : Ct Try.prog 29 [arg0, arg1] h post := Ct.of (sf := s29 Try.prog arg0 arg1) (c29 arg0 arg1) hg
theorem in29 {arg0 arg1 : Value} {S : WP} {K : Value → WP} (hg : G S (s29 Try.prog arg0 arg1 K)) : G S (Do Try.prog (vCall (.func (.func 29) #[] ⟨[]⟩) [arg0, arg1]) K) := Gs.into (args := [arg0, arg1]) (caps := []) (sf := s29 Try.prog arg0 arg1) (c29 arg0 arg1) hg

/- skewer/value.Add : names 0 a, 1 b, 2 a, 3 b, 5 f, 6 _, 7 x, 8 _, 9 x, 10 _, 11 x, 12 _, 13 x -/
def s30 (P : Program) (arg0 arg1 : Value) (K : Value → WP) : WP :=
  Do P (V (Instr.box 61 arg0)) fun a1 =>
  Do P (V (Instr.box 61 arg1)) fun b2 =>
  Do P (V (Instr.alloc 61 true (.tuple #[]))) fun t3_4 =>
  Do P (V (Instr.alloc 61 true (.tuple #[]))) fun f4 =>
  Do P (V (Instr.fieldAt 61 a1 0)) fun t5_14 =>
  Do P (V (Instr.loadAt 59 t5_14)) fun t6_15 =>
  Do P (vBuiltin .len #[59] 3 [t6_15]) fun t7_16 =>
  Lp (α := Value) (fun c8 s8 => Jk fun _ => -- t17
   Do P (V (binOp .lss 3 s8 t7_16)) fun t9_18 =>
   If t9_18 (
    Do P (V (Instr.indexAt 59 t6_15 s8)) fun t10_19 =>
    Do P (V (Instr.loadAt 61 t10_19)) fun t11_20 =>
    Do P (V (Instr.alloc 61 true (.tuple #[]))) fun x12 =>
    Do P (U (Instr.storeAt 61 x12 t11_20)) fun t13_x =>
    Dr <|
    Qk P (V (Instr.fieldAt 61 f4 0)) fun C14 t14_21 =>
    Qk P (V (Instr.loadAt 59 t14_21)) fun C15 t15_22 =>
    Qk P (V (Instr.loadAt 61 x12)) fun C16 t16_23 =>
    Qk P (V (Instr.loadAt 61 b2)) fun C17 t17_24 =>
    Do P (vCall (.func (.func 30) #[] ⟨[]⟩) [t16_23, t17_24]) fun t18_25 =>
    With C15 <|
    With C14 <|
    Do P (vBuildSlice 59 1 [(0, t18_25)]) fun t19_26 =>
    With C15 <|
    With C14 <|
    Do P (vBuiltin .append #[59, 59] 59 [t15_22, t19_26]) fun t20_27 =>
    Qk P (V (Instr.fieldAt 61 f4 0)) fun C21 t21_28 =>
    Do P (U (Instr.storeAt 59 t21_28 t20_27)) fun t22_x =>
    Do P (V (binOp .add 3 s8 (.int .i64 1))) fun t23_29 =>
    c8 t23_29
   ) (
    Do P (V (Instr.fieldAt 61 b2 0)) fun t24_30 =>
    Do P (V (Instr.loadAt 59 t24_30)) fun t25_31 =>
    Do P (vBuiltin .len #[59] 3 [t25_31]) fun t26_32 =>
    Lp (α := Value) (fun c27 s27 => Jk fun _ => -- t33
     Do P (V (binOp .lss 3 s27 t26_32)) fun t28_34 =>
     If t28_34 (
      Do P (V (Instr.indexAt 59 t25_31 s27)) fun t29_35 =>
      Do P (V (Instr.loadAt 61 t29_35)) fun t30_36 =>
      Do P (V (Instr.alloc 61 true (.tuple #[]))) fun x31 =>
      Do P (U (Instr.storeAt 61 x31 t30_36)) fun t32_x =>
      Dr <|
      Qk P (V (Instr.fieldAt 61 f4 0)) fun C33 t33_37 =>
      Qk P (V (Instr.loadAt 59 t33_37)) fun C34 t34_38 =>
      Qk P (V (Instr.loadAt 61 a1)) fun C35 t35_39 =>
      Qk P (V (Instr.loadAt 61 x31)) fun C36 t36_40 =>
      Do P (vCall (.func (.func 30) #[] ⟨[]⟩) [t35_39, t36_40]) fun t37_41 =>
      With C34 <|
      With C33 <|
      Do P (vBuildSlice 59 1 [(0, t37_41)]) fun t38_42 =>
      With C34 <|
      With C33 <|
      Do P (vBuiltin .append #[59, 59] 59 [t34_38, t38_42]) fun t39_43 =>
      Qk P (V (Instr.fieldAt 61 f4 0)) fun C40 t40_44 =>
      Do P (U (Instr.storeAt 59 t40_44 t39_43)) fun t41_x =>
      Do P (V (binOp .add 3 s27 (.int .i64 1))) fun t42_45 =>
      c27 t42_45
     ) (
      Do P (V (Instr.fieldAt 61 a1 1)) fun t43_46 =>
      Do P (V (Instr.loadAt 59 t43_46)) fun t44_47 =>
      Do P (vBuiltin .len #[59] 3 [t44_47]) fun t45_48 =>
      Lp (α := Value) (fun c46 s46 => Jk fun _ => -- t49
       Do P (V (binOp .lss 3 s46 t45_48)) fun t47_50 =>
       If t47_50 (
        Do P (V (Instr.indexAt 59 t44_47 s46)) fun t48_51 =>
        Do P (V (Instr.loadAt 61 t48_51)) fun t49_52 =>
        Do P (V (Instr.alloc 61 true (.tuple #[]))) fun x50 =>
        Do P (U (Instr.storeAt 61 x50 t49_52)) fun t51_x =>
        Dr <|
        Qk P (V (Instr.fieldAt 61 f4 1)) fun C52 t52_53 =>
        Qk P (V (Instr.loadAt 59 t52_53)) fun C53 t53_54 =>
        Qk P (V (Instr.loadAt 61 x50)) fun C54 t54_55 =>
        Qk P (V (Instr.loadAt 61 b2)) fun C55 t55_56 =>
        Do P (vCall (.func (.func 30) #[] ⟨[]⟩) [t54_55, t55_56]) fun t56_57 =>
        With C53 <|
        With C52 <|
        Do P (vBuildSlice 59 1 [(0, t56_57)]) fun t57_58 =>
        With C53 <|
        With C52 <|
        Do P (vBuiltin .append #[59, 59] 59 [t53_54, t57_58]) fun t58_59 =>
        Qk P (V (Instr.fieldAt 61 f4 1)) fun C59 t59_60 =>
        Do P (U (Instr.storeAt 59 t59_60 t58_59)) fun t60_x =>
        Do P (V (binOp .add 3 s46 (.int .i64 1))) fun t61_61 =>
        c46 t61_61
       ) (
        Do P (V (Instr.fieldAt 61 b2 1)) fun t62_62 =>
        Do P (V (Instr.loadAt 59 t62_62)) fun t63_63 =>
        Do P (vBuiltin .len #[59] 3 [t63_63]) fun t64_64 =>
        Lp (α := Value) (fun c65 s65 => Jk fun _ => -- t65
         Do P (V (binOp .lss 3 s65 t64_64)) fun t66_66 =>
         If t66_66 (
          Do P (V (Instr.indexAt 59 t63_63 s65)) fun t67_67 =>
          Do P (V (Instr.loadAt 61 t67_67)) fun t68_68 =>
          Do P (V (Instr.alloc 61 true (.tuple #[]))) fun x69 =>
          Do P (U (Instr.storeAt 61 x69 t68_68)) fun t70_x =>
          Dr <|
          Qk P (V (Instr.fieldAt 61 f4 1)) fun C71 t71_69 =>
          Qk P (V (Instr.loadAt 59 t71_69)) fun C72 t72_70 =>
          Qk P (V (Instr.loadAt 61 a1)) fun C73 t73_71 =>
          Qk P (V (Instr.loadAt 61 x69)) fun C74 t74_72 =>
          Do P (vCall (.func (.func 30) #[] ⟨[]⟩) [t73_71, t74_72]) fun t75_73 =>
          With C72 <|
          With C71 <|
          Do P (vBuildSlice 59 1 [(0, t75_73)]) fun t76_74 =>
          With C72 <|
          With C71 <|
          Do P (vBuiltin .append #[59, 59] 59 [t72_70, t76_74]) fun t77_75 =>
          Qk P (V (Instr.fieldAt 61 f4 1)) fun C78 t78_76 =>
          Do P (U (Instr.storeAt 59 t78_76 t77_75)) fun t79_x =>
          Do P (V (binOp .add 3 s65 (.int .i64 1))) fun t80_77 =>
          c65 t80_77
         ) (
          Do P (V (Instr.loadAt 61 f4)) fun t81_78 =>
          Do P (U (Instr.storeAt 61 t3_4 t81_78)) fun t82_x =>
          RetC P 61 t3_4 K
         )
        ) (.int .i64 0)
       )
      ) (.int .i64 0)
     )
    ) (.int .i64 0)
   )
  ) (.int .i64 0)
def A30 : Ann := .s (.n) (.s (.n) (.s (.s (.n) (.lp [17] 1073610880 (.s (.n) (.s (.s (.n) (.n)) (.s (.s (.n) (.plan [(0, 32, 2097152), (1, 2097152, 4194304), (0, 128, 8388608), (0, 8, 16777216), (12, 25165824, 33554432), (16, 33554432, 67108864), (50, 71303168, 134217728), (127, 32, 268435456), (255, 402653184, 0)] (.q 0 (.q 1 (.q 2 (.q 3 (.l 4 (.l 5 (.l 6 (.q 7 (.l 8 .done))))))))))) (.n)))))) (.s (.s (.n) (.lp [33] 70360154243584 (.s (.n) (.s (.s (.n) (.n)) (.s (.s (.n) (.plan [(0, 32, 137438953472), (1, 137438953472, 274877906944), (0, 4, 549755813888), (0, 512, 1099511627776), (12, 1649267441664, 2199023255552), (16, 2199023255552, 4398046511104), (50, 4672924418048, 8796093022208), (127, 32, 17592186044416), (255, 26388279066624, 0)] (.q 0 (.q 1 (.q 2 (.q 3 (.l 4 (.l 5 (.l 6 (.q 7 (.l 8 .done))))))))))) (.n)))))) (.s (.s (.n) (.lp [49] 4611123068473968640 (.s (.n) (.s (.s (.n) (.n)) (.s (.s (.n) (.plan [(0, 32, 9007199254740992), (1, 9007199254740992, 18014398509481984), (0, 2048, 36028797018963968), (0, 8, 72057594037927936), (12, 108086391056891904, 144115188075855872), (16, 144115188075855872, 288230376151711744), (50, 306244774661193728, 576460752303423488), (127, 32, 1152921504606846976), (255, 1729382256910270464, 0)] (.q 0 (.q 1 (.q 2 (.q 3 (.l 4 (.l 5 (.l 6 (.q 7 (.l 8 .done))))))))))) (.n)))))) (.s (.s (.n) (.lp [65] 302194561415509874581504 (.s (.n) (.s (.s (.n) (.n)) (.s (.s (.n) (.plan [(0, 32, 590295810358705651712), (1, 590295810358705651712, 1180591620717411303424), (0, 4, 2361183241434822606848), (0, 8192, 4722366482869645213696), (12, 7083549724304467820544, 9444732965739290427392), (16, 9444732965739290427392, 18889465931478580854784), (50, 20070057552195992158208, 37778931862957161709568), (127, 32, 75557863725914323419136), (255, 113336795588871485128704, 0)] (.q 0 (.q 1 (.q 2 (.q 3 (.l 4 (.l 5 (.l 6 (.q 7 (.l 8 .done))))))))))) (.n)))))) (.s (.n) (.n)))))))
set_option maxRecDepth 100000 in
theorem c30 (arg0 arg1 : Value) (K : Value → WP) (w : World) (h : s30 Try.prog arg0 arg1 K w) : Runs Try.prog 30 [arg0, arg1] K w :=
  runs_of_E wide (fn := Try.f30) (c := Try.f30.body.getD .skip) 79 A30 [arg0, arg1] w K Try.func30 (by kernel_rfl) (by kernel_rfl) (by kernel_rfl) (by kernel_rfl)
    (Eq.mp (by kernel_rfl : s30 Try.prog arg0 arg1 K w = E Try.prog (Try.f30.body.getD .skip) A30 (topK Try.prog K Try.f30.results) (fun i => (([arg0, arg1] : List Value)[i]?).getD undef) w) h)
theorem ct30 {arg0 arg1 : Value} {h : Hp} {post : Hp → Value → Prop} (hg : ∀ w0, Gs w0 h h [] (s30 Try.prog arg0 arg1 (RetP w0 h post))) : Ct Try.prog 30 [arg0, arg1] h post := Ct.of (sf := s30 Try.prog arg0 arg1) (c30 arg0 arg1) hg
theorem in30 {arg0 arg1 : Value} {S : WP} {K : Value → WP} (hg : G S (s30 Try.prog arg0 arg1 K)) : G S (Do Try.prog (vCall (.func (.func 30) #[] ⟨[]⟩) [arg0, arg1]) K) := Gs.into (args := [arg0, arg1]) (caps := []) (sf := s30 Try.prog arg0 arg1) (c30 arg0 arg1) hg

/- skewer/skewerlaw21.form : names 0 x, 1 node, 2 x, 3 node, 5 f, 6 i, 7 i -/
def s31 (P : Program) (arg0 arg1 : Value) (K : Value → WP) : WP :=
  Do P (V (Instr.box 27 arg0)) fun x1 =>
  Do P (V (Instr.alloc 61 true (.tuple #[]))) fun t2_4 =>
  Do P (vBuild 61 []) fun t3_8 =>
  Do P (V (Instr.alloc 61 true (.tuple #[]))) fun f4 =>
  Do P (U (Instr.storeAt 61 f4 t3_8)) fun t5_x =>
  Lp (α := Value) (fun c6 s6 => Jk fun _ => -- i
   Do P (V (Instr.fieldAt 27 x1 0)) fun t7_10 =>
   Do P (V (Instr.loadAt 25 t7_10)) fun t8_11 =>
   Do P (V (Instr.indexAt 25 t8_11 arg1)) fun t9_13 =>
   Do P (V (Instr.loadAt 49 t9_13)) fun t10_14 =>
   Do P (vBuiltin .len #[49] 3 [t10_14]) fun t11_15 =>
   Do P (V (binOp .lss 3 s6 t11_15)) fun t12_16 =>
   If t12_16 (
    Dr <|
    Qk P (V (Instr.fieldAt 61 f4 0)) fun C13 t13_19 =>
    Qk P (V (Instr.loadAt 59 t13_19)) fun C14 t14_20 =>
    Qk P (V (Instr.loadAt 27 x1)) fun C15 t15_21 =>
    Qk P (V (Instr.fieldAt 27 x1 0)) fun C16 t16_22 =>
    Qk P (V (Instr.loadAt 25 t16_22)) fun C17 t17_23 =>
    Qk P (V (Instr.indexAt 25 t17_23 arg1)) fun C18 t18_25 =>
    Qk P (V (Instr.loadAt 49 t18_25)) fun C19 t19_26 =>
    Qk P (V (Instr.indexAt 49 t19_26 s6)) fun C20 t20_28 =>
    Qk P (V (Instr.loadAt 3 t20_28)) fun C21 t21_29 =>
    Do P (vCall (.func (.func 31) #[] ⟨[]⟩) [t15_21, t21_29]) fun t22_30 =>
    With C14 <|
    With C13 <|
    Do P (vBuildSlice 59 1 [(0, t22_30)]) fun t23_31 =>
    With C14 <|
    With C13 <|
    Do P (vBuiltin .append #[59, 59] 59 [t14_20, t23_31]) fun t24_32 =>
    Qk P (V (Instr.fieldAt 61 f4 0)) fun C25 t25_33 =>
    Do P (U (Instr.storeAt 59 t25_33 t24_32)) fun t26_x =>
    Do P (V (binOp .add 3 s6 (.int .i64 1))) fun t27_18 =>
    c6 t27_18
   ) (
    Lp (α := Value) (fun c28 s28 => Jk fun _ => -- i
     Do P (V (Instr.fieldAt 27 x1 1)) fun t29_35 =>
     Do P (V (Instr.loadAt 25 t29_35)) fun t30_36 =>
     Do P (V (Instr.indexAt 25 t30_36 arg1)) fun t31_38 =>
     Do P (V (Instr.loadAt 49 t31_38)) fun t32_39 =>
     Do P (vBuiltin .len #[49] 3 [t32_39]) fun t33_40 =>
     Do P (V (binOp .lss 3 s28 t33_40)) fun t34_41 =>
     If t34_41 (
      Dr <|
      Qk P (V (Instr.fieldAt 61 f4 1)) fun C35 t35_44 =>
      Qk P (V (Instr.loadAt 59 t35_44)) fun C36 t36_45 =>
      Qk P (V (Instr.loadAt 27 x1)) fun C37 t37_46 =>
      Qk P (V (Instr.fieldAt 27 x1 1)) fun C38 t38_47 =>
      Qk P (V (Instr.loadAt 25 t38_47)) fun C39 t39_48 =>
      Qk P (V (Instr.indexAt 25 t39_48 arg1)) fun C40 t40_50 =>
      Qk P (V (Instr.loadAt 49 t40_50)) fun C41 t41_51 =>
      Qk P (V (Instr.indexAt 49 t41_51 s28)) fun C42 t42_53 =>
      Qk P (V (Instr.loadAt 3 t42_53)) fun C43 t43_54 =>
      Do P (vCall (.func (.func 31) #[] ⟨[]⟩) [t37_46, t43_54]) fun t44_55 =>
      With C36 <|
      With C35 <|
      Do P (vBuildSlice 59 1 [(0, t44_55)]) fun t45_56 =>
      With C36 <|
      With C35 <|
      Do P (vBuiltin .append #[59, 59] 59 [t36_45, t45_56]) fun t46_57 =>
      Qk P (V (Instr.fieldAt 61 f4 1)) fun C47 t47_58 =>
      Do P (U (Instr.storeAt 59 t47_58 t46_57)) fun t48_x =>
      Do P (V (binOp .add 3 s28 (.int .i64 1))) fun t49_43 =>
      c28 t49_43
     ) (
      Do P (V (Instr.loadAt 61 f4)) fun t50_59 =>
      Do P (U (Instr.storeAt 61 t2_4 t50_59)) fun t51_x =>
      RetC P 61 t2_4 K
     )
    ) (.int .i64 0)
   )
  ) (.int .i64 0)
def A31 : Ann := .s (.n) (.s (.n) (.s (.s (.n) (.lp [6] 17179868736 (.s (.s (.n) (.s (.n) (.n))) (.s (.plan [(0, 32, 524288), (1, 524288, 1048576), (0, 4, 2097152), (0, 4, 4194304), (8, 4194304, 8388608), (0, 2, 16777216), (48, 25165824, 33554432), (64, 33554432, 67108864), (0, 64, 134217728), (384, 201326592, 268435456), (512, 268435456, 536870912), (1028, 538968064, 1073741824), (2048, 1073741824, 2147483648), (6146, 2148532224, 4294967296), (16383, 32, 8589934592), (32767, 12884901888, 0)] (.q 0 (.q 1 (.q 2 (.q 3 (.q 4 (.q 5 (.q 6 (.q 7 (.q 8 (.q 9 (.q 10 (.l 11 (.l 12 (.l 13 (.q 14 (.l 15 .done))))))))))))))))) (.n))))) (.s (.s (.n) (.lp [7] 576460735123554432 (.s (.s (.n) (.s (.n) (.n))) (.s (.plan [(0, 32, 17592186044416), (1, 17592186044416, 35184372088832), (0, 4, 70368744177664), (0, 4, 140737488355328), (8, 140737488355328, 281474976710656), (0, 2, 562949953421312), (48, 844424930131968, 1125899906842624), (64, 1125899906842624, 2251799813685248), (0, 128, 4503599627370496), (384, 6755399441055744, 9007199254740992), (512, 9007199254740992, 18014398509481984), (1028, 18084767253659648, 36028797018963968), (2048, 36028797018963968, 72057594037927936), (6146, 72092778410016768, 144115188075855872), (16383, 32, 288230376151711744), (32767, 432345564227567616, 0)] (.q 0 (.q 1 (.q 2 (.q 3 (.q 4 (.q 5 (.q 6 (.q 7 (.q 8 (.q 9 (.q 10 (.l 11 (.l 12 (.l 13 (.q 14 (.l 15 .done))))))))))))))))) (.n))))) (.s (.n) (.n)))))
set_option maxRecDepth 100000 in
theorem c31 (arg0 arg1 : Value) (K : Value → WP) (w : World) (h : s31 Try.prog arg0 arg1 K w) : Runs Try.prog 31 [arg0, arg1] K w :=
  runs_of_E wide (fn := Try.f31) (c := Try.f31.body.getD .skip) 60 A31 [arg0, arg1] w K Try.func31 (by kernel_rfl) (by kernel_rfl) (by kernel_rfl) (by kernel_rfl)
    (Eq.mp (by kernel_rfl : s31 Try.prog arg0 arg1 K w = E Try.prog (Try.f31.body.getD .skip) A31 (topK Try.prog K Try.f31.results) (fun i => (([arg0, arg1] : List Value)[i]?).getD undef) w) h)
theorem ct31 {arg0 arg1 : Value} {h : Hp} {post : Hp → Value → Prop} (hg : ∀ w0, Gs w0 h h [] (s31 Try.prog arg0 arg1 (RetP w0 h post))) : Ct Try.prog 31 [arg0, arg1] h post := Ct.of (sf := s31 Try.prog arg0 arg1) (c31 arg0 arg1) hg
theorem in31 {arg0 arg1 : Value} {S : WP} {K : Value → WP} (hg : G S (s31 Try.prog arg0 arg1 K)) : G S (Do Try.prog (vCall (.func (.func 31) #[] ⟨[]⟩) [arg0, arg1]) K) := Gs.into (args := [arg0, arg1]) (caps := []) (sf := s31 Try.prog arg0 arg1) (c31 arg0 arg1) hg

/- skewer/dyad.Valid : names 0 x, 1 x -/
def s53 (P : Program) (arg0 : Value) (K : Value → WP) : WP :=
  Do P (V (Instr.box 65 arg0)) fun x1 =>
  Do P (V (Instr.fieldAt 65 x1 1)) fun t2_3 =>
  Do P (V (Instr.loadAt 3 t2_3)) fun t3_4 =>
  Do P (V (binOp .leq 3 (.int .i64 0) t3_4)) fun t4_5 =>
  Gd t4_5 true (
   Do P (V (Instr.fieldAt 65 x1 1)) fun t5_7 =>
   Do P (V (Instr.loadAt 3 t5_7)) fun t6_8 =>
   Do P (V (binOp .leq 3 t6_8 (.int .i64 30))) fun t7_9 =>
   Gd t7_9 true (
    Do P (V (Instr.fieldAt 65 x1 0)) fun t8_12 =>
    Do P (V (Instr.loadAt 3 t8_12)) fun t9_13 =>
    Do P (V (binOp .leq 3 (.int .i64 (-1099511627776)) t9_13)) fun t10_14 =>
    Gd t10_14 true (
     Do P (V (Instr.fieldAt 65 x1 0)) fun t11_17 =>
     Do P (V (Instr.loadAt 3 t11_17)) fun t12_18 =>
     Do P (V (binOp .leq 3 t12_18 (.int .i64 1099511627776))) fun t13_19 =>
     Gd t13_19 true (
      Do P (V (Instr.fieldAt 65 x1 1)) fun t14_22 =>
      Do P (V (Instr.loadAt 3 t14_22)) fun t15_23 =>
      Do P (V (EqG .eql 3 (.tmp 23) (.const (.int .i64 0)) t15_23 (.int .i64 0))) fun t16_24 =>
      Gd t16_24 false (
       Do P (V (Instr.fieldAt 65 x1 0)) fun t17_26 =>
       Do P (V (Instr.loadAt 3 t17_26)) fun t18_27 =>
       Do P (V (binOp .and 3 t18_27 (.int .i64 1))) fun t19_28 =>
       Do P (V (EqG .eql 3 (.tmp 28) (.const (.int .i64 1)) t19_28 (.int .i64 1))) fun t20_29 =>
       K t20_29
      ) (
       K (.bool true)
      )
     ) (
      K (.bool false)
     )
    ) (
     K (.bool false)
    )
   ) (
    K (.bool false)
   )
  ) (
   K (.bool false)
  )
def A53 : Ann := .s (.n) (.s (.n) (.n))
set_option maxRecDepth 100000 in
theorem c53 (arg0 : Value) (K : Value → WP) (w : World) (h : s53 Try.prog arg0 K w) : Runs Try.prog 53 [arg0] K w :=
  runs_of_E wide (fn := Try.f53) (c := Try.f53.body.getD .skip) 32 A53 [arg0] w K Try.func53 (by kernel_rfl) (by kernel_rfl) (by kernel_rfl) (by kernel_rfl)
    (Eq.mp (by kernel_rfl : s53 Try.prog arg0 K w = E Try.prog (Try.f53.body.getD .skip) A53 (topK Try.prog K Try.f53.results) (fun i => (([arg0] : List Value)[i]?).getD undef) w) h)
theorem ct53 {arg0 : Value} {h : Hp} {post : Hp → Value → Prop} (hg : ∀ w0, Gs w0 h h [] (s53 Try.prog arg0 (RetP w0 h post))) : Ct Try.prog 53 [arg0] h post := Ct.of (sf := s53 Try.prog arg0) (c53 arg0) hg
theorem in53 {arg0 : Value} {S : WP} {K : Value → WP} (hg : G S (s53 Try.prog arg0 K)) : G S (Do Try.prog (vCall (.func (.func 53) #[] ⟨[]⟩) [arg0]) K) := Gs.into (args := [arg0]) (caps := []) (sf := s53 Try.prog arg0) (c53 arg0) hg

/- skewer/value.build : names 0 x, 1 room, 2 x, 3 room, 4 f, 5 l, 6 r, 7 _, 8 y, 9 _, 10 y -/
def s54 (P : Program) (arg0 arg1 : Value) (K : Value → WP) : WP :=
  Do P (V (Instr.box 65 arg0)) fun x1 =>
  Do P (V (Instr.alloc 61 true (.tuple #[]))) fun f2 =>
  Do P (vNil arg1) fun t3_12 =>
  Do P (V (Instr.loadAt 3 t3_12)) fun t4_13 =>
  Do P (V (binOp .sub 3 t4_13 (.int .i64 1))) fun t5_14 =>
  Do P (vNil arg1) fun t6_15 =>
  Do P (U (Instr.storeAt 3 t6_15 t5_14)) fun t7_x =>
  Do P (vNil arg1) fun t8_17 =>
  Do P (V (Instr.loadAt 3 t8_17)) fun t9_18 =>
  Do P (V (binOp .lss 3 t9_18 (.int .i64 0))) fun t10_19 =>
  If t10_19 (
   Do P (V (Instr.loadAt 61 f2)) fun t11_20 =>
   Do P (U (Instr.storeAt 61 f2 t11_20)) fun t12_x =>
   RetC P 61 f2 K
  ) (
   Do P (V (Instr.loadAt 65 x1)) fun t13_22 =>
   Do P (vCall (.func (.func 70) #[] ⟨[]⟩) [t13_22]) fun t14_23 =>
   Do P (V (Instr.extract t14_23 0)) fun t15_24 =>
   Do P (V (Instr.extract t14_23 1)) fun t16_25 =>
   Do P (vBuiltin .len #[113] 3 [t15_24]) fun t17_27 =>
   Lp (α := Value) (fun c18 s18 => Jk fun _ => -- t28
    Do P (V (binOp .lss 3 s18 t17_27)) fun t19_29 =>
    If t19_29 (
     Do P (V (Instr.indexAt 113 t15_24 s18)) fun t20_30 =>
     Do P (V (Instr.loadAt 65 t20_30)) fun t21_31 =>
     Do P (V (Instr.alloc 65 true (.tuple #[]))) fun y22 =>
     Do P (U (Instr.storeAt 65 y22 t21_31)) fun t23_x =>
     Dr <|
     Qk P (V (Instr.fieldAt 61 f2 0)) fun C24 t24_32 =>
     Qk P (V (Instr.loadAt 59 t24_32)) fun C25 t25_33 =>
     Qk P (V (Instr.loadAt 65 y22)) fun C26 t26_34 =>
     Do P (vCall (.func (.func 54) #[] ⟨[]⟩) [t26_34, arg1]) fun t27_36 =>
     With C25 <|
     With C24 <|
     Do P (vBuildSlice 59 1 [(0, t27_36)]) fun t28_37 =>
     With C25 <|
     With C24 <|
     Do P (vBuiltin .append #[59, 59] 59 [t25_33, t28_37]) fun t29_38 =>
     Qk P (V (Instr.fieldAt 61 f2 0)) fun C30 t30_39 =>
     Do P (U (Instr.storeAt 59 t30_39 t29_38)) fun t31_x =>
     Do P (V (binOp .add 3 s18 (.int .i64 1))) fun t32_40 =>
     c18 t32_40
    ) (
     Do P (vBuiltin .len #[113] 3 [t16_25]) fun t33_42 =>
     Lp (α := Value) (fun c34 s34 => Jk fun _ => -- t43
      Do P (V (binOp .lss 3 s34 t33_42)) fun t35_44 =>
      If t35_44 (
       Do P (V (Instr.indexAt 113 t16_25 s34)) fun t36_45 =>
       Do P (V (Instr.loadAt 65 t36_45)) fun t37_46 =>
       Do P (V (Instr.alloc 65 true (.tuple #[]))) fun y38 =>
       Do P (U (Instr.storeAt 65 y38 t37_46)) fun t39_x =>
       Dr <|
       Qk P (V (Instr.fieldAt 61 f2 1)) fun C40 t40_47 =>
       Qk P (V (Instr.loadAt 59 t40_47)) fun C41 t41_48 =>
       Qk P (V (Instr.loadAt 65 y38)) fun C42 t42_49 =>
       Do P (vCall (.func (.func 54) #[] ⟨[]⟩) [t42_49, arg1]) fun t43_51 =>
       With C41 <|
       With C40 <|
       Do P (vBuildSlice 59 1 [(0, t43_51)]) fun t44_52 =>
       With C41 <|
       With C40 <|
       Do P (vBuiltin .append #[59, 59] 59 [t41_48, t44_52]) fun t45_53 =>
       Qk P (V (Instr.fieldAt 61 f2 1)) fun C46 t46_54 =>
       Do P (U (Instr.storeAt 59 t46_54 t45_53)) fun t47_x =>
       Do P (V (binOp .add 3 s34 (.int .i64 1))) fun t48_55 =>
       c34 t48_55
      ) (
       Do P (V (Instr.loadAt 61 f2)) fun t49_56 =>
       Do P (U (Instr.storeAt 61 f2 t49_56)) fun t50_x =>
       RetC P 61 f2 K
      )
     ) (.int .i64 0)
    )
   ) (.int .i64 0)
  )
def A54 : Ann := .s (.n) (.s (.s (.n) (.s (.n) (.s (.s (.n) (.n)) (.n)))) (.s (.n) (.s (.s (.n) (.lp [28] 2198754820352 (.s (.n) (.s (.s (.n) (.n)) (.s (.s (.n) (.plan [(0, 16, 4294967296), (1, 4294967296, 8589934592), (0, 256, 17179869184), (0, 2, 34359738368), (12, 51539607552, 68719476736), (16, 68719476736, 137438953472), (50, 146028888064, 274877906944), (127, 16, 549755813888), (255, 824633720832, 0)] (.q 0 (.q 1 (.q 2 (.q 3 (.l 4 (.l 5 (.l 6 (.q 7 (.l 8 .done))))))))))) (.n)))))) (.s (.s (.n) (.lp [43] 72048797944906752 (.s (.n) (.s (.s (.n) (.n)) (.s (.s (.n) (.plan [(0, 16, 140737488355328), (1, 140737488355328, 281474976710656), (0, 1024, 562949953421312), (0, 2, 1125899906842624), (12, 1688849860263936, 2251799813685248), (16, 2251799813685248, 4503599627370496), (50, 4785074604081152, 9007199254740992), (127, 16, 18014398509481984), (255, 27021597764222976, 0)] (.q 0 (.q 1 (.q 2 (.q 3 (.l 4 (.l 5 (.l 6 (.q 7 (.l 8 .done))))))))))) (.n)))))) (.s (.n) (.n))))))
set_option maxRecDepth 100000 in
theorem c54 (arg0 arg1 : Value) (K : Value → WP) (w : World) (h : s54 Try.prog arg0 arg1 K w) : Runs Try.prog 54 [arg0, arg1] K w :=
  runs_of_E wide (fn := Try.f54) (c := Try.f54.body.getD .skip) 57 A54 [arg0, arg1] w K Try.func54 (by kernel_rfl) (by kernel_rfl) (by kernel_rfl) (by kernel_rfl)
    (Eq.mp (by kernel_rfl : s54 Try.prog arg0 arg1 K w = E Try.prog (Try.f54.body.getD .skip) A54 (topK Try.prog K Try.f54.results) (fun i => (([arg0, arg1] : List Value)[i]?).getD undef) w) h)
theorem ct54 {arg0 arg1 : Value} {h : Hp} {post : Hp → Value → Prop} (hg : ∀ w0, Gs w0 h h [] (s54 Try.prog arg0 arg1 (RetP w0 h post))) : Ct Try.prog 54 [arg0, arg1] h post := Ct.of (sf := s54 Try.prog arg0 arg1) (c54 arg0 arg1) hg
theorem in54 {arg0 arg1 : Value} {S : WP} {K : Value → WP} (hg : G S (s54 Try.prog arg0 arg1 K)) : G S (Do Try.prog (vCall (.func (.func 54) #[] ⟨[]⟩) [arg0, arg1]) K) := Gs.into (args := [arg0, arg1]) (caps := []) (sf := s54 Try.prog arg0 arg1) (c54 arg0 arg1) hg

/- skewer/value.open : names  -/
def s55 (P : Program) (K : Value → WP) : WP :=
  Do P (V (Instr.makeMap 116 none)) fun t1_1 =>
  Do P (V (Instr.makeMap 117 none)) fun t2_2 =>
  Do P (V (Instr.makeMap 116 none)) fun t3_3 =>
  Do P (vBuild 119 [(0, t1_1), (1, t2_2), (2, t3_3)]) fun t4_4 =>
  Do P (V (Instr.box 119 t4_4)) fun t5_5 =>
  K t5_5
def A55 : Ann := .s (.n) (.s (.n) (.n))
set_option maxRecDepth 100000 in
theorem c55 (K : Value → WP) (w : World) (h : s55 Try.prog  K w) : Runs Try.prog 55 [] K w :=
  runs_of_E wide (fn := Try.f55) (c := Try.f55.body.getD .skip) 6 A55 [] w K Try.func55 (by kernel_rfl) (by kernel_rfl) (by kernel_rfl) (by kernel_rfl)
    (Eq.mp (by kernel_rfl : s55 Try.prog  K w = E Try.prog (Try.f55.body.getD .skip) A55 (topK Try.prog K Try.f55.results) (fun i => (([] : List Value)[i]?).getD undef) w) h)
theorem ct55 {h : Hp} {post : Hp → Value → Prop} (hg : ∀ w0, Gs w0 h h [] (s55 Try.prog  (RetP w0 h post))) : Ct Try.prog 55 [] h post := Ct.of (sf := s55 Try.prog ) (c55 ) hg
theorem in55 {S : WP} {K : Value → WP} (hg : G S (s55 Try.prog  K)) : G S (Do Try.prog (vCall (.func (.func 55) #[] ⟨[]⟩) []) K) := Gs.into (args := []) (caps := []) (sf := s55 Try.prog ) (c55 ) hg

/- (*skewer/value.book).enter : names 0 b, 1 f, 2 b, 3 f -/
def s56 (P : Program) (arg0 arg1 : Value) (K : Value → WP) : WP :=
  Do P (V (Instr.box 61 arg1)) fun f1 =>
  Dr <|
  Qk P (V (Instr.fieldAt 61 f1 0)) fun C2 t2_7 =>
  Qk P (V (Instr.loadAt 59 t2_7)) fun C3 t3_8 =>
  Qk P (V (Instr.fieldAt 61 f1 1)) fun C4 t4_11 =>
  Qk P (V (Instr.loadAt 59 t4_11)) fun C5 t5_12 =>
  Do P (vCall (.func (.func 71) #[] ⟨[]⟩) [arg0, t3_8]) fun t6_9 =>
  With C5 <|
  With C4 <|
  Do P (vCall (.func (.func 71) #[] ⟨[]⟩) [arg0, t5_12]) fun t7_13 =>
  Do P (vCall (.func (.func 57) #[] ⟨[]⟩) [arg0, t6_9, t7_13]) fun t8_14 =>
  K t8_14
def A56 : Ann := .s (.n) (.s (.plan [(0, 1, 32), (0, 1, 64), (0, 8, 128), (4, 128, 256), (10, 320, 512), (0, 1, 1024), (0, 8, 2048), (64, 2048, 4096), (176, 5120, 8192), (273, 8736, 16384), (1023, 16384, 16)] (.q 0 (.q 1 (.q 2 (.q 3 (.q 5 (.q 6 (.q 7 (.l 4 (.l 8 (.l 9 (.q 10 .done)))))))))))) (.n))
set_option maxRecDepth 100000 in
theorem c56 (arg0 arg1 : Value) (K : Value → WP) (w : World) (h : s56 Try.prog arg0 arg1 K w) : Runs Try.prog 56 [arg0, arg1] K w :=
  runs_of_E wide (fn := Try.f56) (c := Try.f56.body.getD .skip) 15 A56 [arg0, arg1] w K Try.func56 (by kernel_rfl) (by kernel_rfl) (by kernel_rfl) (by kernel_rfl)
    (Eq.mp (by kernel_rfl : s56 Try.prog arg0 arg1 K w = E Try.prog (Try.f56.body.getD .skip) A56 (topK Try.prog K Try.f56.results) (fun i => (([arg0, arg1] : List Value)[i]?).getD undef) w) h)
theorem ct56 {arg0 arg1 : Value} {h : Hp} {post : Hp → Value → Prop} (hg : ∀ w0, Gs w0 h h [] (s56 Try.prog arg0 arg1 (RetP w0 h post))) : Ct Try.prog 56 [arg0, arg1] h post := Ct.of (sf := s56 Try.prog arg0 arg1) (c56 arg0 arg1) hg
theorem in56 {arg0 arg1 : Value} {S : WP} {K : Value → WP} (hg : G S (s56 Try.prog arg0 arg1 K)) : G S (Do Try.prog (vCall (.func (.func 56) #[] ⟨[]⟩) [arg0, arg1]) K) := Gs.into (args := [arg0, arg1]) (caps := []) (sf := s56 Try.prog arg0 arg1) (c56 arg0 arg1) hg

/- (*skewer/value.book).make : names 0 b, 1 l, 2 r, 3 b, 4 l, 5 r, 7 w, 8 write, 9 text, 10 n, 11 known, 12 n -/
def s57 (P : Program) (arg0 arg1 arg2 : Value) (K : Value → WP) : WP :=
  Do P (V (Instr.alloc 125 true (.tuple #[]))) fun w1 =>
  Do P (vCall (.func (.func 73) #[] ⟨[]⟩) [w1, (.int .u8 123)]) fun t2_14 =>
  Do P (vCall (.func (.func 72) #[] ⟨[w1]⟩) [arg1]) fun t3_17 =>
  Do P (vCall (.func (.func 73) #[] ⟨[]⟩) [w1, (.int .u8 124)]) fun t4_18 =>
  Do P (vCall (.func (.func 72) #[] ⟨[w1]⟩) [arg2]) fun t5_21 =>
  Do P (vCall (.func (.func 73) #[] ⟨[]⟩) [w1, (.int .u8 125)]) fun t6_22 =>
  Do P (vCall (.func (.func 75) #[] ⟨[]⟩) [w1]) fun t7_23 =>
  Do P (vNil arg0) fun t8_26 =>
  Do P (V (Instr.fieldAt 119 t8_26 0)) fun t9_27 =>
  Do P (V (Instr.loadAt 116 t9_27)) fun t10_28 =>
  Do P (V (Instr.lookup 116 t10_28 t7_23 true)) fun t11_30 =>
  Do P (V (Instr.extract t11_30 0)) fun t12_31 =>
  Do P (V (Instr.extract t11_30 1)) fun t13_32 =>
  If t13_32 (
   K t12_31
  ) (
   Do P (vBuild 132 [(0, t7_23), (1, arg1), (2, arg2)]) fun t14_38 =>
   Do P (V (Instr.box 132 t14_38)) fun t15_39 =>
   Do P (vNil arg0) fun t16_41 =>
   Do P (V (Instr.fieldAt 119 t16_41 0)) fun t17_42 =>
   Do P (V (Instr.loadAt 116 t17_42)) fun t18_43 =>
   Do P (U (Instr.mapUpdate 116 t18_43 t7_23 t15_39)) fun t19_x =>
   K t15_39
  )
def A57 : Ann := .s (.n) (.s (.n) (.s (.n) (.s (.n) (.s (.n) (.s (.n) (.s (.n) (.s (.n) (.s (.n) (.s (.s (.n) (.s (.n) (.s (.s (.n) (.n)) (.n)))) (.s (.n) (.s (.n) (.s (.n) (.n)))))))))))))
set_option maxRecDepth 100000 in
theorem c57 (arg0 arg1 arg2 : Value) (K : Value → WP) (w : World) (h : s57 Try.prog arg0 arg1 arg2 K w) : Runs Try.prog 57 [arg0, arg1, arg2] K w :=
  runs_of_E wide (fn := Try.f57) (c := Try.f57.body.getD .skip) 47 A57 [arg0, arg1, arg2] w K Try.func57 (by kernel_rfl) (by kernel_rfl) (by kernel_rfl) (by kernel_rfl)
    (Eq.mp (by kernel_rfl : s57 Try.prog arg0 arg1 arg2 K w = E Try.prog (Try.f57.body.getD .skip) A57 (topK Try.prog K Try.f57.results) (fun i => (([arg0, arg1, arg2] : List Value)[i]?).getD undef) w) h)
theorem ct57 {arg0 arg1 arg2 : Value} {h : Hp} {post : Hp → Value → Prop} (hg : ∀ w0, Gs w0 h h [] (s57 Try.prog arg0 arg1 arg2 (RetP w0 h post))) : Ct Try.prog 57 [arg0, arg1, arg2] h post := Ct.of (sf := s57 Try.prog arg0 arg1 arg2) (c57 arg0 arg1 arg2) hg
theorem in57 {arg0 arg1 arg2 : Value} {S : WP} {K : Value → WP} (hg : G S (s57 Try.prog arg0 arg1 arg2 K)) : G S (Do Try.prog (vCall (.func (.func 57) #[] ⟨[]⟩) [arg0, arg1, arg2]) K) := Gs.into (args := [arg0, arg1, arg2]) (caps := []) (sf := s57 Try.prog arg0 arg1 arg2) (c57 arg0 arg1 arg2) hg

/- (*skewer/value.book).most : names 0 b, 1 x, 2 y, 3 b, 4 x, 5 y, 7 p, 8 known, 9 ok, 10 worse, 11 better, 12 out -/
def s58 (P : Program) (arg0 arg1 arg2 : Value) (K : Value → WP) : WP :=
  Do P (V (Instr.box 95 arg0)) fun b1 =>
  Do P (V (Instr.box 97 arg1)) fun x2 =>
  Do P (V (Instr.box 97 arg2)) fun y3 =>
  Dr <|
  Qk P (V (Instr.loadAt 97 x2)) fun C4 t4_13 =>
  Qk P (vNil t4_13) fun C5 t5_14 =>
  Qk P (V (Instr.fieldAt 132 t5_14 0)) fun C6 t6_15 =>
  Qk P (V (Instr.loadAt 9 t6_15)) fun C7 t7_16 =>
  Qk P (V (Instr.loadAt 97 y3)) fun C8 t8_17 =>
  Qk P (vNil t8_17) fun C9 t9_18 =>
  Qk P (V (Instr.fieldAt 132 t9_18 0)) fun C10 t10_19 =>
  Qk P (V (Instr.loadAt 9 t10_19)) fun C11 t11_20 =>
  Qk P (vBuild 137 [(0, t7_16), (1, t11_20)]) fun C12 t12_21 =>
  Do P (V (Instr.alloc 137 true (.tuple #[]))) fun p13 =>
  With C12 <|
  With C11 <|
  With C10 <|
  With C9 <|
  With C8 <|
  With C7 <|
  With C6 <|
  With C5 <|
  With C4 <|
  Do P (U (Instr.storeAt 137 p13 t12_21)) fun t14_x =>
  Dr <|
  Qk P (V (Instr.loadAt 95 b1)) fun C15 t15_23 =>
  Qk P (vNil t15_23) fun C16 t16_24 =>
  Qk P (V (Instr.fieldAt 119 t16_24 1)) fun C17 t17_25 =>
  Qk P (V (Instr.loadAt 117 t17_25)) fun C18 t18_26 =>
  Qk P (V (Instr.loadAt 137 p13)) fun C19 t19_27 =>
  Qk P (V (Instr.lookup 117 t18_26 t19_27 true)) fun C20 t20_28 =>
  Qk P (V (Instr.extract t20_28 0)) fun C21 t21_29 =>
  Qk P (V (Instr.extract t20_28 1)) fun C22 t22_30 =>
  If t22_30 (
   K t21_29
  ) (
   Jn (α := Value) (fun j23 => Jk fun _ => -- out
    Dr <|
    Qk P (V (Instr.loadAt 95 b1)) fun C24 t24_51 =>
    Qk P (vNil t24_51) fun C25 t25_52 =>
    Qk P (V (Instr.fieldAt 119 t25_52 1)) fun C26 t26_53 =>
    Qk P (V (Instr.loadAt 117 t26_53)) fun C27 t27_54 =>
    Qk P (V (Instr.loadAt 137 p13)) fun C28 t28_55 =>
    Do P (U (Instr.mapUpdate 117 t27_54 t28_55 j23)) fun t29_x =>
    K j23
   ) fun k23 =>
   Do P (V (Instr.loadAt 97 x2)) fun t30_35 =>
   Do P (vNil t30_35) fun t31_36 =>
   Do P (V (Instr.fieldAt 132 t31_36 1)) fun t32_37 =>
   Do P (V (Instr.loadAt 120 t32_37)) fun t33_38 =>
   Do P (vCall (.func (.func 78) #[] ⟨[]⟩) [t33_38, (.func (.func 76) #[] ⟨[b1, y3]⟩)]) fun t34_40 =>
   Do P (V (Op.unary .not t34_40)) fun t35_41 =>
   Gd t35_41 true (
    Do P (V (Instr.loadAt 97 y3)) fun t36_43 =>
    Do P (vNil t36_43) fun t37_44 =>
    Do P (V (Instr.fieldAt 132 t37_44 2)) fun t38_45 =>
    Do P (V (Instr.loadAt 120 t38_45)) fun t39_46 =>
    Do P (vCall (.func (.func 78) #[] ⟨[]⟩) [t39_46, (.func (.func 77) #[] ⟨[b1, x2]⟩)]) fun t40_48 =>
    Do P (V (Op.unary .not t40_48)) fun t41_49 =>
    k23 t41_49
   ) (
    k23 (.bool false)
   )
  )
def A58 : Ann := .s (.n) (.s (.plan [(0, 16, 8192), (1, 8192, 16384), (2, 16384, 32768), (4, 32768, 65536), (0, 32, 131072), (16, 131072, 262144), (32, 262144, 524288), (64, 524288, 1048576), (136, 1114112, 2097152), (0, 0, 128), (1023, 2097280, 0)] (.q 0 (.q 1 (.q 2 (.q 3 (.q 4 (.q 5 (.q 6 (.q 7 (.q 8 (.l 9 (.l 10 .done)))))))))))) (.s (.s (.plan [(0, 8, 8388608), (1, 8388608, 16777216), (2, 16777216, 33554432), (4, 33554432, 67108864), (0, 128, 134217728), (24, 201326592, 268435456), (32, 268435456, 4194304), (64, 4194304, 536870912), (64, 4194304, 1073741824), (255, 536870912, 256), (1023, 1073741824, 512)] (.q 0 (.q 1 (.q 2 (.q 3 (.q 4 (.q 5 (.q 6 (.q 7 (.q 8 (.q 9 (.q 10 .done)))))))))))) (.s (.n) (.s (.s (.n) (.n)) (.n)))) (.s (.n) (.s (.n) (.j [12] 2251765453950976 (.n) (.s (.plan [(0, 8, 2251799813685248), (1, 2251799813685248, 4503599627370496), (2, 4503599627370496, 9007199254740992), (4, 9007199254740992, 18014398509481984), (0, 128, 36028797018963968), (0, 4096, 72057594037927936), (63, 126100789566373888, 0)] (.q 0 (.q 1 (.q 2 (.q 3 (.q 4 (.q 5 (.l 6 .done)))))))) (.s (.n) (.n))))))))
set_option maxRecDepth 100000 in
theorem c58 (arg0 arg1 arg2 : Value) (K : Value → WP) (w : World) (h : s58 Try.prog arg0 arg1 arg2 K w) : Runs Try.prog 58 [arg0, arg1, arg2] K w :=
  runs_of_E wide (fn := Try.f58) (c := Try.f58.body.getD .skip) 58 A58 [arg0, arg1, arg2] w K Try.func58 (by kernel_rfl) (by kernel_rfl) (by kernel_rfl) (by kernel_rfl)
    (Eq.mp (by kernel_rfl : s58 Try.prog arg0 arg1 arg2 K w = E Try.prog (Try.f58.body.getD .skip) A58 (topK Try.prog K Try.f58.results) (fun i => (([arg0, arg1, arg2] : List Value)[i]?).getD undef) w) h)
theorem ct58 {arg0 arg1 arg2 : Value} {h : Hp} {post : Hp → Value → Prop} (hg : ∀ w0, Gs w0 h h [] (s58 Try.prog arg0 arg1 arg2 (RetP w0 h post))) : Ct Try.prog 58 [arg0, arg1, arg2] h post := Ct.of (sf := s58 Try.prog arg0 arg1 arg2) (c58 arg0 arg1 arg2) hg
theorem in58 {arg0 arg1 arg2 : Value} {S : WP} {K : Value → WP} (hg : G S (s58 Try.prog arg0 arg1 arg2 K)) : G S (Do Try.prog (vCall (.func (.func 58) #[] ⟨[]⟩) [arg0, arg1, arg2]) K) := Gs.into (args := [arg0, arg1, arg2]) (caps := []) (sf := s58 Try.prog arg0 arg1 arg2) (c58 arg0 arg1 arg2) hg

/- skewer/value.parents : names 0 x, 1 x, 2 l, 3 r -/
def s70 (P : Program) (arg0 : Value) (K : Value → WP) : WP :=
  Do P (V (Instr.box 65 arg0)) fun x1 =>
  Do P (V (Instr.fieldAt 65 x1 1)) fun t2_5 =>
  Do P (V (Instr.loadAt 3 t2_5)) fun t3_6 =>
  Do P (V (binOp .gtr 3 t3_6 (.int .i64 0))) fun t4_7 =>
  If t4_7 (
   Dr <|
   Qk P (V (Instr.fieldAt 65 x1 0)) fun C5 t5_8 =>
   Qk P (V (Instr.loadAt 3 t5_8)) fun C6 t6_9 =>
   Qk P (V (binOp .sub 3 t6_9 (.int .i64 1))) fun C7 t7_10 =>
   Qk P (V (Instr.fieldAt 65 x1 1)) fun C8 t8_11 =>
   Qk P (V (Instr.loadAt 3 t8_11)) fun C9 t9_12 =>
   Qk P (V (Instr.fieldAt 65 x1 0)) fun C10 t10_15 =>
   Qk P (V (Instr.loadAt 3 t10_15)) fun C11 t11_16 =>
   Qk P (V (binOp .add 3 t11_16 (.int .i64 1))) fun C12 t12_17 =>
   Qk P (V (Instr.fieldAt 65 x1 1)) fun C13 t13_18 =>
   Qk P (V (Instr.loadAt 3 t13_18)) fun C14 t14_19 =>
   Do P (vCall (.func (.func 84) #[] ⟨[]⟩) [t7_10, t9_12]) fun t15_13 =>
   With C14 <|
   With C13 <|
   With C12 <|
   With C11 <|
   With C10 <|
   Or2 (
    Do P (vBuildSlice 113 1 [(0, t15_13)]) fun t16_14 =>
    With C14 <|
    With C13 <|
    With C12 <|
    With C11 <|
    With C10 <|
    Do P (vCall (.func (.func 84) #[] ⟨[]⟩) [t12_17, t14_19]) fun t17_20 =>
    Do P (vBuildSlice 113 1 [(0, t17_20)]) fun t18_21 =>
    K (.tuple #[t16_14, t18_21])
   ) (
    Do P (vCall (.func (.func 84) #[] ⟨[]⟩) [t12_17, t14_19]) fun t19_20 =>
    Or2 (
     Do P (vBuildSlice 113 1 [(0, t15_13)]) fun t20_14 =>
     With C14 <|
     With C13 <|
     With C12 <|
     With C11 <|
     With C10 <|
     Do P (vBuildSlice 113 1 [(0, t19_20)]) fun t21_21 =>
     K (.tuple #[t20_14, t21_21])
    ) (
     Do P (vBuildSlice 113 1 [(0, t19_20)]) fun t22_21 =>
     Do P (vBuildSlice 113 1 [(0, t15_13)]) fun t23_14 =>
     With C14 <|
     With C13 <|
     With C12 <|
     With C11 <|
     With C10 <|
     K (.tuple #[t23_14, t22_21])
    )
   )
  ) (
   Do P (V (Instr.fieldAt 65 x1 0)) fun t24_23 =>
   Do P (V (Instr.loadAt 3 t24_23)) fun t25_24 =>
   Do P (V (binOp .gtr 3 t25_24 (.int .i64 0))) fun t26_25 =>
   If t26_25 (
    Do P (V (Instr.fieldAt 65 x1 0)) fun t27_26 =>
    Do P (V (Instr.loadAt 3 t27_26)) fun t28_27 =>
    Do P (V (binOp .sub 3 t28_27 (.int .i64 1))) fun t29_28 =>
    Do P (vBuild 65 [(0, t29_28)]) fun t30_29 =>
    Do P (vBuildSlice 113 1 [(0, t30_29)]) fun t31_30 =>
    K (.tuple #[t31_30, (.slice none 0 0)])
   ) (
    Do P (V (Instr.fieldAt 65 x1 0)) fun t32_32 =>
    Do P (V (Instr.loadAt 3 t32_32)) fun t33_33 =>
    Do P (V (binOp .lss 3 t33_33 (.int .i64 0))) fun t34_34 =>
    If t34_34 (
     Dr <|
     Qk P (V (Instr.fieldAt 65 x1 0)) fun C35 t35_35 =>
     Qk P (V (Instr.loadAt 3 t35_35)) fun C36 t36_36 =>
     Qk P (V (binOp .add 3 t36_36 (.int .i64 1))) fun C37 t37_37 =>
     Qk P (vBuild 65 [(0, t37_37)]) fun C38 t38_38 =>
     Do P (vBuildSlice 113 1 [(0, t38_38)]) fun t39_39 =>
     K (.tuple #[(.slice none 0 0), t39_39])
    ) (
     K (.tuple #[(.slice none 0 0), (.slice none 0 0)])
    )
   )
  )
def A70 : Ann := .s (.n) (.s (.s (.n) (.s (.s (.plan [(0, 2, 256), (1, 256, 512), (2, 512, 1024), (0, 2, 2048), (8, 2048, 4096), (20, 5120, 8192), (32, 8192, 16384), (0, 2, 32768), (128, 32768, 65536), (256, 65536, 131072), (0, 2, 262144), (1024, 262144, 524288), (2592, 655360, 1048576), (4096, 1048576, 2097152), (4223, 16384, 4), (32767, 2097152, 8)] (.q 0 (.q 1 (.q 2 (.q 3 (.q 4 (.q 7 (.q 8 (.q 9 (.q 10 (.q 11 (.l 5 (.or (.l 6 (.l 12 (.q 14 (.l 13 (.q 15 .done))))) (.l 12 (.or (.l 6 (.q 14 (.l 13 (.q 15 .done)))) (.l 13 (.l 6 (.q 14 (.q 15 .done))))))))))))))))))) (.n)) (.s (.n) (.s (.s (.n) (.n)) (.s (.n) (.s (.s (.plan [(0, 2, 34359738368), (1, 34359738368, 68719476736), (2, 68719476736, 137438953472), (4, 137438953472, 274877906944), (8, 274877906944, 549755813888), (0, 0, 4), (63, 549755813888, 8)] (.q 0 (.q 1 (.q 2 (.q 3 (.q 5 (.l 4 (.q 6 .done)))))))) (.n)) (.n))))))) (.s (.n) (.n)))
set_option maxRecDepth 100000 in
theorem c70 (arg0 : Value) (K : Value → WP) (w : World) (h : s70 Try.prog arg0 K w) : Runs Try.prog 70 [arg0] K w :=
  runs_of_E wide (fn := Try.f70) (c := Try.f70.body.getD .skip) 40 A70 [arg0] w K Try.func70 (by kernel_rfl) (by kernel_rfl) (by kernel_rfl) (by kernel_rfl)
    (Eq.mp (by kernel_rfl : s70 Try.prog arg0 K w = E Try.prog (Try.f70.body.getD .skip) A70 (topK Try.prog K Try.f70.results) (fun i => (([arg0] : List Value)[i]?).getD undef) w) h)
theorem ct70 {arg0 : Value} {h : Hp} {post : Hp → Value → Prop} (hg : ∀ w0, Gs w0 h h [] (s70 Try.prog arg0 (RetP w0 h post))) : Ct Try.prog 70 [arg0] h post := Ct.of (sf := s70 Try.prog arg0) (c70 arg0) hg
theorem in70 {arg0 : Value} {S : WP} {K : Value → WP} (hg : G S (s70 Try.prog arg0 K)) : G S (Do Try.prog (vCall (.func (.func 70) #[] ⟨[]⟩) [arg0]) K) := Gs.into (args := [arg0]) (caps := []) (sf := s70 Try.prog arg0) (c70 arg0) hg

/- (*skewer/value.book).all : names 0 b, 1 l, 2 b, 3 l, 5 out, 6 _, 7 f -/
def s71 (P : Program) (arg0 arg1 : Value) (K : Value → WP) : WP :=
  Do P (vBuiltin .len #[59] 3 [arg1]) fun t1_9 =>
  Lp (α := Value × Value) (fun c2 s2 => Jk fun _ => -- out t10
   Do P (V (binOp .lss 3 s2.2 t1_9)) fun t3_11 =>
   If t3_11 (
    Do P (V (Instr.indexAt 59 arg1 s2.2)) fun t4_12 =>
    Do P (V (Instr.loadAt 61 t4_12)) fun t5_13 =>
    Do P (V (Instr.alloc 61 true (.tuple #[]))) fun f6 =>
    Do P (U (Instr.storeAt 61 f6 t5_13)) fun t7_x =>
    Do P (V (Instr.loadAt 61 f6)) fun t8_16 =>
    Do P (vCall (.func (.func 56) #[] ⟨[]⟩) [arg0, t8_16]) fun t9_17 =>
    Do P (vBuildSlice 120 1 [(0, t9_17)]) fun t10_18 =>
    Do P (vBuiltin .append #[120, 120] 120 [s2.1, t10_18]) fun t11_19 =>
    Do P (V (binOp .add 3 s2.2 (.int .i64 1))) fun t12_20 =>
    c2 (t11_19, t12_20)
   ) (
    K s2.1
   )
  ) ((.slice none 0 0), (.int .i64 0))
def A71 : Ann := .s (.n) (.s (.n) (.s (.s (.n) (.lp [5, 10] 2096288 (.s (.n) (.s (.s (.n) (.n)) (.s (.s (.n) (.n)) (.n)))))) (.s (.n) (.n))))
set_option maxRecDepth 100000 in
theorem c71 (arg0 arg1 : Value) (K : Value → WP) (w : World) (h : s71 Try.prog arg0 arg1 K w) : Runs Try.prog 71 [arg0, arg1] K w :=
  runs_of_E wide (fn := Try.f71) (c := Try.f71.body.getD .skip) 22 A71 [arg0, arg1] w K Try.func71 (by kernel_rfl) (by kernel_rfl) (by kernel_rfl) (by kernel_rfl)
    (Eq.mp (by kernel_rfl : s71 Try.prog arg0 arg1 K w = E Try.prog (Try.f71.body.getD .skip) A71 (topK Try.prog K Try.f71.results) (fun i => (([arg0, arg1] : List Value)[i]?).getD undef) w) h)
theorem ct71 {arg0 arg1 : Value} {h : Hp} {post : Hp → Value → Prop} (hg : ∀ w0, Gs w0 h h [] (s71 Try.prog arg0 arg1 (RetP w0 h post))) : Ct Try.prog 71 [arg0, arg1] h post := Ct.of (sf := s71 Try.prog arg0 arg1) (c71 arg0 arg1) hg
theorem in71 {arg0 arg1 : Value} {S : WP} {K : Value → WP} (hg : G S (s71 Try.prog arg0 arg1 K)) : G S (Do Try.prog (vCall (.func (.func 71) #[] ⟨[]⟩) [arg0, arg1]) K) := Gs.into (args := [arg0, arg1]) (caps := []) (sf := s71 Try.prog arg0 arg1) (c71 arg0 arg1) hg

/- (*skewer/value.book).make$1 : names 0 list, 2 list, 3 i, 4 n -/
def s72 (P : Program) (arg0 arg1 : Value) (K : Value → WP) : WP :=
  Do P (vBuiltin .len #[120] 3 [arg0]) fun t1_6 =>
  Lp (α := Value) (fun c2 s2 => Jk fun _ => -- t7
   Do P (V (binOp .lss 3 s2 t1_6)) fun t3_8 =>
   If t3_8 (
    Do P (V (Instr.indexAt 120 arg0 s2)) fun t4_10 =>
    Do P (V (Instr.loadAt 97 t4_10)) fun t5_11 =>
    Jn (α := Unit) (fun j6 => Jk fun _ => -- 
     Do P (vNil t5_11) fun t7_16 =>
     Do P (V (Instr.fieldAt 132 t7_16 0)) fun t8_17 =>
     Do P (V (Instr.loadAt 9 t8_17)) fun t9_18 =>
     Do P (vCall (.func (.func 74) #[] ⟨[]⟩) [arg1, t9_18]) fun t10_19 =>
     Do P (V (binOp .add 3 s2 (.int .i64 1))) fun t11_20 =>
     c2 t11_20
    ) fun k6 =>
    Do P (V (binOp .gtr 3 s2 (.int .i64 0))) fun t12_13 =>
    If t12_13 (
     Do P (vCall (.func (.func 73) #[] ⟨[]⟩) [arg1, (.int .u8 44)]) fun t13_14 =>
     k6 ()
    ) (
     k6 ()
    )
   ) (
    K (.tuple #[])
   )
  ) (.int .i64 0)
def A72 : Ann := .s (.n) (.lp [7] 2097048 (.s (.n) (.s (.s (.n) (.n)) (.s (.s (.n) (.j [] 28672 (.s (.n) (.s (.n) (.n))) (.n))) (.n)))))
set_option maxRecDepth 100000 in
theorem c72 (arg0 arg1 : Value) (K : Value → WP) (w : World) (h : s72 Try.prog arg0 arg1 K w) : Runs Try.prog 72 [arg0, arg1] K w :=
  runs_of_E wide (fn := Try.f72) (c := Try.f72.body.getD .skip) 21 A72 [arg0, arg1] w K Try.func72 (by kernel_rfl) (by kernel_rfl) (by kernel_rfl) (by kernel_rfl)
    (Eq.mp (by kernel_rfl : s72 Try.prog arg0 arg1 K w = E Try.prog (Try.f72.body.getD .skip) A72 (topK Try.prog K Try.f72.results) (fun i => (([arg0, arg1] : List Value)[i]?).getD undef) w) h)
theorem ct72 {arg0 arg1 : Value} {h : Hp} {post : Hp → Value → Prop} (hg : ∀ w0, Gs w0 h h [] (s72 Try.prog arg0 arg1 (RetP w0 h post))) : Ct Try.prog 72 [arg0, arg1] h post := Ct.of (sf := s72 Try.prog arg0 arg1) (c72 arg0 arg1) hg
theorem in72 {arg0 arg1 : Value} {S : WP} {K : Value → WP} (hg : G S (s72 Try.prog arg0 arg1 K)) : G S (Do Try.prog (vCall (.func (.func 72) #[] ⟨[arg1]⟩) [arg0]) K) := Gs.into (args := [arg0]) (caps := [arg1]) (sf := s72 Try.prog arg0 arg1) (c72 arg0 arg1) hg

/- (*strings.Builder).WriteByte : names 0 b, 1 c, 2 b, 3 c -/
def s73 (P : Program) (arg0 arg1 : Value) (K : Value → WP) : WP :=
  Do P (vCall (.func (.func 85) #[] ⟨[]⟩) [arg0]) fun t1_6 =>
  Do P (vNil arg0) fun t2_9 =>
  Do P (V (Instr.fieldAt 125 t2_9 1)) fun t3_10 =>
  Do P (V (Instr.loadAt 123 t3_10)) fun t4_11 =>
  Do P (vBuildSlice 123 1 [(0, arg1)]) fun t5_13 =>
  Do P (vBuiltin .append #[123, 123] 123 [t4_11, t5_13]) fun t6_14 =>
  Do P (vNil arg0) fun t7_15 =>
  Do P (V (Instr.fieldAt 125 t7_15 1)) fun t8_16 =>
  Do P (U (Instr.storeAt 123 t8_16 t6_14)) fun t9_x =>
  K .nilIface
def A73 : Ann := .s (.n) (.s (.n) (.s (.n) (.s (.n) (.n))))
set_option maxRecDepth 100000 in
theorem c73 (arg0 arg1 : Value) (K : Value → WP) (w : World) (h : s73 Try.prog arg0 arg1 K w) : Runs Try.prog 73 [arg0, arg1] K w :=
  runs_of_E wide (fn := Try.f73) (c := Try.f73.body.getD .skip) 17 A73 [arg0, arg1] w K Try.func73 (by kernel_rfl) (by kernel_rfl) (by kernel_rfl) (by kernel_rfl)
    (Eq.mp (by kernel_rfl : s73 Try.prog arg0 arg1 K w = E Try.prog (Try.f73.body.getD .skip) A73 (topK Try.prog K Try.f73.results) (fun i => (([arg0, arg1] : List Value)[i]?).getD undef) w) h)
theorem ct73 {arg0 arg1 : Value} {h : Hp} {post : Hp → Value → Prop} (hg : ∀ w0, Gs w0 h h [] (s73 Try.prog arg0 arg1 (RetP w0 h post))) : Ct Try.prog 73 [arg0, arg1] h post := Ct.of (sf := s73 Try.prog arg0 arg1) (c73 arg0 arg1) hg
theorem in73 {arg0 arg1 : Value} {S : WP} {K : Value → WP} (hg : G S (s73 Try.prog arg0 arg1 K)) : G S (Do Try.prog (vCall (.func (.func 73) #[] ⟨[]⟩) [arg0, arg1]) K) := Gs.into (args := [arg0, arg1]) (caps := []) (sf := s73 Try.prog arg0 arg1) (c73 arg0 arg1) hg

/- (*strings.Builder).WriteString : names 0 b, 1 s, 2 b, 3 s -/
def s74 (P : Program) (arg0 arg1 : Value) (K : Value → WP) : WP :=
  Do P (vCall (.func (.func 85) #[] ⟨[]⟩) [arg0]) fun t1_7 =>
  Do P (vNil arg0) fun t2_10 =>
  Do P (V (Instr.fieldAt 125 t2_10 1)) fun t3_11 =>
  Do P (V (Instr.loadAt 123 t3_11)) fun t4_12 =>
  Do P (vBuiltin .append #[123, 9] 123 [t4_12, arg1]) fun t5_14 =>
  Do P (vNil arg0) fun t6_15 =>
  Do P (V (Instr.fieldAt 125 t6_15 1)) fun t7_16 =>
  Do P (U (Instr.storeAt 123 t7_16 t5_14)) fun t8_x =>
  Do P (vBuiltin .len #[9] 3 [arg1]) fun t9_18 =>
  K (.tuple #[t9_18, .nilIface])
def A74 : Ann := .s (.n) (.s (.n) (.s (.n) (.s (.n) (.n))))
set_option maxRecDepth 100000 in
theorem c74 (arg0 arg1 : Value) (K : Value → WP) (w : World) (h : s74 Try.prog arg0 arg1 K w) : Runs Try.prog 74 [arg0, arg1] K w :=
  runs_of_E wide (fn := Try.f74) (c := Try.f74.body.getD .skip) 19 A74 [arg0, arg1] w K Try.func74 (by kernel_rfl) (by kernel_rfl) (by kernel_rfl) (by kernel_rfl)
    (Eq.mp (by kernel_rfl : s74 Try.prog arg0 arg1 K w = E Try.prog (Try.f74.body.getD .skip) A74 (topK Try.prog K Try.f74.results) (fun i => (([arg0, arg1] : List Value)[i]?).getD undef) w) h)
theorem ct74 {arg0 arg1 : Value} {h : Hp} {post : Hp → Value → Prop} (hg : ∀ w0, Gs w0 h h [] (s74 Try.prog arg0 arg1 (RetP w0 h post))) : Ct Try.prog 74 [arg0, arg1] h post := Ct.of (sf := s74 Try.prog arg0 arg1) (c74 arg0 arg1) hg
theorem in74 {arg0 arg1 : Value} {S : WP} {K : Value → WP} (hg : G S (s74 Try.prog arg0 arg1 K)) : G S (Do Try.prog (vCall (.func (.func 74) #[] ⟨[]⟩) [arg0, arg1]) K) := Gs.into (args := [arg0, arg1]) (caps := []) (sf := s74 Try.prog arg0 arg1) (c74 arg0 arg1) hg

/- (*strings.Builder).String : names 0 b, 1 b -/
def s75 (P : Program) (arg0 : Value) (K : Value → WP) : WP :=
  Dr <|
  Qk P (vNil arg0) fun C1 t1_4 =>
  Qk P (V (Instr.fieldAt 125 t1_4 1)) fun C2 t2_5 =>
  Qk P (V (Instr.loadAt 123 t2_5)) fun C3 t3_6 =>
  Qk P (vNil arg0) fun C4 t4_9 =>
  Qk P (V (Instr.fieldAt 125 t4_9 1)) fun C5 t5_10 =>
  Qk P (V (Instr.loadAt 123 t5_10)) fun C6 t6_11 =>
  Qk P (vBuiltin .len #[123] 3 [t6_11]) fun C7 t7_12 =>
  Do P (vBuiltin .unsafeSliceData #[123] 149 [t3_6]) fun t8_7 =>
  With C7 <|
  With C6 <|
  With C5 <|
  With C4 <|
  Do P (vBuiltin .unsafeString #[149, 3] 9 [t8_7, t7_12]) fun t9_13 =>
  K t9_13
def A75 : Ann := .s (.n) (.s (.plan [(0, 1, 8), (1, 8, 16), (2, 16, 32), (4, 32, 64), (8, 64, 128), (0, 1, 256), (32, 256, 512), (64, 512, 1024), (128, 1024, 2048), (256, 2048, 4096), (528, 4224, 8192), (2047, 8192, 4)] (.q 0 (.q 1 (.q 2 (.q 3 (.q 5 (.q 6 (.q 7 (.q 8 (.q 9 (.l 4 (.l 10 (.q 11 .done))))))))))))) (.n))
set_option maxRecDepth 100000 in
theorem c75 (arg0 : Value) (K : Value → WP) (w : World) (h : s75 Try.prog arg0 K w) : Runs Try.prog 75 [arg0] K w :=
  runs_of_E wide (fn := Try.f75) (c := Try.f75.body.getD .skip) 14 A75 [arg0] w K Try.func75 (by kernel_rfl) (by kernel_rfl) (by kernel_rfl) (by kernel_rfl)
    (Eq.mp (by kernel_rfl : s75 Try.prog arg0 K w = E Try.prog (Try.f75.body.getD .skip) A75 (topK Try.prog K Try.f75.results) (fun i => (([arg0] : List Value)[i]?).getD undef) w) h)
theorem ct75 {arg0 : Value} {h : Hp} {post : Hp → Value → Prop} (hg : ∀ w0, Gs w0 h h [] (s75 Try.prog arg0 (RetP w0 h post))) : Ct Try.prog 75 [arg0] h post := Ct.of (sf := s75 Try.prog arg0) (c75 arg0) hg
theorem in75 {arg0 : Value} {S : WP} {K : Value → WP} (hg : G S (s75 Try.prog arg0 K)) : G S (Do Try.prog (vCall (.func (.func 75) #[] ⟨[]⟩) [arg0]) K) := Gs.into (args := [arg0]) (caps := []) (sf := s75 Try.prog arg0) (c75 arg0) hg

/- (*skewer/value.book).most$1 : names 0 z, 3 z -/
def s76 (P : Program) (arg0 arg1 arg2 : Value) (K : Value → WP) : WP :=
  Do P (V (Instr.loadAt 95 arg1)) fun t1_5 =>
  Do P (V (Instr.loadAt 97 arg2)) fun t2_6 =>
  Do P (vCall (.func (.func 58) #[] ⟨[]⟩) [t1_5, t2_6, arg0]) fun t3_8 =>
  K t3_8
def A76 : Ann := .s (.n) (.s (.n) (.n))
set_option maxRecDepth 100000 in
theorem c76 (arg0 arg1 arg2 : Value) (K : Value → WP) (w : World) (h : s76 Try.prog arg0 arg1 arg2 K w) : Runs Try.prog 76 [arg0, arg1, arg2] K w :=
  runs_of_E wide (fn := Try.f76) (c := Try.f76.body.getD .skip) 9 A76 [arg0, arg1, arg2] w K Try.func76 (by kernel_rfl) (by kernel_rfl) (by kernel_rfl) (by kernel_rfl)
    (Eq.mp (by kernel_rfl : s76 Try.prog arg0 arg1 arg2 K w = E Try.prog (Try.f76.body.getD .skip) A76 (topK Try.prog K Try.f76.results) (fun i => (([arg0, arg1, arg2] : List Value)[i]?).getD undef) w) h)
theorem ct76 {arg0 arg1 arg2 : Value} {h : Hp} {post : Hp → Value → Prop} (hg : ∀ w0, Gs w0 h h [] (s76 Try.prog arg0 arg1 arg2 (RetP w0 h post))) : Ct Try.prog 76 [arg0, arg1, arg2] h post := Ct.of (sf := s76 Try.prog arg0 arg1 arg2) (c76 arg0 arg1 arg2) hg
theorem in76 {arg0 arg1 arg2 : Value} {S : WP} {K : Value → WP} (hg : G S (s76 Try.prog arg0 arg1 arg2 K)) : G S (Do Try.prog (vCall (.func (.func 76) #[] ⟨[arg1, arg2]⟩) [arg0]) K) := Gs.into (args := [arg0]) (caps := [arg1, arg2]) (sf := s76 Try.prog arg0 arg1 arg2) (c76 arg0 arg1 arg2) hg

/- (*skewer/value.book).most$2 : names 0 z, 3 z -/
def s77 (P : Program) (arg0 arg1 arg2 : Value) (K : Value → WP) : WP :=
  Do P (V (Instr.loadAt 95 arg1)) fun t1_5 =>
  Do P (V (Instr.loadAt 97 arg2)) fun t2_7 =>
  Do P (vCall (.func (.func 58) #[] ⟨[]⟩) [t1_5, arg0, t2_7]) fun t3_8 =>
  K t3_8
def A77 : Ann := .s (.n) (.s (.n) (.n))
set_option maxRecDepth 100000 in
theorem c77 (arg0 arg1 arg2 : Value) (K : Value → WP) (w : World) (h : s77 Try.prog arg0 arg1 arg2 K w) : Runs Try.prog 77 [arg0, arg1, arg2] K w :=
  runs_of_E wide (fn := Try.f77) (c := Try.f77.body.getD .skip) 9 A77 [arg0, arg1, arg2] w K Try.func77 (by kernel_rfl) (by kernel_rfl) (by kernel_rfl) (by kernel_rfl)
    (Eq.mp (by kernel_rfl : s77 Try.prog arg0 arg1 arg2 K w = E Try.prog (Try.f77.body.getD .skip) A77 (topK Try.prog K Try.f77.results) (fun i => (([arg0, arg1, arg2] : List Value)[i]?).getD undef) w) h)
theorem ct77 {arg0 arg1 arg2 : Value} {h : Hp} {post : Hp → Value → Prop} (hg : ∀ w0, Gs w0 h h [] (s77 Try.prog arg0 arg1 arg2 (RetP w0 h post))) : Ct Try.prog 77 [arg0, arg1, arg2] h post := Ct.of (sf := s77 Try.prog arg0 arg1 arg2) (c77 arg0 arg1 arg2) hg
theorem in77 {arg0 arg1 arg2 : Value} {S : WP} {K : Value → WP} (hg : G S (s77 Try.prog arg0 arg1 arg2 K)) : G S (Do Try.prog (vCall (.func (.func 77) #[] ⟨[arg1, arg2]⟩) [arg0]) K) := Gs.into (args := [arg0]) (caps := [arg1, arg2]) (sf := s77 Try.prog arg0 arg1 arg2) (c77 arg0 arg1 arg2) hg

/- slices.ContainsFunc[[]*skewer/value.node,*skewer/value.node] : names 0 s, 1 f, 2 s, 3 f -/
def s78 (P : Program) (arg0 arg1 : Value) (K : Value → WP) : WP :=
  Do P (vCall (.func (.func 86) #[] ⟨[]⟩) [arg0, arg1]) fun t1_7 =>
  Do P (V (binOp .geq 3 t1_7 (.int .i64 0))) fun t2_8 =>
  K t2_8
def A78 : Ann := .s (.n) (.s (.n) (.n))
set_option maxRecDepth 100000 in
theorem c78 (arg0 arg1 : Value) (K : Value → WP) (w : World) (h : s78 Try.prog arg0 arg1 K w) : Runs Try.prog 78 [arg0, arg1] K w :=
  runs_of_E wide (fn := Try.f78) (c := Try.f78.body.getD .skip) 9 A78 [arg0, arg1] w K Try.func78 (by kernel_rfl) (by kernel_rfl) (by kernel_rfl) (by kernel_rfl)
    (Eq.mp (by kernel_rfl : s78 Try.prog arg0 arg1 K w = E Try.prog (Try.f78.body.getD .skip) A78 (topK Try.prog K Try.f78.results) (fun i => (([arg0, arg1] : List Value)[i]?).getD undef) w) h)
theorem ct78 {arg0 arg1 : Value} {h : Hp} {post : Hp → Value → Prop} (hg : ∀ w0, Gs w0 h h [] (s78 Try.prog arg0 arg1 (RetP w0 h post))) : Ct Try.prog 78 [arg0, arg1] h post := Ct.of (sf := s78 Try.prog arg0 arg1) (c78 arg0 arg1) hg
theorem in78 {arg0 arg1 : Value} {S : WP} {K : Value → WP} (hg : G S (s78 Try.prog arg0 arg1 K)) : G S (Do Try.prog (vCall (.func (.func 78) #[] ⟨[]⟩) [arg0, arg1]) K) := Gs.into (args := [arg0, arg1]) (caps := []) (sf := s78 Try.prog arg0 arg1) (c78 arg0 arg1) hg

/- skewer/value.lowest : names 0 num, 1 exp, 2 num, 3 exp -/
def s84 (P : Program) (arg0 arg1 : Value) (K : Value → WP) : WP :=
  Do P (V (Instr.alloc 65 true (.tuple #[]))) fun t1_4 =>
  Lp (α := Value × Value) (fun c2 s2 => Jk fun _ => -- num exp
   Jn (α := Value) (fun j3 => Jk fun _ => -- t11
    If j3 (
     Do P (V (binOp .quo 3 s2.1 (.int .i64 2))) fun t4_13 =>
     Do P (V (binOp .sub 3 s2.2 (.int .i64 1))) fun t5_15 =>
     c2 (t4_13, t5_15)
    ) (
     Do P (vBuild 65 [(0, s2.1), (1, s2.2)]) fun t6_18 =>
     Do P (U (Instr.storeAt 65 t1_4 t6_18)) fun t7_x =>
     RetC P 65 t1_4 K
    )
   ) fun k3 =>
   Do P (V (binOp .gtr 3 s2.2 (.int .i64 0))) fun t8_6 =>
   Gd t8_6 true (
    Do P (V (binOp .rem 3 s2.1 (.int .i64 2))) fun t9_9 =>
    Do P (V (EqG .eql 3 (.tmp 9) (.const (.int .i64 0)) t9_9 (.int .i64 0))) fun t10_10 =>
    k3 t10_10
   ) (
    k3 (.bool false)
   )
  ) (arg0, arg1)
def A84 : Ann := .s (.n) (.s (.lp [0, 1] 65507 (.s (.j [11] 4064 (.n) (.s (.n) (.n))) (.n))) (.s (.n) (.n)))
set_option maxRecDepth 100000 in
theorem c84 (arg0 arg1 : Value) (K : Value → WP) (w : World) (h : s84 Try.prog arg0 arg1 K w) : Runs Try.prog 84 [arg0, arg1] K w :=
  runs_of_E wide (fn := Try.f84) (c := Try.f84.body.getD .skip) 19 A84 [arg0, arg1] w K Try.func84 (by kernel_rfl) (by kernel_rfl) (by kernel_rfl) (by kernel_rfl)
    (Eq.mp (by kernel_rfl : s84 Try.prog arg0 arg1 K w = E Try.prog (Try.f84.body.getD .skip) A84 (topK Try.prog K Try.f84.results) (fun i => (([arg0, arg1] : List Value)[i]?).getD undef) w) h)
theorem ct84 {arg0 arg1 : Value} {h : Hp} {post : Hp → Value → Prop} (hg : ∀ w0, Gs w0 h h [] (s84 Try.prog arg0 arg1 (RetP w0 h post))) : Ct Try.prog 84 [arg0, arg1] h post := Ct.of (sf := s84 Try.prog arg0 arg1) (c84 arg0 arg1) hg
theorem in84 {arg0 arg1 : Value} {S : WP} {K : Value → WP} (hg : G S (s84 Try.prog arg0 arg1 K)) : G S (Do Try.prog (vCall (.func (.func 84) #[] ⟨[]⟩) [arg0, arg1]) K) := Gs.into (args := [arg0, arg1]) (caps := []) (sf := s84 Try.prog arg0 arg1) (c84 arg0 arg1) hg

/- (*strings.Builder).copyCheck : names 0 b, 1 b -/
def s85 (P : Program) (arg0 : Value) (K : Value → WP) : WP :=
  Do P (vNil arg0) fun t1_3 =>
  Do P (V (Instr.fieldAt 125 t1_3 0)) fun t2_4 =>
  Do P (V (Instr.loadAt 122 t2_4)) fun t3_5 =>
  Do P (V (EqG .eql 122 (.tmp 5) (.const (.pointer none)) t3_5 (.pointer none))) fun t4_6 =>
  If t4_6 (
   Do P (V (convert 122 163 arg0)) fun t5_9 =>
   Do P (vCall (.func (.func 98) #[] ⟨[]⟩) [t5_9]) fun t6_10 =>
   Do P (V (convert 163 122 t6_10)) fun t7_11 =>
   Do P (vNil arg0) fun t8_12 =>
   Do P (V (Instr.fieldAt 125 t8_12 0)) fun t9_13 =>
   Do P (U (Instr.storeAt 122 t9_13 t7_11)) fun t10_x =>
   K (.tuple #[])
  ) (
   Do P (vNil arg0) fun t11_15 =>
   Do P (V (Instr.fieldAt 125 t11_15 0)) fun t12_16 =>
   Do P (V (Instr.loadAt 122 t12_16)) fun t13_17 =>
   Do P (V (EqG .neq 122 (.tmp 17) (.tmp 18) t13_17 arg0)) fun t14_19 =>
   If t14_19 (
    fun _ => False
   ) (
    K (.tuple #[])
   )
  )
def A85 : Ann := .s (.n) (.s (.n) (.s (.n) (.s (.n) (.n))))
set_option maxRecDepth 100000 in
theorem c85 (arg0 : Value) (K : Value → WP) (w : World) (h : s85 Try.prog arg0 K w) : Runs Try.prog 85 [arg0] K w :=
  runs_of_E wide (fn := Try.f85) (c := Try.f85.body.getD .skip) 20 A85 [arg0] w K Try.func85 (by kernel_rfl) (by kernel_rfl) (by kernel_rfl) (by kernel_rfl)
    (Eq.mp (by kernel_rfl : s85 Try.prog arg0 K w = E Try.prog (Try.f85.body.getD .skip) A85 (topK Try.prog K Try.f85.results) (fun i => (([arg0] : List Value)[i]?).getD undef) w) h)
theorem ct85 {arg0 : Value} {h : Hp} {post : Hp → Value → Prop} (hg : ∀ w0, Gs w0 h h [] (s85 Try.prog arg0 (RetP w0 h post))) : Ct Try.prog 85 [arg0] h post := Ct.of (sf := s85 Try.prog arg0) (c85 arg0) hg
theorem in85 {arg0 : Value} {S : WP} {K : Value → WP} (hg : G S (s85 Try.prog arg0 K)) : G S (Do Try.prog (vCall (.func (.func 85) #[] ⟨[]⟩) [arg0]) K) := Gs.into (args := [arg0]) (caps := []) (sf := s85 Try.prog arg0) (c85 arg0) hg

/- slices.IndexFunc[[]*skewer/value.node,*skewer/value.node] : names 0 s, 1 f, 2 s, 3 f, 5 i -/
def s86 (P : Program) (arg0 arg1 : Value) (K : Value → WP) : WP :=
  Do P (vBuiltin .len #[120] 3 [arg0]) fun t1_7 =>
  Lp (α := Value) (fun c2 s2 => Jk fun _ => -- t8
   Do P (V (binOp .lss 3 s2 t1_7)) fun t3_9 =>
   If t3_9 (
    Do P (V (Instr.indexAt 120 arg0 s2)) fun t4_14 =>
    Do P (V (Instr.loadAt 97 t4_14)) fun t5_15 =>
    Do P (vCall arg1 [t5_15]) fun t6_16 =>
    If t6_16 (
     K s2
    ) (
     Do P (V (binOp .add 3 s2 (.int .i64 1))) fun t7_18 =>
     c2 t7_18
    )
   ) (
    K (.int .i64 (-1))
   )
  ) (.int .i64 0)
def A86 : Ann := .s (.n) (.s (.s (.n) (.lp [8] 524080 (.s (.n) (.s (.s (.n) (.n)) (.s (.s (.n) (.s (.n) (.s (.s (.n) (.n)) (.n)))) (.n)))))) (.s (.n) (.n)))
set_option maxRecDepth 100000 in
theorem c86 (arg0 arg1 : Value) (K : Value → WP) (w : World) (h : s86 Try.prog arg0 arg1 K w) : Runs Try.prog 86 [arg0, arg1] K w :=
  runs_of_E wide (fn := Try.f86) (c := Try.f86.body.getD .skip) 19 A86 [arg0, arg1] w K Try.func86 (by kernel_rfl) (by kernel_rfl) (by kernel_rfl) (by kernel_rfl)
    (Eq.mp (by kernel_rfl : s86 Try.prog arg0 arg1 K w = E Try.prog (Try.f86.body.getD .skip) A86 (topK Try.prog K Try.f86.results) (fun i => (([arg0, arg1] : List Value)[i]?).getD undef) w) h)
theorem ct86 {arg0 arg1 : Value} {h : Hp} {post : Hp → Value → Prop} (hg : ∀ w0, Gs w0 h h [] (s86 Try.prog arg0 arg1 (RetP w0 h post))) : Ct Try.prog 86 [arg0, arg1] h post := Ct.of (sf := s86 Try.prog arg0 arg1) (c86 arg0 arg1) hg
theorem in86 {arg0 arg1 : Value} {S : WP} {K : Value → WP} (hg : G S (s86 Try.prog arg0 arg1 K)) : G S (Do Try.prog (vCall (.func (.func 86) #[] ⟨[]⟩) [arg0, arg1]) K) := Gs.into (args := [arg0, arg1]) (caps := []) (sf := s86 Try.prog arg0 arg1) (c86 arg0 arg1) hg

end Go.Proofs.Ytnepdmnkhjpnhaa
