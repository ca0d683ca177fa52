/-
  The shallow forms of functions of the program, printed by a program of the prover; and what the types are.
-/
import Derived.Test.YtgdochemlbjnlaaKz
import Derived.Test.YtgdochemlbjnlaaProg
set_option linter.unusedVariables false
set_option maxRecDepth 100000
namespace Go.Proofs.Ytgdochemlbjnlaa
open Go Go.Sk
variable {M : Go.Sk.Mode}

theorem wide : Try.prog.follows .mixedOrders = true := by kernel_rfl
instance g74 : IsGo Try.prog 74 := ⟨by kernel_rfl⟩
instance g75 : IsGo Try.prog 75 := ⟨by kernel_rfl⟩
instance g85 : IsGo Try.prog 85 := ⟨by kernel_rfl⟩
instance g10 : IsGo Try.prog 10 := ⟨by kernel_rfl⟩
instance g11 : IsGo Try.prog 11 := ⟨by kernel_rfl⟩
instance g12 : IsGo Try.prog 12 := ⟨by kernel_rfl⟩
instance g13 : IsGo Try.prog 13 := ⟨by kernel_rfl⟩
instance g14 : IsGo Try.prog 14 := ⟨by kernel_rfl⟩
instance g15 : IsGo Try.prog 15 := ⟨by kernel_rfl⟩
instance g16 : IsGo Try.prog 16 := ⟨by kernel_rfl⟩
instance g17 : IsGo Try.prog 17 := ⟨by kernel_rfl⟩
instance g18 : IsGo Try.prog 18 := ⟨by kernel_rfl⟩
instance g19 : IsGo Try.prog 19 := ⟨by kernel_rfl⟩
instance g20 : IsGo Try.prog 20 := ⟨by kernel_rfl⟩
instance g21 : IsGo Try.prog 21 := ⟨by kernel_rfl⟩
instance g22 : IsGo Try.prog 22 := ⟨by kernel_rfl⟩
instance g23 : IsGo Try.prog 23 := ⟨by kernel_rfl⟩
instance g24 : IsGo Try.prog 24 := ⟨by kernel_rfl⟩
instance g25 : IsGo Try.prog 25 := ⟨by kernel_rfl⟩
instance g26 : IsGo Try.prog 26 := ⟨by kernel_rfl⟩
instance g27 : IsGo Try.prog 27 := ⟨by kernel_rfl⟩
instance g28 : IsGo Try.prog 28 := ⟨by kernel_rfl⟩
instance g29 : IsGo Try.prog 29 := ⟨by kernel_rfl⟩
instance g30 : IsGo Try.prog 30 := ⟨by kernel_rfl⟩
instance g31 : IsGo Try.prog 31 := ⟨by kernel_rfl⟩
instance g32 : IsGo Try.prog 32 := ⟨by kernel_rfl⟩
instance g33 : IsGo Try.prog 33 := ⟨by kernel_rfl⟩
instance g34 : IsGo Try.prog 34 := ⟨by kernel_rfl⟩
instance g35 : IsGo Try.prog 35 := ⟨by kernel_rfl⟩
instance g36 : IsGo Try.prog 36 := ⟨by kernel_rfl⟩
instance g37 : IsGo Try.prog 37 := ⟨by kernel_rfl⟩
instance g38 : IsGo Try.prog 38 := ⟨by kernel_rfl⟩
instance g39 : IsGo Try.prog 39 := ⟨by kernel_rfl⟩
instance g40 : IsGo Try.prog 40 := ⟨by kernel_rfl⟩
instance g41 : IsGo Try.prog 41 := ⟨by kernel_rfl⟩
instance g42 : IsGo Try.prog 42 := ⟨by kernel_rfl⟩
instance g43 : IsGo Try.prog 43 := ⟨by kernel_rfl⟩
instance g44 : IsGo Try.prog 44 := ⟨by kernel_rfl⟩
instance g45 : IsGo Try.prog 45 := ⟨by kernel_rfl⟩
instance g46 : IsGo Try.prog 46 := ⟨by kernel_rfl⟩
instance g47 : IsGo Try.prog 47 := ⟨by kernel_rfl⟩
instance g48 : IsGo Try.prog 48 := ⟨by kernel_rfl⟩
instance g49 : IsGo Try.prog 49 := ⟨by kernel_rfl⟩
instance g50 : IsGo Try.prog 50 := ⟨by kernel_rfl⟩
instance g51 : IsGo Try.prog 51 := ⟨by kernel_rfl⟩
instance g52 : IsGo Try.prog 52 := ⟨by kernel_rfl⟩
instance g53 : IsGo Try.prog 53 := ⟨by kernel_rfl⟩
instance g54 : IsGo Try.prog 54 := ⟨by kernel_rfl⟩
instance g55 : IsGo Try.prog 55 := ⟨by kernel_rfl⟩
instance g56 : IsGo Try.prog 56 := ⟨by kernel_rfl⟩
instance g57 : IsGo Try.prog 57 := ⟨by kernel_rfl⟩
instance g58 : IsGo Try.prog 58 := ⟨by kernel_rfl⟩
instance g59 : IsGo Try.prog 59 := ⟨by kernel_rfl⟩
instance g60 : IsGo Try.prog 60 := ⟨by kernel_rfl⟩
instance g61 : IsGo Try.prog 61 := ⟨by kernel_rfl⟩
instance g65 : IsGo Try.prog 65 := ⟨by kernel_rfl⟩
instance g66 : IsGo Try.prog 66 := ⟨by kernel_rfl⟩
instance g67 : IsGo Try.prog 67 := ⟨by kernel_rfl⟩
instance g68 : IsGo Try.prog 68 := ⟨by kernel_rfl⟩
instance g70 : IsGo Try.prog 70 := ⟨by kernel_rfl⟩
instance g72 : IsGo Try.prog 72 := ⟨by kernel_rfl⟩
instance g73 : IsGo Try.prog 73 := ⟨by kernel_rfl⟩
instance g76 : IsGo Try.prog 76 := ⟨by kernel_rfl⟩
instance g77 : IsGo Try.prog 77 := ⟨by kernel_rfl⟩
instance g78 : IsGo Try.prog 78 := ⟨by kernel_rfl⟩
instance g79 : IsGo Try.prog 79 := ⟨by kernel_rfl⟩
instance g62 : IsGo Try.prog 62 := ⟨by kernel_rfl⟩
instance g63 : IsGo Try.prog 63 := ⟨by kernel_rfl⟩
instance g64 : IsGo Try.prog 64 := ⟨by kernel_rfl⟩
instance g80 : IsGo Try.prog 80 := ⟨by kernel_rfl⟩
instance g81 : IsGo Try.prog 81 := ⟨by kernel_rfl⟩
instance g3 : IsGo Try.prog 3 := ⟨by kernel_rfl⟩
instance g4 : IsGo Try.prog 4 := ⟨by kernel_rfl⟩
instance g5 : IsGo Try.prog 5 := ⟨by kernel_rfl⟩
instance g6 : IsGo Try.prog 6 := ⟨by kernel_rfl⟩
instance g7 : IsGo Try.prog 7 := ⟨by kernel_rfl⟩
instance g8 : IsGo Try.prog 8 := ⟨by kernel_rfl⟩
instance g9 : IsGo Try.prog 9 := ⟨by kernel_rfl⟩
instance g69 : IsGo Try.prog 69 := ⟨by kernel_rfl⟩
instance g71 : IsGo Try.prog 71 := ⟨by kernel_rfl⟩
instance : TOne Try.prog 1 := ⟨by kernel_rfl⟩
instance : TSize Try.prog 1 1 := ⟨by kernel_rfl⟩
instance : TZero Try.prog 1 [.nilFunc] := ⟨by kernel_rfl⟩
instance : TOne Try.prog 2 := ⟨by kernel_rfl⟩
instance : TSize Try.prog 2 1 := ⟨by kernel_rfl⟩
instance : TZero Try.prog 2 [(.int .i64 0)] := ⟨by kernel_rfl⟩
instance : TInt Try.prog 2 .i64 := ⟨by kernel_rfl⟩
instance : TOne Try.prog 3 := ⟨by kernel_rfl⟩
instance : TSize Try.prog 3 1 := ⟨by kernel_rfl⟩
instance : TZero Try.prog 3 [(.int .i64 0)] := ⟨by kernel_rfl⟩
instance : TInt Try.prog 3 .i64 := ⟨by kernel_rfl⟩
instance : TOne Try.prog 4 := ⟨by kernel_rfl⟩
instance : TSize Try.prog 4 1 := ⟨by kernel_rfl⟩
instance : TZero Try.prog 4 [(.bool false)] := ⟨by kernel_rfl⟩
instance : TZv Try.prog 4 ((.bool false)) := ⟨by kernel_rfl⟩
instance : TBool Try.prog 4 := ⟨by kernel_rfl⟩
instance : TOne Try.prog 5 := ⟨by kernel_rfl⟩
instance : TSize Try.prog 5 1 := ⟨by kernel_rfl⟩
instance : TZero Try.prog 5 [(.int .u8 0)] := ⟨by kernel_rfl⟩
instance : TInt Try.prog 5 .u8 := ⟨by kernel_rfl⟩
instance : TOne Try.prog 9 := ⟨by kernel_rfl⟩
instance : TSize Try.prog 9 1 := ⟨by kernel_rfl⟩
instance : TZero Try.prog 9 [(.string ⟨#[]⟩)] := ⟨by kernel_rfl⟩
instance : TStr Try.prog 9 := ⟨by kernel_rfl⟩
instance : TOne Try.prog 22 := ⟨by kernel_rfl⟩
instance : TSize Try.prog 22 1 := ⟨by kernel_rfl⟩
instance : TZero Try.prog 22 [(.slice none 0 0)] := ⟨by kernel_rfl⟩
instance : TSlice Try.prog 22 5 1 1 := ⟨by kernel_rfl⟩
instance : TAgg Try.prog 23 3 := ⟨by kernel_rfl⟩
instance : TSize Try.prog 23 3 := ⟨by kernel_rfl⟩
instance : TZero Try.prog 23 [(.slice none 0 0), (.slice none 0 0), (.slice none 0 0)] := ⟨by kernel_rfl⟩
instance : TArr Try.prog 23 3 22 1 := ⟨by kernel_rfl⟩
instance : TOne Try.prog 25 := ⟨by kernel_rfl⟩
instance : TSize Try.prog 25 1 := ⟨by kernel_rfl⟩
instance : TZero Try.prog 25 [(.slice none 0 0)] := ⟨by kernel_rfl⟩
instance : TSlice Try.prog 25 27 2 48 := ⟨by kernel_rfl⟩
instance : TAgg Try.prog 27 2 := ⟨by kernel_rfl⟩
instance : TSize Try.prog 27 2 := ⟨by kernel_rfl⟩
instance : TZero Try.prog 27 [(.slice none 0 0), (.slice none 0 0)] := ⟨by kernel_rfl⟩
instance : TStruct Try.prog 27 [(0, 1), (1, 1)] := ⟨by kernel_rfl⟩
instance : TField Try.prog 27 0 0 := ⟨by kernel_rfl⟩
instance : TField Try.prog 27 1 1 := ⟨by kernel_rfl⟩
instance : TFieldV Try.prog 27 0 0 1 false := ⟨by kernel_rfl⟩
instance : TFieldV Try.prog 27 1 1 1 false := ⟨by kernel_rfl⟩
instance : TOne Try.prog 36 := ⟨by kernel_rfl⟩
instance : TSize Try.prog 36 1 := ⟨by kernel_rfl⟩
instance : TZero Try.prog 36 [(.int .i8 0)] := ⟨by kernel_rfl⟩
instance : TInt Try.prog 36 .i8 := ⟨by kernel_rfl⟩
instance : TAgg Try.prog 37 2 := ⟨by kernel_rfl⟩
instance : TSize Try.prog 37 2 := ⟨by kernel_rfl⟩
instance : TZero Try.prog 37 [(.int .i8 0), (.int .i8 0)] := ⟨by kernel_rfl⟩
instance : TArr Try.prog 37 2 36 1 := ⟨by kernel_rfl⟩
instance : TAgg Try.prog 38 2 := ⟨by kernel_rfl⟩
instance : TSize Try.prog 38 2 := ⟨by kernel_rfl⟩
instance : TZero Try.prog 38 [(.int .u8 0), (.int .u8 0)] := ⟨by kernel_rfl⟩
instance : TArr Try.prog 38 2 5 1 := ⟨by kernel_rfl⟩
instance : TAgg Try.prog 40 2 := ⟨by kernel_rfl⟩
instance : TSize Try.prog 40 2 := ⟨by kernel_rfl⟩
instance : TZero Try.prog 40 [(.int .i64 0), (.int .i64 0)] := ⟨by kernel_rfl⟩
instance : TStruct Try.prog 40 [(0, 1), (1, 1)] := ⟨by kernel_rfl⟩
instance : TField Try.prog 40 0 0 := ⟨by kernel_rfl⟩
instance : TField Try.prog 40 1 1 := ⟨by kernel_rfl⟩
instance : TFieldV Try.prog 40 0 0 1 false := ⟨by kernel_rfl⟩
instance : TFieldV Try.prog 40 1 1 1 false := ⟨by kernel_rfl⟩
instance : EqTy Try.prog 40 2 := EqTy.of (by kernel_rfl) (by kernel_rfl) (by kernel_rfl)
instance : TOne Try.prog 42 := ⟨by kernel_rfl⟩
instance : TSize Try.prog 42 1 := ⟨by kernel_rfl⟩
instance : TZero Try.prog 42 [(.int .i64 0)] := ⟨by kernel_rfl⟩
instance : TInt Try.prog 42 .i64 := ⟨by kernel_rfl⟩
instance : TOne Try.prog 55 := ⟨by kernel_rfl⟩
instance : TSize Try.prog 55 1 := ⟨by kernel_rfl⟩
instance : TZero Try.prog 55 [(.int .i16 0)] := ⟨by kernel_rfl⟩
instance : TInt Try.prog 55 .i16 := ⟨by kernel_rfl⟩
instance : TOne Try.prog 60 := ⟨by kernel_rfl⟩
instance : TSize Try.prog 60 1 := ⟨by kernel_rfl⟩
instance : TZero Try.prog 60 [(.pointer none)] := ⟨by kernel_rfl⟩
instance : TOne Try.prog 62 := ⟨by kernel_rfl⟩
instance : TSize Try.prog 62 1 := ⟨by kernel_rfl⟩
instance : TZero Try.prog 62 [.nilFunc] := ⟨by kernel_rfl⟩
instance : TOne Try.prog 63 := ⟨by kernel_rfl⟩
instance : TSize Try.prog 63 1 := ⟨by kernel_rfl⟩
instance : TZero Try.prog 63 [(.pointer none)] := ⟨by kernel_rfl⟩
instance : TZv Try.prog 63 ((.pointer none)) := ⟨by kernel_rfl⟩
instance : TAgg Try.prog 68 2 := ⟨by kernel_rfl⟩
instance : TSize Try.prog 68 2 := ⟨by kernel_rfl⟩
instance : TZero Try.prog 68 [(.slice none 0 0), (.slice none 0 0)] := ⟨by kernel_rfl⟩
instance : TArr Try.prog 68 2 25 1 := ⟨by kernel_rfl⟩
instance : TOne Try.prog 69 := ⟨by kernel_rfl⟩
instance : TSize Try.prog 69 1 := ⟨by kernel_rfl⟩
instance : TZero Try.prog 69 [(.slice none 0 0)] := ⟨by kernel_rfl⟩
instance : TSlice Try.prog 69 63 1 8 := ⟨by kernel_rfl⟩
instance : TAgg Try.prog 71 3 := ⟨by kernel_rfl⟩
instance : TSize Try.prog 71 3 := ⟨by kernel_rfl⟩
instance : TZero Try.prog 71 [(.string ⟨#[]⟩), (.slice none 0 0), (.slice none 0 0)] := ⟨by kernel_rfl⟩
instance : TStruct Try.prog 71 [(0, 1), (1, 1), (2, 1)] := ⟨by kernel_rfl⟩
instance : TField Try.prog 71 0 0 := ⟨by kernel_rfl⟩
instance : TField Try.prog 71 1 1 := ⟨by kernel_rfl⟩
instance : TField Try.prog 71 2 2 := ⟨by kernel_rfl⟩
instance : TFieldV Try.prog 71 0 0 1 false := ⟨by kernel_rfl⟩
instance : TFieldV Try.prog 71 1 1 1 false := ⟨by kernel_rfl⟩
instance : TFieldV Try.prog 71 2 2 1 false := ⟨by kernel_rfl⟩
instance : TOne Try.prog 74 := ⟨by kernel_rfl⟩
instance : TSize Try.prog 74 1 := ⟨by kernel_rfl⟩
instance : TZero Try.prog 74 [(.pointer none)] := ⟨by kernel_rfl⟩
instance : TAgg Try.prog 76 3 := ⟨by kernel_rfl⟩
instance : TSize Try.prog 76 3 := ⟨by kernel_rfl⟩
instance : TZero Try.prog 76 [(.int .i64 0), (.int .i64 0), (.int .i64 0)] := ⟨by kernel_rfl⟩
instance : TStruct Try.prog 76 [(0, 2), (2, 1)] := ⟨by kernel_rfl⟩
instance : TField Try.prog 76 0 0 := ⟨by kernel_rfl⟩
instance : TField Try.prog 76 1 2 := ⟨by kernel_rfl⟩
instance : TFieldV Try.prog 76 0 0 2 true := ⟨by kernel_rfl⟩
instance : TFieldV Try.prog 76 1 2 1 false := ⟨by kernel_rfl⟩
instance : EqTy Try.prog 76 3 := EqTy.of (by kernel_rfl) (by kernel_rfl) (by kernel_rfl)
instance : TOne Try.prog 82 := ⟨by kernel_rfl⟩
instance : TSize Try.prog 82 1 := ⟨by kernel_rfl⟩
instance : TZero Try.prog 82 [(.map none)] := ⟨by kernel_rfl⟩
instance : TMap Try.prog 82 9 63 := ⟨by kernel_rfl⟩
instance : TOne Try.prog 83 := ⟨by kernel_rfl⟩
instance : TSize Try.prog 83 1 := ⟨by kernel_rfl⟩
instance : TZero Try.prog 83 [(.map none)] := ⟨by kernel_rfl⟩
instance : TMap Try.prog 83 87 4 := ⟨by kernel_rfl⟩
instance : TAgg Try.prog 85 3 := ⟨by kernel_rfl⟩
instance : TSize Try.prog 85 3 := ⟨by kernel_rfl⟩
instance : TZero Try.prog 85 [(.map none), (.map none), (.map none)] := ⟨by kernel_rfl⟩
instance : TStruct Try.prog 85 [(0, 1), (1, 1), (2, 1)] := ⟨by kernel_rfl⟩
instance : TField Try.prog 85 0 0 := ⟨by kernel_rfl⟩
instance : TField Try.prog 85 1 1 := ⟨by kernel_rfl⟩
instance : TField Try.prog 85 2 2 := ⟨by kernel_rfl⟩
instance : TFieldV Try.prog 85 0 0 1 false := ⟨by kernel_rfl⟩
instance : TFieldV Try.prog 85 1 1 1 false := ⟨by kernel_rfl⟩
instance : TFieldV Try.prog 85 2 2 1 false := ⟨by kernel_rfl⟩
instance : TAgg Try.prog 87 2 := ⟨by kernel_rfl⟩
instance : TSize Try.prog 87 2 := ⟨by kernel_rfl⟩
instance : TZero Try.prog 87 [(.string ⟨#[]⟩), (.string ⟨#[]⟩)] := ⟨by kernel_rfl⟩
instance : TStruct Try.prog 87 [(0, 1), (1, 1)] := ⟨by kernel_rfl⟩
instance : TField Try.prog 87 0 0 := ⟨by kernel_rfl⟩
instance : TField Try.prog 87 1 1 := ⟨by kernel_rfl⟩
instance : TFieldV Try.prog 87 0 0 1 false := ⟨by kernel_rfl⟩
instance : TFieldV Try.prog 87 1 1 1 false := ⟨by kernel_rfl⟩
instance : TOne Try.prog 89 := ⟨by kernel_rfl⟩
instance : TSize Try.prog 89 1 := ⟨by kernel_rfl⟩
instance : TZero Try.prog 89 [.nilFunc] := ⟨by kernel_rfl⟩
instance : TOne Try.prog 97 := ⟨by kernel_rfl⟩
instance : TSize Try.prog 97 1 := ⟨by kernel_rfl⟩
instance : TZero Try.prog 97 [(.slice none 0 0)] := ⟨by kernel_rfl⟩
instance : TSlice Try.prog 97 40 2 16 := ⟨by kernel_rfl⟩
instance : TAgg Try.prog 102 4 := ⟨by kernel_rfl⟩
instance : TSize Try.prog 102 4 := ⟨by kernel_rfl⟩
instance : TZero Try.prog 102 [(.int .i64 0), (.int .i64 0), (.int .i64 0), (.int .i64 0)] := ⟨by kernel_rfl⟩
instance : TArr Try.prog 102 2 40 2 := ⟨by kernel_rfl⟩
instance : TAgg Try.prog 103 2 := ⟨by kernel_rfl⟩
instance : TSize Try.prog 103 2 := ⟨by kernel_rfl⟩
instance : TZero Try.prog 103 [(.slice none 0 0), (.slice none 0 0)] := ⟨by kernel_rfl⟩
instance : TArr Try.prog 103 2 69 1 := ⟨by kernel_rfl⟩
instance : TOne Try.prog 104 := ⟨by kernel_rfl⟩
instance : TSize Try.prog 104 1 := ⟨by kernel_rfl⟩
instance : TZero Try.prog 104 [(.pointer none)] := ⟨by kernel_rfl⟩
instance : TAgg Try.prog 106 2 := ⟨by kernel_rfl⟩
instance : TSize Try.prog 106 2 := ⟨by kernel_rfl⟩
instance : TZero Try.prog 106 [(.pointer none), (.slice none 0 0)] := ⟨by kernel_rfl⟩
instance : TStruct Try.prog 106 [(0, 1), (1, 1)] := ⟨by kernel_rfl⟩
instance : TField Try.prog 106 0 0 := ⟨by kernel_rfl⟩
instance : TField Try.prog 106 1 1 := ⟨by kernel_rfl⟩
instance : TFieldV Try.prog 106 0 0 1 false := ⟨by kernel_rfl⟩
instance : TFieldV Try.prog 106 1 1 1 false := ⟨by kernel_rfl⟩
instance : TOne Try.prog 118 := ⟨by kernel_rfl⟩
instance : TSize Try.prog 118 1 := ⟨by kernel_rfl⟩
instance : TZero Try.prog 118 [.nilFunc] := ⟨by kernel_rfl⟩
instance : TAgg Try.prog 119 2 := ⟨by kernel_rfl⟩
instance : TSize Try.prog 119 2 := ⟨by kernel_rfl⟩
instance : TZero Try.prog 119 [(.int .i64 0), (.int .i64 0)] := ⟨by kernel_rfl⟩
instance : TStruct Try.prog 119 [(0, 1), (1, 1)] := ⟨by kernel_rfl⟩
instance : TField Try.prog 119 0 0 := ⟨by kernel_rfl⟩
instance : TField Try.prog 119 1 1 := ⟨by kernel_rfl⟩
instance : TFieldV Try.prog 119 0 0 1 false := ⟨by kernel_rfl⟩
instance : TFieldV Try.prog 119 1 1 1 false := ⟨by kernel_rfl⟩
instance : EqTy Try.prog 119 2 := EqTy.of (by kernel_rfl) (by kernel_rfl) (by kernel_rfl)
instance : TAgg Try.prog 123 3 := ⟨by kernel_rfl⟩
instance : TSize Try.prog 123 3 := ⟨by kernel_rfl⟩
instance : TZero Try.prog 123 [(.int .i64 0), (.int .i64 0), (.int .i64 0)] := ⟨by kernel_rfl⟩
instance : TArr Try.prog 123 3 3 1 := ⟨by kernel_rfl⟩
instance : TOne Try.prog 124 := ⟨by kernel_rfl⟩
instance : TSize Try.prog 124 1 := ⟨by kernel_rfl⟩
instance : TZero Try.prog 124 [(.pointer none)] := ⟨by kernel_rfl⟩
instance : TOne Try.prog 125 := ⟨by kernel_rfl⟩
instance : TSize Try.prog 125 1 := ⟨by kernel_rfl⟩
instance : TZero Try.prog 125 [(.slice none 0 0)] := ⟨by kernel_rfl⟩
instance : TSlice Try.prog 125 69 1 24 := ⟨by kernel_rfl⟩
instance : TOne Try.prog 130 := ⟨by kernel_rfl⟩
instance : TSize Try.prog 130 1 := ⟨by kernel_rfl⟩
instance : TZero Try.prog 130 [(.slice none 0 0)] := ⟨by kernel_rfl⟩
instance : TSlice Try.prog 130 3 1 8 := ⟨by kernel_rfl⟩
instance : TOne Try.prog 132 := ⟨by kernel_rfl⟩
instance : TSize Try.prog 132 1 := ⟨by kernel_rfl⟩
instance : TZero Try.prog 132 [(.pointer none)] := ⟨by kernel_rfl⟩

/- cmp.Or[int] : names 0 vals, 1 vals, 3 zero, 4 _, 5 val -/
def s74 (P : Program) (arg0 : Value) (K : Value → WP) : WP :=
  Do P (vBuiltin .len #[130] 3 [arg0]) fun t1_7 =>
  Lp (α := Value) (fun c2 s2 => Jk fun _ => -- t8
   Do P (V (binOp .lss 3 s2 t1_7)) fun t3_9 =>
   If t3_9 (
    Do P (V (Instr.indexAt 130 arg0 s2)) fun t4_10 =>
    Do P (V (Instr.loadAt 3 t4_10)) fun t5_11 =>
    Do P (V (EqG .neq 3 (.tmp 12) (.tmp 13) t5_11 (.int .i64 0))) fun t6_14 =>
    If t6_14 (
     K t5_11
    ) (
     Do P (V (binOp .add 3 s2 (.int .i64 1))) fun t7_16 =>
     c2 t7_16
    )
   ) (
    K (.int .i64 0)
   )
  ) (.int .i64 0)
def A74 : Ann := .s (.n) (.s (.n) (.s (.s (.n) (.lp [8] 130852 (.s (.n) (.s (.s (.n) (.n)) (.s (.s (.n) (.s (.n) (.s (.s (.n) (.n)) (.n)))) (.n)))))) (.s (.n) (.n))))
set_option maxRecDepth 100000 in
theorem c74 (arg0 : Value) (K : Value → WP) (w : World) (h : s74 Try.prog arg0 K w) : Runs Try.prog 74 [arg0] K w :=
  runs_of_E wide (fn := Try.f74) (c := Try.f74.body.getD .skip) 18 A74 [arg0] w K Try.func74 (by kernel_rfl) (by kernel_rfl) (by kernel_rfl) (by kernel_rfl)
    (Eq.mp (by kernel_rfl : s74 Try.prog arg0 K w = E Try.prog (Try.f74.body.getD .skip) A74 (topK Try.prog K Try.f74.results) (fun i => (([arg0] : List Value)[i]?).getD undef) w) h)
theorem ct74 {arg0 : Value} {h : Hp} {post : Hp → Value → Prop} (hg : ∀ w0, Gs w0 h h [] (s74 Try.prog arg0 (RetP w0 h post))) : Ct Try.prog 74 [arg0] h post := Ct.of (sf := s74 Try.prog arg0) (c74 arg0) hg
theorem in74 {arg0 : Value} {S : WP} {K : Value → WP} (hg : G S (s74 Try.prog arg0 K)) : G S (Do Try.prog (vCall (.func (.func 74) #[] ⟨[]⟩) [arg0]) K) := Gs.into (args := [arg0]) (caps := []) (sf := s74 Try.prog arg0) (c74 arg0) hg

/- cmp.Compare[int] : names 0 x, 1 y, 2 x, 3 y, 5 xNaN, 6 yNaN -/
def s75 (P : Program) (arg0 arg1 : Value) (K : Value → WP) : WP :=
  Do P (vCall (.func (.func 85) #[] ⟨[]⟩) [arg0]) fun t1_8 =>
  Do P (vCall (.func (.func 85) #[] ⟨[]⟩) [arg1]) fun t2_10 =>
  If t1_8 (
   If t2_10 (
    K (.int .i64 0)
   ) (
    K (.int .i64 (-1))
   )
  ) (
   If t2_10 (
    K (.int .i64 1)
   ) (
    Do P (V (binOp .lss 3 arg0 arg1)) fun t3_16 =>
    If t3_16 (
     K (.int .i64 (-1))
    ) (
     Do P (V (binOp .gtr 3 arg0 arg1)) fun t4_19 =>
     If t4_19 (
      K (.int .i64 1)
     ) (
      K (.int .i64 0)
     )
    )
   )
  )
def A75 : Ann := .s (.n) (.s (.n) (.s (.n) (.s (.s (.n) (.s (.s (.s (.n) (.s (.s (.n) (.n)) (.n))) (.s (.n) (.n))) (.n))) (.s (.s (.n) (.s (.s (.n) (.n)) (.n))) (.s (.s (.n) (.s (.s (.n) (.n)) (.n))) (.s (.s (.n) (.s (.s (.n) (.n)) (.n))) (.s (.n) (.n))))))))
set_option maxRecDepth 100000 in
theorem c75 (arg0 arg1 : Value) (K : Value → WP) (w : World) (h : s75 Try.prog arg0 arg1 K w) : Runs Try.prog 75 [arg0, arg1] K w :=
  runs_of_E wide (fn := Try.f75) (c := Try.f75.body.getD .skip) 20 A75 [arg0, arg1] w K Try.func75 (by kernel_rfl) (by kernel_rfl) (by kernel_rfl) (by kernel_rfl)
    (Eq.mp (by kernel_rfl : s75 Try.prog arg0 arg1 K w = E Try.prog (Try.f75.body.getD .skip) A75 (topK Try.prog K Try.f75.results) (fun i => (([arg0, arg1] : List Value)[i]?).getD undef) w) h)
theorem ct75 {arg0 arg1 : Value} {h : Hp} {post : Hp → Value → Prop} (hg : ∀ w0, Gs w0 h h [] (s75 Try.prog arg0 arg1 (RetP w0 h post))) : Ct Try.prog 75 [arg0, arg1] h post := Ct.of (sf := s75 Try.prog arg0 arg1) (c75 arg0 arg1) hg
theorem in75 {arg0 arg1 : Value} {S : WP} {K : Value → WP} (hg : G S (s75 Try.prog arg0 arg1 K)) : G S (Do Try.prog (vCall (.func (.func 75) #[] ⟨[]⟩) [arg0, arg1]) K) := Gs.into (args := [arg0, arg1]) (caps := []) (sf := s75 Try.prog arg0 arg1) (c75 arg0 arg1) hg

/- cmp.isNaN[int] : names 0 x, 1 x -/
def s85 (P : Program) (arg0 : Value) (K : Value → WP) : WP :=
  Do P (V (EqG .neq 3 (.tmp 3) (.tmp 4) arg0 arg0)) fun t1_5 =>
  K t1_5
def A85 : Ann := .s (.n) (.s (.n) (.n))
set_option maxRecDepth 100000 in
theorem c85 (arg0 : Value) (K : Value → WP) (w : World) (h : s85 Try.prog arg0 K w) : Runs Try.prog 85 [arg0] K w :=
  runs_of_E wide (fn := Try.f85) (c := Try.f85.body.getD .skip) 6 A85 [arg0] w K Try.func85 (by kernel_rfl) (by kernel_rfl) (by kernel_rfl) (by kernel_rfl)
    (Eq.mp (by kernel_rfl : s85 Try.prog arg0 K w = E Try.prog (Try.f85.body.getD .skip) A85 (topK Try.prog K Try.f85.results) (fun i => (([arg0] : List Value)[i]?).getD undef) w) h)
theorem ct85 {arg0 : Value} {h : Hp} {post : Hp → Value → Prop} (hg : ∀ w0, Gs w0 h h [] (s85 Try.prog arg0 (RetP w0 h post))) : Ct Try.prog 85 [arg0] h post := Ct.of (sf := s85 Try.prog arg0) (c85 arg0) hg
theorem in85 {arg0 : Value} {S : WP} {K : Value → WP} (hg : G S (s85 Try.prog arg0 K)) : G S (Do Try.prog (vCall (.func (.func 85) #[] ⟨[]⟩) [arg0]) K) := Gs.into (args := [arg0]) (caps := []) (sf := s85 Try.prog arg0) (c85 arg0) hg

/- skewer/skewerlaw20.sanity : names 1 zero, 2 one, 3 less, 4 star, 5 half, 6 hot, 7 x, 8 is, 9 _, 10 no, 11 five, 12 e, 13 y, 14 ok, 15 _, 16 f, 17 _, 18 g, 19 texts, 20 numbers, 21 order -/
def s10 (P : Program) (K : Value → WP) : WP :=
  Do P (vBuild 27 []) fun t1_22 =>
  Do P (V (Instr.alloc 27 true (.tuple #[]))) fun zero2 =>
  Do P (U (Instr.storeAt 27 zero2 t1_22)) fun t3_x =>
  Do P (V (Instr.loadAt 27 zero2)) fun t4_23 =>
  Do P (vBuildSlice 25 1 [(0, t4_23)]) fun t5_24 =>
  Do P (vCall (.func (.func 32) #[] ⟨[]⟩) [t5_24, (.slice none 0 0)]) fun t6_25 =>
  Do P (V (Instr.alloc 27 true (.tuple #[]))) fun one7 =>
  Do P (U (Instr.storeAt 27 one7 t6_25)) fun t8_x =>
  Do P (V (Instr.loadAt 27 zero2)) fun t9_26 =>
  Do P (vBuildSlice 25 1 [(0, t9_26)]) fun t10_27 =>
  Do P (vCall (.func (.func 32) #[] ⟨[]⟩) [(.slice none 0 0), t10_27]) fun t11_28 =>
  Do P (V (Instr.alloc 27 true (.tuple #[]))) fun less12 =>
  Do P (U (Instr.storeAt 27 less12 t11_28)) fun t13_x =>
  Dr <|
  AllO [
   ([], fun f14 K => Do P (V (Instr.loadAt 27 zero2)) K),
   ([0], fun f14 K => Do P (vBuildSlice 25 1 [(0, (f14 0))]) K),
   ([], fun f14 K => Do P (V (Instr.loadAt 27 zero2)) K),
   ([2], fun f14 K => Do P (vBuildSlice 25 1 [(0, (f14 2))]) K),
   ([1, 3], fun f14 K => Do P (vCall (.func (.func 32) #[] ⟨[]⟩) [(f14 1), (f14 3)]) K),
   ([], fun f14 K => Do P (V (Instr.loadAt 27 zero2)) K),
   ([5], fun f14 K => Do P (vBuildSlice 25 1 [(0, (f14 5))]) K),
   ([], fun f14 K => Do P (V (Instr.loadAt 27 one7)) K),
   ([7], fun f14 K => Do P (vBuildSlice 25 1 [(0, (f14 7))]) K),
   ([6, 8, 4], fun f14 K => Do P (vCall (.func (.func 32) #[] ⟨[]⟩) [(f14 6), (f14 8)]) K),
   ([], fun f14 K => Do P (V (Instr.loadAt 27 one7)) K),
   ([10], fun f14 K => Do P (vBuildSlice 25 1 [(0, (f14 10))]) K),
   ([], fun f14 K => Do P (V (Instr.loadAt 27 less12)) K),
   ([12], fun f14 K => Do P (vBuildSlice 25 1 [(0, (f14 12))]) K),
   ([11, 13, 9], fun f14 K => Do P (vCall (.func (.func 32) #[] ⟨[]⟩) [(f14 11), (f14 13)]) K),
   ([], fun f14 K => Do P (V (Instr.alloc 27 true (.tuple #[]))) K),
   ([], fun f14 K => Do P (V (Instr.alloc 27 true (.tuple #[]))) K),
   ([], fun f14 K => Do P (V (Instr.alloc 27 true (.tuple #[]))) K),
   ([15, 4, 14, 0, 1, 2, 3, 4, 15, 16, 17], fun f14 K => Do P (U (Instr.storeAt 27 (f14 15) (f14 4))) K),
   ([16, 9, 18, 0, 1, 2, 3, 4, 5, 6, 7, 8, 9, 15, 16, 17, 18], fun f14 K => Do P (U (Instr.storeAt 27 (f14 16) (f14 9))) K),
   ([17, 14, 19, 0, 1, 2, 3, 4, 5, 6, 7, 8, 9, 10, 11, 12, 13, 14, 15, 16, 17, 18, 19], fun f14 K => Do P (U (Instr.storeAt 27 (f14 17) (f14 14))) K)
  ] fun f14 =>
  Do P (V (Instr.loadAt 27 (f14 16))) fun t15_45 =>
  Do P (vCall (.func (.func 25) #[] ⟨[]⟩) [t15_45]) fun t16_46 =>
  Do P (V (Instr.extract t16_46 0)) fun t17_47 =>
  Do P (V (Instr.extract t16_46 1)) fun t18_48 =>
  Do P (V (Instr.alloc 40 true (.tuple #[]))) fun x19 =>
  Do P (U (Instr.storeAt 40 x19 t17_47)) fun t20_x =>
  Do P (V (Instr.loadAt 27 (f14 15))) fun t21_50 =>
  Do P (vCall (.func (.func 25) #[] ⟨[]⟩) [t21_50]) fun t22_51 =>
  Do P (V (Instr.extract t22_51 0)) fun t23_52 =>
  Do P (V (Instr.extract t22_51 1)) fun t24_53 =>
  Do P (V (Instr.alloc 40 true (.tuple #[]))) fun t25_9 =>
  Do P (U (Instr.storeAt 40 t25_9 t23_52)) fun t26_x =>
  Do P (vBuild 40 [(0, (.int .i64 5))]) fun t27_55 =>
  Do P (vCall (.func (.func 22) #[] ⟨[]⟩) [t27_55]) fun t28_56 =>
  Do P (V (Instr.extract t28_56 0)) fun t29_57 =>
  Do P (V (Instr.extract t28_56 1)) fun t30_58 =>
  Do P (V (Instr.alloc 27 true (.tuple #[]))) fun five31 =>
  Do P (U (Instr.storeAt 27 five31 t29_57)) fun t32_x =>
  Do P (V (Instr.loadAt 27 less12)) fun t33_60 =>
  Do P (vBuildSlice 25 1 [(0, t33_60)]) fun t34_61 =>
  Do P (V (Instr.loadAt 27 five31)) fun t35_62 =>
  Do P (vBuildSlice 25 1 [(0, t35_62)]) fun t36_63 =>
  Do P (vCall (.func (.func 32) #[] ⟨[]⟩) [t34_61, t36_63]) fun t37_64 =>
  Do P (vCall (.func (.func 25) #[] ⟨[]⟩) [t37_64]) fun t38_65 =>
  Do P (V (Instr.extract t38_65 0)) fun t39_66 =>
  Do P (V (Instr.extract t38_65 1)) fun t40_67 =>
  Do P (V (Instr.alloc 40 true (.tuple #[]))) fun y41 =>
  Do P (U (Instr.storeAt 40 y41 t39_66)) fun t42_x =>
  Do P (vBuild 40 [(0, (.int .i64 2000))]) fun t43_69 =>
  Do P (vCall (.func (.func 22) #[] ⟨[]⟩) [t43_69]) fun t44_70 =>
  Do P (V (Instr.extract t44_70 0)) fun t45_71 =>
  Do P (V (Instr.extract t44_70 1)) fun t46_72 =>
  Do P (V (Instr.alloc 27 true (.tuple #[]))) fun t47_15 =>
  Do P (U (Instr.storeAt 27 t47_15 t45_71)) fun t48_x =>
  Do P (vBuild 40 [(0, (.int .i64 2)), (1, (.int .i64 1))]) fun t49_74 =>
  Do P (vCall (.func (.func 22) #[] ⟨[]⟩) [t49_74]) fun t50_75 =>
  Do P (V (Instr.extract t50_75 0)) fun t51_76 =>
  Do P (V (Instr.extract t50_75 1)) fun t52_77 =>
  Do P (V (Instr.alloc 27 true (.tuple #[]))) fun t53_17 =>
  Do P (U (Instr.storeAt 27 t53_17 t51_76)) fun t54_x =>
  Jn (α := Value) (fun j55 => Jk fun _ => -- texts
   Jn (α := Value) (fun j56 => Jk fun _ => -- numbers
    Jn (α := Value) (fun j57 => Jk fun _ => -- order
     Dr <|
     Gd j55 true (
      Gd j56 true (
       Gd j57 true (
        Qk P (V (Instr.loadAt 27 one7)) fun C58 t58_194 =>
        Do P (vCall (.func (.func 27) #[] ⟨[]⟩) [t58_194, (.int .i64 0)]) fun t59_195 =>
        Qk P (V (EqG .eql 3 (.tmp 195) (.const (.int .i64 0)) t59_195 (.int .i64 0))) fun C60 t60_196 =>
        Gd t60_196 true (
         Qk P (V (Instr.loadAt 27 one7)) fun C61 t61_199 =>
         Do P (vCall (.func (.func 27) #[] ⟨[]⟩) [t61_199, (.int .i64 1)]) fun t62_200 =>
         Qk P (V (EqG .eql 3 (.tmp 200) (.const (.int .i64 0)) t62_200 (.int .i64 0))) fun C63 t63_201 =>
         Gd t63_201 true (
          Qk P (V (Instr.loadAt 27 (f14 15))) fun C64 t64_204 =>
          Do P (vCall (.func (.func 27) #[] ⟨[]⟩) [t64_204, (.int .i64 0)]) fun t65_205 =>
          Qk P (V (EqG .eql 3 (.tmp 205) (.const (.int .i64 0)) t65_205 (.int .i64 0))) fun C66 t66_206 =>
          Gd t66_206 true (
           Qk P (V (Instr.loadAt 27 (f14 15))) fun C67 t67_209 =>
           Do P (vCall (.func (.func 27) #[] ⟨[]⟩) [t67_209, (.int .i64 1)]) fun t68_210 =>
           Qk P (V (EqG .eql 3 (.tmp 210) (.const (.int .i64 1)) t68_210 (.int .i64 1))) fun C69 t69_211 =>
           Gd t69_211 true (
            Qk P (V (Instr.loadAt 27 zero2)) fun C70 t70_214 =>
            Do P (vCall (.func (.func 27) #[] ⟨[]⟩) [t70_214, (.int .i64 0)]) fun t71_215 =>
            Qk P (V (EqG .eql 3 (.tmp 215) (.const (.int .i64 1)) t71_215 (.int .i64 1))) fun C72 t72_216 =>
            Gd t72_216 true (
             Qk P (V (Instr.loadAt 27 one7)) fun C73 t73_219 =>
             Qk P (V (Instr.loadAt 27 less12)) fun C74 t74_221 =>
             Do P (vCall (.func (.func 15) #[] ⟨[]⟩) [t73_219]) fun t75_220 =>
             With C74 <|
             Do P (vCall (.func (.func 19) #[] ⟨[]⟩) [t75_220, t74_221]) fun t76_222 =>
             K t76_222
            ) (
             K (.bool false)
            )
           ) (
            K (.bool false)
           )
          ) (
           K (.bool false)
          )
         ) (
          K (.bool false)
         )
        ) (
         K (.bool false)
        )
       ) (
        K (.bool false)
       )
      ) (
       K (.bool false)
      )
     ) (
      K (.bool false)
     )
    ) fun k57 =>
    Dr <|
    Qk P (V (Instr.loadAt 27 zero2)) fun C77 t77_134 =>
    Qk P (V (Instr.loadAt 27 one7)) fun C78 t78_135 =>
    Do P (vCall (.func (.func 12) #[] ⟨[]⟩) [t77_134, t78_135]) fun t79_136 =>
    Gd t79_136 true (
     Qk P (V (Instr.loadAt 27 one7)) fun C80 t80_138 =>
     Qk P (V (Instr.loadAt 27 zero2)) fun C81 t81_139 =>
     Do P (vCall (.func (.func 12) #[] ⟨[]⟩) [t80_138, t81_139]) fun t82_140 =>
     Qk P (V (Op.unary .not t82_140)) fun C83 t83_141 =>
     Gd t83_141 true (
      Qk P (V (Instr.loadAt 27 (f14 15))) fun C84 t84_144 =>
      Qk P (V (Instr.loadAt 27 zero2)) fun C85 t85_145 =>
      Do P (vCall (.func (.func 12) #[] ⟨[]⟩) [t84_144, t85_145]) fun t86_146 =>
      Qk P (V (Op.unary .not t86_146)) fun C87 t87_147 =>
      Gd t87_147 true (
       Qk P (V (Instr.loadAt 27 zero2)) fun C88 t88_150 =>
       Qk P (V (Instr.loadAt 27 (f14 15))) fun C89 t89_151 =>
       Do P (vCall (.func (.func 12) #[] ⟨[]⟩) [t88_150, t89_151]) fun t90_152 =>
       Qk P (V (Op.unary .not t90_152)) fun C91 t91_153 =>
       Gd t91_153 true (
        Qk P (V (Instr.loadAt 27 (f14 17))) fun C92 t92_156 =>
        Qk P (V (Instr.loadAt 27 one7)) fun C93 t93_157 =>
        Do P (vCall (.func (.func 12) #[] ⟨[]⟩) [t92_156, t93_157]) fun t94_158 =>
        Qk P (V (Op.unary .not t94_158)) fun C95 t95_159 =>
        Gd t95_159 true (
         Qk P (V (Instr.loadAt 27 one7)) fun C96 t96_162 =>
         Qk P (V (Instr.loadAt 27 (f14 17))) fun C97 t97_163 =>
         Do P (vCall (.func (.func 12) #[] ⟨[]⟩) [t96_162, t97_163]) fun t98_164 =>
         Qk P (V (Op.unary .not t98_164)) fun C99 t99_165 =>
         Gd t99_165 true (
          Qk P (V (Instr.loadAt 27 (f14 17))) fun C100 t100_168 =>
          Qk P (V (Instr.loadAt 27 one7)) fun C101 t101_169 =>
          Do P (vBuildSlice 25 1 [(0, t101_169)]) fun t102_170 =>
          With C100 <|
          Do P (vCall (.func (.func 32) #[] ⟨[]⟩) [t102_170, (.slice none 0 0)]) fun t103_171 =>
          With C100 <|
          Do P (vCall (.func (.func 12) #[] ⟨[]⟩) [t100_168, t103_171]) fun t104_172 =>
          Gd t104_172 true (
           Qk P (V (Instr.loadAt 27 (f14 17))) fun C105 t105_175 =>
           Qk P (V (Instr.loadAt 27 zero2)) fun C106 t106_176 =>
           Do P (vCall (.func (.func 12) #[] ⟨[]⟩) [t105_175, t106_176]) fun t107_177 =>
           Qk P (V (Op.unary .not t107_177)) fun C108 t108_178 =>
           Gd t108_178 true (
            Qk P (V (Instr.loadAt 27 zero2)) fun C109 t109_181 =>
            Qk P (V (Instr.loadAt 27 (f14 17))) fun C110 t110_182 =>
            Do P (vCall (.func (.func 12) #[] ⟨[]⟩) [t109_181, t110_182]) fun t111_183 =>
            Qk P (V (Op.unary .not t111_183)) fun C112 t112_184 =>
            k57 t112_184
           ) (
            k57 (.bool false)
           )
          ) (
           k57 (.bool false)
          )
         ) (
          k57 (.bool false)
         )
        ) (
         k57 (.bool false)
        )
       ) (
        k57 (.bool false)
       )
      ) (
       k57 (.bool false)
      )
     ) (
      k57 (.bool false)
     )
    ) (
     k57 (.bool false)
    )
   ) fun k56 =>
   Gd t18_48 true (
    Do P (V (Instr.loadAt 40 x19)) fun t113_101 =>
    Do P (vBuild 40 [(0, (.int .i64 1)), (1, (.int .i64 1))]) fun t114_102 =>
    Do P (V (EqG .eql 40 (.tmp 101) (.tmp 102) t113_101 t114_102)) fun t115_103 =>
    Gd t115_103 true (
     Do P (V (Op.unary .not t24_53)) fun t116_107 =>
     Gd t116_107 true (
      Do P (V (EqG .eql 42 (.tmp 110) (.const (.int .i64 0)) t30_58 (.int .i64 0))) fun t117_111 =>
      Gd t117_111 true (
       Gd t40_67 true (
        Do P (V (Instr.loadAt 40 y41)) fun t118_117 =>
        Do P (vBuild 40 []) fun t119_118 =>
        Do P (V (EqG .eql 40 (.tmp 117) (.tmp 118) t118_117 t119_118)) fun t120_119 =>
        Gd t120_119 true (
         Do P (V (EqG .eql 42 (.tmp 122) (.const (.int .i64 2)) t46_72 (.int .i64 2))) fun t121_123 =>
         Gd t121_123 true (
          Do P (V (EqG .eql 42 (.tmp 126) (.const (.int .i64 190)) t52_77 (.int .i64 190))) fun t122_127 =>
          Gd t122_127 true (
           Do P (V (Instr.loadAt 27 five31)) fun t123_130 =>
           Do P (vCall (.func (.func 18) #[] ⟨[]⟩) [t123_130]) fun t124_131 =>
           Do P (V (EqG .eql 3 (.tmp 131) (.const (.int .i64 6)) t124_131 (.int .i64 6))) fun t125_132 =>
           k56 t125_132
          ) (
           k56 (.bool false)
          )
         ) (
          k56 (.bool false)
         )
        ) (
         k56 (.bool false)
        )
       ) (
        k56 (.bool false)
       )
      ) (
       k56 (.bool false)
      )
     ) (
      k56 (.bool false)
     )
    ) (
     k56 (.bool false)
    )
   ) (
    k56 (.bool false)
   )
  ) fun k55 =>
  Do P (V (Instr.loadAt 27 zero2)) fun t126_78 =>
  Do P (vCall (.func (.func 20) #[] ⟨[]⟩) [t126_78]) fun t127_79 =>
  Do P (V (EqG .eql 9 (.tmp 79) (.const (.string ⟨#[123, 124, 125]⟩)) t127_79 (.string ⟨#[123, 124, 125]⟩))) fun t128_80 =>
  Gd t128_80 true (
   Do P (V (Instr.loadAt 27 one7)) fun t129_82 =>
   Do P (vCall (.func (.func 20) #[] ⟨[]⟩) [t129_82]) fun t130_83 =>
   Do P (V (EqG .eql 9 (.tmp 83) (.const (.string ⟨#[123, 123, 124, 125, 124, 125]⟩)) t130_83 (.string ⟨#[123, 123, 124, 125, 124, 125]⟩))) fun t131_84 =>
   Gd t131_84 true (
    Do P (V (Instr.loadAt 27 (f14 16))) fun t132_87 =>
    Do P (vCall (.func (.func 20) #[] ⟨[]⟩) [t132_87]) fun t133_88 =>
    Do P (V (EqG .eql 9 (.tmp 88) (.const (.string ⟨#[123, 123, 124, 125, 124, 123, 123, 124, 125, 124, 125, 125]⟩)) t133_88 (.string ⟨#[123, 123, 124, 125, 124, 123, 123, 124, 125, 124, 125, 125]⟩))) fun t134_89 =>
    Gd t134_89 true (
     Do P (V (Instr.loadAt 27 (f14 15))) fun t135_92 =>
     Do P (V (Instr.loadAt 27 (f14 15))) fun t136_93 =>
     Do P (vCall (.func (.func 14) #[] ⟨[]⟩) [t135_92, t136_93]) fun t137_94 =>
     Do P (vCall (.func (.func 16) #[] ⟨[]⟩) [t137_94]) fun t138_95 =>
     Do P (vCall (.func (.func 20) #[] ⟨[]⟩) [t138_95]) fun t139_96 =>
     Do P (V (EqG .eql 9 (.tmp 96) (.const (.string ⟨#[123, 124, 125]⟩)) t139_96 (.string ⟨#[123, 124, 125]⟩))) fun t140_97 =>
     k55 t140_97
    ) (
     k55 (.bool false)
    )
   ) (
    k55 (.bool false)
   )
  ) (
   k55 (.bool false)
  )
def A10 : Ann := .s (.n) (.s (.n) (.s (.n) (.s (.n) (.s (.all [(29, 0), (30, 1), (31, 2), (32, 3), (33, 4), (34, 5), (35, 6), (36, 7), (37, 8), (38, 9), (39, 10), (40, 11), (41, 12), (42, 13), (43, 14), (4, 15), (5, 16), (6, 17)]) (.s (.n) (.s (.n) (.s (.n) (.s (.n) (.s (.n) (.s (.n) (.j [19] 633824997882659797091058450432 (.n) (.j [20] 21778071482306236361541860174884814979072 (.n) (.j [21] 98079714615416865156862726797558126095624428186587103232 (.plan [(0, 2, 21778071482940061661655974875633165533184), (0, 4, 43556142965880123323311949751266331066368), (3, 65334214448820184984967924626899496599552, 87112285931760246646623899502532662132736), (4, 87112285931760246646623899502532662132736, 174224571863520493293247799005065324265472), (8, 174224571863520493293247799005065324265476, 348449143727040986586495598010130648530944), (8, 174224571863520493293247799005065324265474, 696898287454081973172991196020261297061888), (56, 1219572003044643453052734593035457269858304, 1393796574908163946345982392040522594123776), (72, 1568021146771684439639230191045587918389248, 2787593149816327892691964784081045188247552), (136, 2961817721679848385985212583086110512513024, 5575186299632655785383929568162090376495104), (320, 5575186299632655785383929568162090376495104, 11150372599265311570767859136324180752990208), (512, 11150372599265311570767859136324180752990224, 22300745198530623141535718272648361505980416), (512, 11150372599265311570767859136324180752990210, 44601490397061246283071436545296723011960832), (3584, 78052608194857180995375013954269265270931456, 89202980794122492566142873090593446023921664), (4608, 100353353393387804136910732226917626776911872, 178405961588244985132285746181186892047843328), (8704, 189556334187510296703053605317511072800833536, 356811923176489970264571492362373784095686656), (20480, 356811923176489970264571492362373784095686656, 713623846352979940529142984724747568191373312), (32768, 713623846352979940529142984724747568191373314, 1427247692705959881058285969449495136382746624), (32768, 713623846352979940529142984724747568191373328, 2854495385411919762116571938898990272765493248), (229376, 4995366924470859583704000893073232977339613184, 5708990770823839524233143877797980545530986496), (294912, 6422614617176819464762286862522728113722359808, 11417981541647679048466287755595961091061972992), (557056, 12131605388000658988995430740320708659253346304, 22835963083295358096932575511191922182123945984), (1310720, 22835963083295358096932575511191922182123945984, 45671926166590716193865151022383844364247891968), (2097152, 45671926166590716193865151022383844364247892032, 91343852333181432387730302044767688728495783936), (2097152, 45671926166590716193865151022383844364247891972, 182687704666362864775460604089535377456991567872), (14680064, 319703483166135013357056057156686910549735243776, 365375409332725729550921208179070754913983135744), (18874368, 411047335499316445744786359201454599278231027712, 730750818665451459101842416358141509827966271488), (35651584, 776422744832042175295707567380525354192214163456, 1461501637330902918203684832716283019655932542976), (83886080, 1461501637330902918203684832716283019655932542976, 2923003274661805836407369665432566039311865085952), (134217728, 2923003274661805836407369665432566039311865085956, 5846006549323611672814739330865132078623730171904), (134217728, 2923003274661805836407369665432566039311865086016, 11692013098647223345629478661730264157247460343808), (939524096, 20461022922632640854851587658027962275183055601664, 23384026197294446691258957323460528314494920687616), (1207959552, 26307029471956252527666326988893094353806785773568, 46768052394588893382517914646921056628989841375232), (2281701376, 49691055669250699218925284312353622668301706461184, 93536104789177786765035829293842113257979682750464), (5368709120, 93536104789177786765035829293842113257979682750464, 187072209578355573530071658587684226515959365500928), (8589934592, 187072209578355573530071658587684226515959365500992, 374144419156711147060143317175368453031918731001856), (8589934592, 187072209578355573530071658587684226515959365500932, 748288838313422294120286634350736906063837462003712), (42949672960, 935361047891777867650358292938421132579796827504640, 1496577676626844588240573268701473812127674924007424), (77309411328, 1683649886205200161770644927289158038643634289508352, 2993155353253689176481146537402947624255349848014848), (163208757248, 3554371981988755897071361513166000303803227944517632, 5986310706507378352962293074805895248510699696029696), (283467841536, 6173382916085733926492364733393579475026659061530624, 11972621413014756705924586149611790497021399392059392), (824633720832, 11972621413014756705924586149611790497021399392059392, 23945242826029513411849172299223580994042798784118784), (1099511627776, 23945242826029513411849172299223580994042798784118848, 47890485652059026823698344598447161988085597568237568), (1099511627776, 23945242826029513411849172299223580994042798784118786, 95780971304118053647396689196894323976171195136475136), (7696581394432, 167616699782206593882944206094565066958299591488831488, 191561942608236107294793378393788647952342390272950272), (9895604649984, 215507185434265620706642550693012228946385189057069056, 383123885216472214589586756787577295904684780545900544), (18691697672192, 407069128042501728001435929086800876898727579330019328, 766247770432944429179173513575154591809369561091801088), (43980465111040, 766247770432944429179173513575154591809369561091801088, 1532495540865888858358347027150309183618739122183602176), (70368744177664, 1532495540865888858358347027150309183618739122183602178, 3064991081731777716716694054300618367237478244367204352), (70368744177664, 1532495540865888858358347027150309183618739122183602240, 6129982163463555433433388108601236734474956488734408704), (492581209243648, 10727468786061222008508429190052164285331173855285215232, 12259964326927110866866776217202473468949912977468817408), (633318697598976, 13792459867792999725225123244352782652568652099652419584, 24519928653854221733733552434404946937899825954937634816), (1196268651020288, 26052424194720110592091899461555256121518565077121236992, 49039857307708443467467104868809893875799651909875269632), (4503599627370495, 49039857307708443467467104868809893875799651909875269632, 2097152)] (.q 0 (.q 1 (.l 2 (.q 3 (.q 4 (.q 5 (.l 6 (.q 7 (.q 8 (.q 9 (.q 10 (.q 11 (.l 12 (.q 13 (.q 14 (.q 15 (.q 16 (.q 17 (.l 18 (.q 19 (.q 20 (.q 21 (.q 22 (.q 23 (.l 24 (.q 25 (.q 26 (.q 27 (.q 28 (.q 29 (.l 30 (.q 31 (.q 32 (.q 33 (.q 34 (.q 35 (.l 36 (.l 37 (.l 38 (.q 39 (.q 40 (.q 41 (.q 42 (.l 43 (.q 44 (.q 45 (.q 46 (.q 47 (.q 48 (.l 49 (.q 50 (.q 51 (.q 52 .done)))))))))))))))))))))))))))))))))))))))))))))))))))))) (.s (.plan [(0, 524288, 98079714615416886934934209737619787751599303819750539264), (1, 98079714615416886934934209737619787751599303819750539264, 196159429230833773869868419475239575503198607639501078528), (2, 196159429230833773869868419475239575503198607639502127104, 392318858461667547739736838950479151006397215279002157056), (6, 588478287692501321609605258425718726509595822918503235584, 784637716923335095479473677900958302012794430558004314112), (10, 784637716923335095479473677900958302012794430558004314112, 1569275433846670190958947355801916604025588861116008628224), (16, 1569275433846670190958947355801916604025588861116010725376, 3138550867693340381917894711603833208051177722232017256448), (48, 4707826301540010572876842067405749812076766583348025884672, 6277101735386680763835789423207666416102355444464034512896), (80, 6277101735386680763835789423207666416102355444464034512896, 12554203470773361527671578846415332832204710888928069025792), (128, 12554203470773361527671578846415332832204710888928069025796, 25108406941546723055343157692830665664409421777856138051584), (384, 37662610412320084583014736539245998496614132666784207077376, 50216813883093446110686315385661331328818843555712276103168), (640, 62771017353866807638357894232076664161023554444640345128960, 100433627766186892221372630771322662657637687111424552206336), (1152, 112987831236960253749044209617737995489842398000352621232128, 200867255532373784442745261542645325315275374222849104412672), (2560, 200867255532373784442745261542645325315275374222849104412672, 401734511064747568885490523085290650630550748445698208825344), (4096, 401734511064747568885490523085290650630550748445698208825348, 803469022129495137770981046170581301261101496891396417650688), (12288, 1205203533194242706656471569255871951891652245337094626476032, 1606938044258990275541962092341162602522202993782792835301376), (20480, 2008672555323737844427452615426453253152753742228491044126720, 3213876088517980551083924184682325205044405987565585670602752), (36864, 3615610599582728119969414707767615855674956736011283879428096, 6427752177035961102167848369364650410088811975131171341205504), (81920, 6427752177035961102167848369364650410088811975131171341205504, 12855504354071922204335696738729300820177623950262342682411008), (131072, 12855504354071922204335696738729300820177623950262342682411024, 25711008708143844408671393477458601640355247900524685364822016), (393216, 38566513062215766613007090216187902460532871850787028047233024, 51422017416287688817342786954917203280710495801049370729644032), (655360, 64277521770359611021678483693646504100888119751311713412055040, 102844034832575377634685573909834406561420991602098741459288064), (1179648, 115699539186647299839021270648563707381598615552361084141699072, 205688069665150755269371147819668813122841983204197482918576128), (2621440, 205688069665150755269371147819668813122841983204197482918576128, 411376139330301510538742295639337626245683966408394965837152256), (4194304, 411376139330301510538742295639337626245683966408394965837152272, 822752278660603021077484591278675252491367932816789931674304512), (12582912, 1234128417990904531616226886918012878737051899225184897511456768, 1645504557321206042154969182557350504982735865633579863348609024), (20971520, 2056880696651507552693711478196688131228419832041974829185761280, 3291009114642412084309938365114701009965471731267159726697218048), (37748736, 3702385253972713594848680660754038636211155697675554692534370304, 6582018229284824168619876730229402019930943462534319453394436096), (83886080, 6582018229284824168619876730229402019930943462534319453394436096, 13164036458569648337239753460458804039861886925068638906788872192), (134217728, 13164036458569648337239753460458804039861886925068638906788872194, 26328072917139296674479506920917608079723773850137277813577744384), (402653184, 39492109375708945011719260381376412119585660775205916720366616576, 52656145834278593348959013841835216159447547700274555627155488768), (671088640, 65820182292848241686198767302294020199309434625343194533944360960, 105312291668557186697918027683670432318895095400549111254310977536), (1207959552, 118476328127126835035157781144129236358756982325617750161099849728, 210624583337114373395836055367340864637790190801098222508621955072), (2684354560, 210624583337114373395836055367340864637790190801098222508621955072, 421249166674228746791672110734681729275580381602196445017243910144), (4294967296, 421249166674228746791672110734681729275580381602196445017243910148, 842498333348457493583344221469363458551160763204392890034487820288), (12884901888, 1263747500022686240375016332204045187826741144806589335051731730432, 1684996666696914987166688442938726917102321526408785780068975640576), (4294967296, 421249166674228746791672110734681729275580381602196445017243910152, 3369993333393829974333376885877453834204643052817571560137951281152), (55834574848, 5476239166764973708291737439550862480582544960828553785224170831872, 6739986666787659948666753771754907668409286105635143120275902562304), (73014444032, 7161235833461888695458425882489589397684866487237339565293146472448, 13479973333575319897333507543509815336818572211270286240551805124608), (274877906943, 13479973333575319897333507543509815336818572211270286240551805124608, 1)] (.q 0 (.q 1 (.q 2 (.q 3 (.q 4 (.q 5 (.q 6 (.q 7 (.q 8 (.l 9 (.q 10 (.q 11 (.q 12 (.q 13 (.l 14 (.q 15 (.q 16 (.q 17 (.q 18 (.l 19 (.q 20 (.q 21 (.q 22 (.q 23 (.l 24 (.q 25 (.q 26 (.q 27 (.q 28 (.l 29 (.q 30 (.q 31 (.q 32 (.q 33 (.q 35 (.l 34 (.l 36 (.q 37 (.q 38 .done)))))))))))))))))))))))))))))))))))))))) (.n)))))))))))))))
set_option maxRecDepth 100000 in
theorem c10 (K : Value → WP) (w : World) (h : s10 Try.prog  K w) : Runs Try.prog 10 [] K w :=
  runs_of_E wide (fn := Try.f10) (c := Try.f10.body.getD .skip) 224 A10 [] w K Try.func10 (by kernel_rfl) (by kernel_rfl) (by kernel_rfl) (by kernel_rfl)
    (Eq.mp (by kernel_rfl : s10 Try.prog  K w = E Try.prog (Try.f10.body.getD .skip) A10 (topK Try.prog K Try.f10.results) (fun i => (([] : List Value)[i]?).getD undef) w) h)
theorem ct10 {h : Hp} {post : Hp → Value → Prop} (hg : ∀ w0, Gs w0 h h [] (s10 Try.prog  (RetP w0 h post))) : Ct Try.prog 10 [] h post := Ct.of (sf := s10 Try.prog ) (c10 ) hg
theorem in10 {S : WP} {K : Value → WP} (hg : G S (s10 Try.prog  K)) : G S (Do Try.prog (vCall (.func (.func 10) #[] ⟨[]⟩) []) K) := Gs.into (args := []) (caps := []) (sf := s10 Try.prog ) (c10 ) hg

/- skewer/skewerref20.Made : names 0 l, 1 size, 2 l, 3 size, 5 forms, 6 i, 7 a, 8 b, 9 c, 10 f -/
def s11 (P : Program) (arg0 arg1 : Value) (K : Value → WP) : WP :=
  Do P (V (Instr.alloc 27 true (.tuple #[]))) fun t1_4 =>
  Do P (vBuild 27 []) fun t2_11 =>
  Do P (vBuildSlice 25 1 [(0, t2_11)]) fun t3_12 =>
  Lp (α := Value × Value) (fun c4 s4 => Jk fun _ => -- forms i
   Jn (α := Value) (fun j5 => Jk fun _ => -- t20
    If j5 (
     Jn (α := Value) (fun j6 => Jk fun _ => -- forms
      Do P (V (binOp .add 3 s4.2 (.int .i64 1))) fun t7_22 =>
      c4 (j6, t7_22)
     ) fun k6 =>
     Jn (α := Value × Value × Value) (fun j8 => Jk fun _ => -- a b c
      Do P (V (Instr.loadAt 27 j8.1)) fun t9_52 =>
      Do P (vBuildSlice 25 1 [(0, t9_52)]) fun t10_53 =>
      Do P (V (Instr.loadAt 27 j8.2.1)) fun t11_54 =>
      Do P (vBuildSlice 25 1 [(0, t11_54)]) fun t12_55 =>
      Do P (vBuild 27 [(0, t10_53), (1, t12_55)]) fun t13_56 =>
      Do P (V (Instr.alloc 27 true (.tuple #[]))) fun f14 =>
      Do P (U (Instr.storeAt 27 f14 t13_56)) fun t15_x =>
      Jn (α := Unit) (fun j16 => Jk fun _ => -- 
       Do P (V (Instr.loadAt 27 f14)) fun t17_90 =>
       Do P (vCall (.func (.func 17) #[] ⟨[]⟩) [t17_90]) fun t18_91 =>
       Do P (V (binOp .leq 3 t18_91 arg1)) fun t19_93 =>
       If t19_93 (
        Do P (V (Instr.loadAt 27 f14)) fun t20_95 =>
        Do P (vBuildSlice 25 1 [(0, t20_95)]) fun t21_96 =>
        Do P (vBuiltin .append #[25, 25] 25 [s4.1, t21_96]) fun t22_97 =>
        k6 t22_97
       ) (
        k6 s4.1
       )
      ) fun k16 =>
      Do P (V (Instr.indexAt 22 arg0 s4.2)) fun t23_59 =>
      Do P (V (Instr.loadAt 5 t23_59)) fun t24_60 =>
      Do P (V (binOp .quo 5 t24_60 (.int .u8 32))) fun t25_61 =>
      Jn (α := Value) (fun j26 => Jk fun _ => -- t62
       If j26 (
        Do P (V (Instr.loadAt 27 j8.2.2)) fun t27_65 =>
        Do P (vBuildSlice 25 1 [(0, t27_65)]) fun t28_66 =>
        Do P (vBuild 27 [(0, t28_66)]) fun t29_67 =>
        Do P (U (Instr.storeAt 27 f14 t29_67)) fun t30_x =>
        k16 ()
       ) (
        Jn (α := Value) (fun j31 => Jk fun _ => -- t68
         If j31 (
          Do P (V (Instr.loadAt 27 j8.2.2)) fun t32_71 =>
          Do P (vBuildSlice 25 1 [(0, t32_71)]) fun t33_72 =>
          Do P (vBuild 27 [(1, t33_72)]) fun t34_73 =>
          Do P (U (Instr.storeAt 27 f14 t34_73)) fun t35_x =>
          k16 ()
         ) (
          Do P (V (EqG .eql 5 (.tmp 61) (.const (.int .u8 4)) t25_61 (.int .u8 4))) fun t36_75 =>
          If t36_75 (
           Do P (V (Instr.loadAt 27 j8.1)) fun t37_76 =>
           Do P (V (Instr.loadAt 27 j8.2.2)) fun t38_77 =>
           Do P (vBuildSlice 25 2 [(0, t37_76), (1, t38_77)]) fun t39_78 =>
           Do P (V (Instr.loadAt 27 j8.2.1)) fun t40_79 =>
           Do P (vBuildSlice 25 1 [(0, t40_79)]) fun t41_80 =>
           Do P (vBuild 27 [(0, t39_78), (1, t41_80)]) fun t42_81 =>
           Do P (U (Instr.storeAt 27 f14 t42_81)) fun t43_x =>
           k16 ()
          ) (
           Do P (V (EqG .eql 5 (.tmp 61) (.const (.int .u8 5)) t25_61 (.int .u8 5))) fun t44_83 =>
           If t44_83 (
            Do P (V (Instr.loadAt 27 j8.1)) fun t45_84 =>
            Do P (vBuildSlice 25 1 [(0, t45_84)]) fun t46_85 =>
            Do P (V (Instr.loadAt 27 j8.2.2)) fun t47_86 =>
            Do P (V (Instr.loadAt 27 j8.2.1)) fun t48_87 =>
            Do P (vBuildSlice 25 2 [(0, t47_86), (1, t48_87)]) fun t49_88 =>
            Do P (vBuild 27 [(0, t46_85), (1, t49_88)]) fun t50_89 =>
            Do P (U (Instr.storeAt 27 f14 t50_89)) fun t51_x =>
            k16 ()
           ) (
            k16 ()
           )
          )
         )
        ) fun k31 =>
        Do P (V (EqG .eql 5 (.tmp 61) (.const (.int .u8 2)) t25_61 (.int .u8 2))) fun t52_69 =>
        If t52_69 (
         k31 t52_69
        ) (
         Do P (V (EqG .eql 5 (.tmp 61) (.const (.int .u8 3)) t25_61 (.int .u8 3))) fun t53_70 =>
         k31 t53_70
        )
       )
      ) fun k26 =>
      Do P (V (EqG .eql 5 (.tmp 61) (.const (.int .u8 0)) t25_61 (.int .u8 0))) fun t54_63 =>
      If t54_63 (
       k26 t54_63
      ) (
       Do P (V (EqG .eql 5 (.tmp 61) (.const (.int .u8 1)) t25_61 (.int .u8 1))) fun t55_64 =>
       k26 t55_64
      )
     ) fun k8 =>
     Dr <|
     Qk P (V (Instr.indexAt 22 arg0 s4.2)) fun C56 t56_26 =>
     Qk P (V (Instr.loadAt 5 t56_26)) fun C57 t57_27 =>
     Qk P (V (convert 5 3 t57_27)) fun C58 t58_28 =>
     Qk P (vBuiltin .len #[25] 3 [s4.1]) fun C59 t59_30 =>
     Qk P (V (binOp .rem 3 t58_28 t59_30)) fun C60 t60_31 =>
     Qk P (V (Instr.indexAt 25 s4.1 t60_31)) fun C61 t61_32 =>
     Qk P (V (Instr.loadAt 27 t61_32)) fun C62 t62_33 =>
     Qk P (V (Instr.indexAt 22 arg0 s4.2)) fun C63 t63_37 =>
     Qk P (V (Instr.loadAt 5 t63_37)) fun C64 t64_38 =>
     Qk P (V (binOp .quo 5 t64_38 (.int .u8 4))) fun C65 t65_39 =>
     Qk P (V (convert 5 3 t65_39)) fun C66 t66_40 =>
     Qk P (vBuiltin .len #[25] 3 [s4.1]) fun C67 t67_42 =>
     Qk P (V (binOp .rem 3 t66_40 t67_42)) fun C68 t68_43 =>
     Qk P (V (Instr.indexAt 25 s4.1 t68_43)) fun C69 t69_44 =>
     Qk P (V (Instr.loadAt 27 t69_44)) fun C70 t70_45 =>
     Qk P (vBuiltin .len #[25] 3 [s4.1]) fun C71 t71_48 =>
     Qk P (V (binOp .sub 3 t71_48 (.int .i64 1))) fun C72 t72_49 =>
     Qk P (V (Instr.indexAt 25 s4.1 t72_49)) fun C73 t73_50 =>
     Qk P (V (Instr.loadAt 27 t73_50)) fun C74 t74_51 =>
     Or2 (
      Do P (V (Instr.alloc 27 true (.tuple #[]))) fun a75 =>
      With C74 <|
      With C73 <|
      With C72 <|
      With C71 <|
      With C70 <|
      With C69 <|
      With C68 <|
      With C67 <|
      With C66 <|
      With C65 <|
      With C64 <|
      With C63 <|
      With C62 <|
      With C61 <|
      With C60 <|
      With C59 <|
      With C58 <|
      With C57 <|
      With C56 <|
      Or2 (
       Do P (V (Instr.alloc 27 true (.tuple #[]))) fun b76 =>
       With C74 <|
       With C73 <|
       With C72 <|
       With C71 <|
       With C70 <|
       With C69 <|
       With C68 <|
       With C67 <|
       With C66 <|
       With C65 <|
       With C64 <|
       With C63 <|
       With C62 <|
       With C61 <|
       With C60 <|
       With C59 <|
       With C58 <|
       With C57 <|
       With C56 <|
       Do P (V (Instr.alloc 27 true (.tuple #[]))) fun c77 =>
       With C74 <|
       With C73 <|
       With C72 <|
       With C71 <|
       With C70 <|
       With C69 <|
       With C68 <|
       With C67 <|
       With C66 <|
       With C65 <|
       With C64 <|
       With C63 <|
       With C62 <|
       With C61 <|
       With C60 <|
       With C59 <|
       With C58 <|
       With C57 <|
       With C56 <|
       Do P (U (Instr.storeAt 27 a75 t62_33)) fun t78_x =>
       With C74 <|
       With C73 <|
       With C72 <|
       With C71 <|
       With C70 <|
       With C69 <|
       With C68 <|
       With C67 <|
       With C66 <|
       With C65 <|
       With C64 <|
       With C63 <|
       Do P (U (Instr.storeAt 27 b76 t70_45)) fun t79_x =>
       With C74 <|
       With C73 <|
       With C72 <|
       With C71 <|
       Do P (U (Instr.storeAt 27 c77 t74_51)) fun t80_x =>
       k8 (a75, b76, c77)
      ) (
       Do P (V (Instr.alloc 27 true (.tuple #[]))) fun c81 =>
       With C74 <|
       With C73 <|
       With C72 <|
       With C71 <|
       With C70 <|
       With C69 <|
       With C68 <|
       With C67 <|
       With C66 <|
       With C65 <|
       With C64 <|
       With C63 <|
       With C62 <|
       With C61 <|
       With C60 <|
       With C59 <|
       With C58 <|
       With C57 <|
       With C56 <|
       Do P (V (Instr.alloc 27 true (.tuple #[]))) fun b82 =>
       With C74 <|
       With C73 <|
       With C72 <|
       With C71 <|
       With C70 <|
       With C69 <|
       With C68 <|
       With C67 <|
       With C66 <|
       With C65 <|
       With C64 <|
       With C63 <|
       With C62 <|
       With C61 <|
       With C60 <|
       With C59 <|
       With C58 <|
       With C57 <|
       With C56 <|
       Do P (U (Instr.storeAt 27 a75 t62_33)) fun t83_x =>
       With C74 <|
       With C73 <|
       With C72 <|
       With C71 <|
       With C70 <|
       With C69 <|
       With C68 <|
       With C67 <|
       With C66 <|
       With C65 <|
       With C64 <|
       With C63 <|
       Do P (U (Instr.storeAt 27 b82 t70_45)) fun t84_x =>
       With C74 <|
       With C73 <|
       With C72 <|
       With C71 <|
       Do P (U (Instr.storeAt 27 c81 t74_51)) fun t85_x =>
       k8 (a75, b82, c81)
      )
     ) (
      Or2 (
       Do P (V (Instr.alloc 27 true (.tuple #[]))) fun b86 =>
       With C74 <|
       With C73 <|
       With C72 <|
       With C71 <|
       With C70 <|
       With C69 <|
       With C68 <|
       With C67 <|
       With C66 <|
       With C65 <|
       With C64 <|
       With C63 <|
       With C62 <|
       With C61 <|
       With C60 <|
       With C59 <|
       With C58 <|
       With C57 <|
       With C56 <|
       Or2 (
        Do P (V (Instr.alloc 27 true (.tuple #[]))) fun a87 =>
        With C74 <|
        With C73 <|
        With C72 <|
        With C71 <|
        With C70 <|
        With C69 <|
        With C68 <|
        With C67 <|
        With C66 <|
        With C65 <|
        With C64 <|
        With C63 <|
        With C62 <|
        With C61 <|
        With C60 <|
        With C59 <|
        With C58 <|
        With C57 <|
        With C56 <|
        Do P (V (Instr.alloc 27 true (.tuple #[]))) fun c88 =>
        With C74 <|
        With C73 <|
        With C72 <|
        With C71 <|
        With C70 <|
        With C69 <|
        With C68 <|
        With C67 <|
        With C66 <|
        With C65 <|
        With C64 <|
        With C63 <|
        With C62 <|
        With C61 <|
        With C60 <|
        With C59 <|
        With C58 <|
        With C57 <|
        With C56 <|
        Do P (U (Instr.storeAt 27 a87 t62_33)) fun t89_x =>
        With C74 <|
        With C73 <|
        With C72 <|
        With C71 <|
        With C70 <|
        With C69 <|
        With C68 <|
        With C67 <|
        With C66 <|
        With C65 <|
        With C64 <|
        With C63 <|
        Do P (U (Instr.storeAt 27 b86 t70_45)) fun t90_x =>
        With C74 <|
        With C73 <|
        With C72 <|
        With C71 <|
        Do P (U (Instr.storeAt 27 c88 t74_51)) fun t91_x =>
        k8 (a87, b86, c88)
       ) (
        Do P (V (Instr.alloc 27 true (.tuple #[]))) fun c92 =>
        With C74 <|
        With C73 <|
        With C72 <|
        With C71 <|
        With C70 <|
        With C69 <|
        With C68 <|
        With C67 <|
        With C66 <|
        With C65 <|
        With C64 <|
        With C63 <|
        With C62 <|
        With C61 <|
        With C60 <|
        With C59 <|
        With C58 <|
        With C57 <|
        With C56 <|
        Do P (V (Instr.alloc 27 true (.tuple #[]))) fun a93 =>
        With C74 <|
        With C73 <|
        With C72 <|
        With C71 <|
        With C70 <|
        With C69 <|
        With C68 <|
        With C67 <|
        With C66 <|
        With C65 <|
        With C64 <|
        With C63 <|
        With C62 <|
        With C61 <|
        With C60 <|
        With C59 <|
        With C58 <|
        With C57 <|
        With C56 <|
        Do P (U (Instr.storeAt 27 a93 t62_33)) fun t94_x =>
        With C74 <|
        With C73 <|
        With C72 <|
        With C71 <|
        With C70 <|
        With C69 <|
        With C68 <|
        With C67 <|
        With C66 <|
        With C65 <|
        With C64 <|
        With C63 <|
        Do P (U (Instr.storeAt 27 b86 t70_45)) fun t95_x =>
        With C74 <|
        With C73 <|
        With C72 <|
        With C71 <|
        Do P (U (Instr.storeAt 27 c92 t74_51)) fun t96_x =>
        k8 (a93, b86, c92)
       )
      ) (
       Do P (V (Instr.alloc 27 true (.tuple #[]))) fun c97 =>
       With C74 <|
       With C73 <|
       With C72 <|
       With C71 <|
       With C70 <|
       With C69 <|
       With C68 <|
       With C67 <|
       With C66 <|
       With C65 <|
       With C64 <|
       With C63 <|
       With C62 <|
       With C61 <|
       With C60 <|
       With C59 <|
       With C58 <|
       With C57 <|
       With C56 <|
       Or2 (
        Do P (V (Instr.alloc 27 true (.tuple #[]))) fun a98 =>
        With C74 <|
        With C73 <|
        With C72 <|
        With C71 <|
        With C70 <|
        With C69 <|
        With C68 <|
        With C67 <|
        With C66 <|
        With C65 <|
        With C64 <|
        With C63 <|
        With C62 <|
        With C61 <|
        With C60 <|
        With C59 <|
        With C58 <|
        With C57 <|
        With C56 <|
        Do P (V (Instr.alloc 27 true (.tuple #[]))) fun b99 =>
        With C74 <|
        With C73 <|
        With C72 <|
        With C71 <|
        With C70 <|
        With C69 <|
        With C68 <|
        With C67 <|
        With C66 <|
        With C65 <|
        With C64 <|
        With C63 <|
        With C62 <|
        With C61 <|
        With C60 <|
        With C59 <|
        With C58 <|
        With C57 <|
        With C56 <|
        Do P (U (Instr.storeAt 27 a98 t62_33)) fun t100_x =>
        With C74 <|
        With C73 <|
        With C72 <|
        With C71 <|
        With C70 <|
        With C69 <|
        With C68 <|
        With C67 <|
        With C66 <|
        With C65 <|
        With C64 <|
        With C63 <|
        Do P (U (Instr.storeAt 27 b99 t70_45)) fun t101_x =>
        With C74 <|
        With C73 <|
        With C72 <|
        With C71 <|
        Do P (U (Instr.storeAt 27 c97 t74_51)) fun t102_x =>
        k8 (a98, b99, c97)
       ) (
        Do P (V (Instr.alloc 27 true (.tuple #[]))) fun b103 =>
        With C74 <|
        With C73 <|
        With C72 <|
        With C71 <|
        With C70 <|
        With C69 <|
        With C68 <|
        With C67 <|
        With C66 <|
        With C65 <|
        With C64 <|
        With C63 <|
        With C62 <|
        With C61 <|
        With C60 <|
        With C59 <|
        With C58 <|
        With C57 <|
        With C56 <|
        Do P (V (Instr.alloc 27 true (.tuple #[]))) fun a104 =>
        With C74 <|
        With C73 <|
        With C72 <|
        With C71 <|
        With C70 <|
        With C69 <|
        With C68 <|
        With C67 <|
        With C66 <|
        With C65 <|
        With C64 <|
        With C63 <|
        With C62 <|
        With C61 <|
        With C60 <|
        With C59 <|
        With C58 <|
        With C57 <|
        With C56 <|
        Do P (U (Instr.storeAt 27 a104 t62_33)) fun t105_x =>
        With C74 <|
        With C73 <|
        With C72 <|
        With C71 <|
        With C70 <|
        With C69 <|
        With C68 <|
        With C67 <|
        With C66 <|
        With C65 <|
        With C64 <|
        With C63 <|
        Do P (U (Instr.storeAt 27 b103 t70_45)) fun t106_x =>
        With C74 <|
        With C73 <|
        With C72 <|
        With C71 <|
        Do P (U (Instr.storeAt 27 c97 t74_51)) fun t107_x =>
        k8 (a104, b103, c97)
       )
      )
     )
    ) (
     Do P (vBuiltin .len #[25] 3 [s4.1]) fun t108_100 =>
     Do P (V (binOp .sub 3 t108_100 (.int .i64 1))) fun t109_101 =>
     Do P (V (Instr.indexAt 25 s4.1 t109_101)) fun t110_102 =>
     Do P (V (Instr.loadAt 27 t110_102)) fun t111_103 =>
     Do P (U (Instr.storeAt 27 t1_4 t111_103)) fun t112_x =>
     RetC P 27 t1_4 K
    )
   ) fun k5 =>
   Do P (vBuiltin .len #[22] 3 [arg0]) fun t113_15 =>
   Do P (V (binOp .lss 3 s4.2 t113_15)) fun t114_16 =>
   Gd t114_16 true (
    Do P (V (binOp .lss 3 s4.2 (.int .i64 12))) fun t115_19 =>
    k5 t115_19
   ) (
    k5 (.bool false)
   )
  ) (t3_12, (.int .i64 0))
def A11 : Ann := .s (.n) (.s (.n) (.s (.s (.n) (.lp [5, 6] 316912650057057350374175795168 (.s (.j [20] 2088960 (.n) (.s (.n) (.n))) (.j [5] 316912650057057350374167414688 (.j [7, 8, 9] 4503599618982784 (.plan [(0, 32, 8388608), (0, 1, 16777216), (0, 64, 33554432), (6, 50331648, 67108864), (8, 67108864, 134217728), (16, 134217728, 268435456), (0, 32, 536870912), (64, 536870912, 1073741824), (160, 1342177280, 2147483648), (257, 2155872256, 4294967296), (512, 4294967296, 8589934592), (0, 32, 17179869184), (0, 1, 34359738368), (0, 64, 68719476736), (12288, 103079215104, 137438953472), (16384, 137438953472, 274877906944), (32768, 274877906944, 549755813888), (65536, 549755813888, 1099511627776), (0, 32, 2199023255552), (262144, 2199023255552, 4398046511104), (655360, 5497558138880, 8796093022208), (1050624, 8813272891392, 17592186044416), (2097152, 17592186044416, 35184372088832), (0, 32, 70368744177664), (0, 32, 140737488355328), (16777216, 140737488355328, 281474976710656), (33554432, 281474976710656, 562949953421312), (75497472, 633318697598976, 1125899906842624), (134217728, 1125899906842624, 2251799813685248), (0, 0, 128), (0, 0, 256), (0, 0, 512), (3758098431, 8589934720, 0), (8061452287, 35184372089088, 0), (17179869183, 2251799813685760, 0)] (.q 0 (.q 1 (.q 2 (.q 3 (.q 4 (.q 5 (.q 6 (.q 7 (.q 8 (.q 9 (.q 10 (.q 11 (.q 12 (.q 13 (.q 14 (.q 15 (.q 16 (.q 17 (.q 18 (.q 19 (.q 20 (.q 21 (.q 22 (.q 23 (.q 24 (.q 25 (.q 26 (.q 27 (.q 28 (.or (.l 29 (.or (.l 30 (.l 31 (.l 32 (.l 33 (.l 34 .done))))) (.l 31 (.l 30 (.l 32 (.l 33 (.l 34 .done))))))) (.or (.l 30 (.or (.l 29 (.l 31 (.l 32 (.l 33 (.l 34 .done))))) (.l 31 (.l 29 (.l 32 (.l 33 (.l 34 .done))))))) (.l 31 (.or (.l 29 (.l 30 (.l 32 (.l 33 (.l 34 .done))))) (.l 30 (.l 29 (.l 32 (.l 33 (.l 34 .done))))))))))))))))))))))))))))))))))))))) (.s (.n) (.j [] 1237940039141265086823268352 (.s (.n) (.j [62] 32281802128991715328 (.s (.n) (.s (.n) (.n))) (.s (.n) (.j [68] 2066035336255469780992 (.s (.n) (.s (.n) (.n))) (.s (.n) (.s (.n) (.s (.n) (.s (.n) (.s (.n) (.n)))))))))) (.s (.n) (.s (.n) (.n)))))) (.n))))) (.s (.n) (.n))))
set_option maxRecDepth 100000 in
theorem c11 (arg0 arg1 : Value) (K : Value → WP) (w : World) (h : s11 Try.prog arg0 arg1 K w) : Runs Try.prog 11 [arg0, arg1] K w :=
  runs_of_E wide (fn := Try.f11) (c := Try.f11.body.getD .skip) 104 A11 [arg0, arg1] w K Try.func11 (by kernel_rfl) (by kernel_rfl) (by kernel_rfl) (by kernel_rfl)
    (Eq.mp (by kernel_rfl : s11 Try.prog arg0 arg1 K w = E Try.prog (Try.f11.body.getD .skip) A11 (topK Try.prog K Try.f11.results) (fun i => (([arg0, arg1] : List Value)[i]?).getD undef) w) h)
theorem ct11 {arg0 arg1 : Value} {h : Hp} {post : Hp → Value → Prop} (hg : ∀ w0, Gs w0 h h [] (s11 Try.prog arg0 arg1 (RetP w0 h post))) : Ct Try.prog 11 [arg0, arg1] h post := Ct.of (sf := s11 Try.prog arg0 arg1) (c11 arg0 arg1) hg
theorem in11 {arg0 arg1 : Value} {S : WP} {K : Value → WP} (hg : G S (s11 Try.prog arg0 arg1 K)) : G S (Do Try.prog (vCall (.func (.func 11) #[] ⟨[]⟩) [arg0, arg1]) K) := Gs.into (args := [arg0, arg1]) (caps := []) (sf := s11 Try.prog arg0 arg1) (c11 arg0 arg1) hg

/- skewer/value.Leq : names 0 a, 1 b, 2 a, 3 b, 5 k -/
def s12 (P : Program) (arg0 arg1 : Value) (K : Value → WP) : WP :=
  Do P (V (Instr.box 27 arg0)) fun a1 =>
  Do P (V (Instr.box 27 arg1)) fun b2 =>
  Do P (vCall (.func (.func 33) #[] ⟨[]⟩) []) fun t3_6 =>
  Dr <|
  Qk P (V (Instr.loadAt 27 a1)) fun C4 t4_9 =>
  Qk P (V (Instr.loadAt 27 b2)) fun C5 t5_12 =>
  Do P (vCall (.func (.func 35) #[] ⟨[]⟩) [t3_6, t4_9]) fun t6_10 =>
  With C5 <|
  Do P (vCall (.func (.func 35) #[] ⟨[]⟩) [t3_6, t5_12]) fun t7_13 =>
  Do P (vCall (.func (.func 34) #[] ⟨[]⟩) [t3_6, t6_10, t7_13]) fun t8_14 =>
  K t8_14
def A12 : Ann := .s (.n) (.s (.n) (.s (.plan [(0, 32, 128), (0, 32, 256), (0, 4, 512), (6, 768, 1024), (0, 32, 2048), (0, 8, 4096), (56, 6144, 8192), (73, 9344, 16384), (255, 16384, 16)] (.q 0 (.q 1 (.q 2 (.q 4 (.q 5 (.l 3 (.l 6 (.l 7 (.q 8 .done)))))))))) (.n)))
set_option maxRecDepth 100000 in
theorem c12 (arg0 arg1 : Value) (K : Value → WP) (w : World) (h : s12 Try.prog arg0 arg1 K w) : Runs Try.prog 12 [arg0, arg1] K w :=
  runs_of_E wide (fn := Try.f12) (c := Try.f12.body.getD .skip) 15 A12 [arg0, arg1] w K Try.func12 (by kernel_rfl) (by kernel_rfl) (by kernel_rfl) (by kernel_rfl)
    (Eq.mp (by kernel_rfl : s12 Try.prog arg0 arg1 K w = E Try.prog (Try.f12.body.getD .skip) A12 (topK Try.prog K Try.f12.results) (fun i => (([arg0, arg1] : List Value)[i]?).getD undef) w) h)
theorem ct12 {arg0 arg1 : Value} {h : Hp} {post : Hp → Value → Prop} (hg : ∀ w0, Gs w0 h h [] (s12 Try.prog arg0 arg1 (RetP w0 h post))) : Ct Try.prog 12 [arg0, arg1] h post := Ct.of (sf := s12 Try.prog arg0 arg1) (c12 arg0 arg1) hg
theorem in12 {arg0 arg1 : Value} {S : WP} {K : Value → WP} (hg : G S (s12 Try.prog arg0 arg1 K)) : G S (Do Try.prog (vCall (.func (.func 12) #[] ⟨[]⟩) [arg0, arg1]) K) := Gs.into (args := [arg0, arg1]) (caps := []) (sf := s12 Try.prog arg0 arg1) (c12 arg0 arg1) hg

/- skewer/skewerlaw20.equal : names 0 a, 1 b, 2 a, 3 b -/
def s13 (P : Program) (arg0 arg1 : Value) (K : Value → WP) : WP :=
  Do P (V (Instr.box 27 arg0)) fun a1 =>
  Do P (V (Instr.box 27 arg1)) fun b2 =>
  Do P (V (Instr.loadAt 27 a1)) fun t3_5 =>
  Do P (V (Instr.loadAt 27 b2)) fun t4_6 =>
  Do P (vCall (.func (.func 12) #[] ⟨[]⟩) [t3_5, t4_6]) fun t5_7 =>
  Gd t5_7 true (
   Do P (V (Instr.loadAt 27 b2)) fun t6_9 =>
   Do P (V (Instr.loadAt 27 a1)) fun t7_10 =>
   Do P (vCall (.func (.func 12) #[] ⟨[]⟩) [t6_9, t7_10]) fun t8_11 =>
   K t8_11
  ) (
   K (.bool false)
  )
def A13 : Ann := .s (.n) (.s (.n) (.n))
set_option maxRecDepth 100000 in
theorem c13 (arg0 arg1 : Value) (K : Value → WP) (w : World) (h : s13 Try.prog arg0 arg1 K w) : Runs Try.prog 13 [arg0, arg1] K w :=
  runs_of_E wide (fn := Try.f13) (c := Try.f13.body.getD .skip) 13 A13 [arg0, arg1] w K Try.func13 (by kernel_rfl) (by kernel_rfl) (by kernel_rfl) (by kernel_rfl)
    (Eq.mp (by kernel_rfl : s13 Try.prog arg0 arg1 K w = E Try.prog (Try.f13.body.getD .skip) A13 (topK Try.prog K Try.f13.results) (fun i => (([arg0, arg1] : List Value)[i]?).getD undef) w) h)
theorem ct13 {arg0 arg1 : Value} {h : Hp} {post : Hp → Value → Prop} (hg : ∀ w0, Gs w0 h h [] (s13 Try.prog arg0 arg1 (RetP w0 h post))) : Ct Try.prog 13 [arg0, arg1] h post := Ct.of (sf := s13 Try.prog arg0 arg1) (c13 arg0 arg1) hg
theorem in13 {arg0 arg1 : Value} {S : WP} {K : Value → WP} (hg : G S (s13 Try.prog arg0 arg1 K)) : G S (Do Try.prog (vCall (.func (.func 13) #[] ⟨[]⟩) [arg0, arg1]) K) := Gs.into (args := [arg0, arg1]) (caps := []) (sf := s13 Try.prog arg0 arg1) (c13 arg0 arg1) hg

/- skewer/value.Add : names 0 a, 1 b, 2 a, 3 b, 5 f, 6 _, 7 x, 8 _, 9 x, 10 _, 11 x, 12 _, 13 x -/
def s14 (P : Program) (arg0 arg1 : Value) (K : Value → WP) : WP :=
  Do P (V (Instr.box 27 arg0)) fun a1 =>
  Do P (V (Instr.box 27 arg1)) fun b2 =>
  Do P (V (Instr.alloc 27 true (.tuple #[]))) fun t3_4 =>
  Do P (V (Instr.alloc 27 true (.tuple #[]))) fun f4 =>
  Do P (V (Instr.fieldAt 27 a1 0)) fun t5_14 =>
  Do P (V (Instr.loadAt 25 t5_14)) fun t6_15 =>
  Do P (vBuiltin .len #[25] 3 [t6_15]) fun t7_16 =>
  Lp (α := Value) (fun c8 s8 => Jk fun _ => -- t17
   Do P (V (binOp .lss 3 s8 t7_16)) fun t9_18 =>
   If t9_18 (
    Do P (V (Instr.indexAt 25 t6_15 s8)) fun t10_19 =>
    Do P (V (Instr.loadAt 27 t10_19)) fun t11_20 =>
    Do P (V (Instr.alloc 27 true (.tuple #[]))) fun x12 =>
    Do P (U (Instr.storeAt 27 x12 t11_20)) fun t13_x =>
    Dr <|
    Qk P (V (Instr.fieldAt 27 f4 0)) fun C14 t14_21 =>
    Qk P (V (Instr.loadAt 25 t14_21)) fun C15 t15_22 =>
    Qk P (V (Instr.loadAt 27 x12)) fun C16 t16_23 =>
    Qk P (V (Instr.loadAt 27 b2)) fun C17 t17_24 =>
    Do P (vCall (.func (.func 14) #[] ⟨[]⟩) [t16_23, t17_24]) fun t18_25 =>
    With C15 <|
    With C14 <|
    Do P (vBuildSlice 25 1 [(0, t18_25)]) fun t19_26 =>
    With C15 <|
    With C14 <|
    Do P (vBuiltin .append #[25, 25] 25 [t15_22, t19_26]) fun t20_27 =>
    Qk P (V (Instr.fieldAt 27 f4 0)) fun C21 t21_28 =>
    Do P (U (Instr.storeAt 25 t21_28 t20_27)) fun t22_x =>
    Do P (V (binOp .add 3 s8 (.int .i64 1))) fun t23_29 =>
    c8 t23_29
   ) (
    Do P (V (Instr.fieldAt 27 b2 0)) fun t24_30 =>
    Do P (V (Instr.loadAt 25 t24_30)) fun t25_31 =>
    Do P (vBuiltin .len #[25] 3 [t25_31]) fun t26_32 =>
    Lp (α := Value) (fun c27 s27 => Jk fun _ => -- t33
     Do P (V (binOp .lss 3 s27 t26_32)) fun t28_34 =>
     If t28_34 (
      Do P (V (Instr.indexAt 25 t25_31 s27)) fun t29_35 =>
      Do P (V (Instr.loadAt 27 t29_35)) fun t30_36 =>
      Do P (V (Instr.alloc 27 true (.tuple #[]))) fun x31 =>
      Do P (U (Instr.storeAt 27 x31 t30_36)) fun t32_x =>
      Dr <|
      Qk P (V (Instr.fieldAt 27 f4 0)) fun C33 t33_37 =>
      Qk P (V (Instr.loadAt 25 t33_37)) fun C34 t34_38 =>
      Qk P (V (Instr.loadAt 27 a1)) fun C35 t35_39 =>
      Qk P (V (Instr.loadAt 27 x31)) fun C36 t36_40 =>
      Do P (vCall (.func (.func 14) #[] ⟨[]⟩) [t35_39, t36_40]) fun t37_41 =>
      With C34 <|
      With C33 <|
      Do P (vBuildSlice 25 1 [(0, t37_41)]) fun t38_42 =>
      With C34 <|
      With C33 <|
      Do P (vBuiltin .append #[25, 25] 25 [t34_38, t38_42]) fun t39_43 =>
      Qk P (V (Instr.fieldAt 27 f4 0)) fun C40 t40_44 =>
      Do P (U (Instr.storeAt 25 t40_44 t39_43)) fun t41_x =>
      Do P (V (binOp .add 3 s27 (.int .i64 1))) fun t42_45 =>
      c27 t42_45
     ) (
      Do P (V (Instr.fieldAt 27 a1 1)) fun t43_46 =>
      Do P (V (Instr.loadAt 25 t43_46)) fun t44_47 =>
      Do P (vBuiltin .len #[25] 3 [t44_47]) fun t45_48 =>
      Lp (α := Value) (fun c46 s46 => Jk fun _ => -- t49
       Do P (V (binOp .lss 3 s46 t45_48)) fun t47_50 =>
       If t47_50 (
        Do P (V (Instr.indexAt 25 t44_47 s46)) fun t48_51 =>
        Do P (V (Instr.loadAt 27 t48_51)) fun t49_52 =>
        Do P (V (Instr.alloc 27 true (.tuple #[]))) fun x50 =>
        Do P (U (Instr.storeAt 27 x50 t49_52)) fun t51_x =>
        Dr <|
        Qk P (V (Instr.fieldAt 27 f4 1)) fun C52 t52_53 =>
        Qk P (V (Instr.loadAt 25 t52_53)) fun C53 t53_54 =>
        Qk P (V (Instr.loadAt 27 x50)) fun C54 t54_55 =>
        Qk P (V (Instr.loadAt 27 b2)) fun C55 t55_56 =>
        Do P (vCall (.func (.func 14) #[] ⟨[]⟩) [t54_55, t55_56]) fun t56_57 =>
        With C53 <|
        With C52 <|
        Do P (vBuildSlice 25 1 [(0, t56_57)]) fun t57_58 =>
        With C53 <|
        With C52 <|
        Do P (vBuiltin .append #[25, 25] 25 [t53_54, t57_58]) fun t58_59 =>
        Qk P (V (Instr.fieldAt 27 f4 1)) fun C59 t59_60 =>
        Do P (U (Instr.storeAt 25 t59_60 t58_59)) fun t60_x =>
        Do P (V (binOp .add 3 s46 (.int .i64 1))) fun t61_61 =>
        c46 t61_61
       ) (
        Do P (V (Instr.fieldAt 27 b2 1)) fun t62_62 =>
        Do P (V (Instr.loadAt 25 t62_62)) fun t63_63 =>
        Do P (vBuiltin .len #[25] 3 [t63_63]) fun t64_64 =>
        Lp (α := Value) (fun c65 s65 => Jk fun _ => -- t65
         Do P (V (binOp .lss 3 s65 t64_64)) fun t66_66 =>
         If t66_66 (
          Do P (V (Instr.indexAt 25 t63_63 s65)) fun t67_67 =>
          Do P (V (Instr.loadAt 27 t67_67)) fun t68_68 =>
          Do P (V (Instr.alloc 27 true (.tuple #[]))) fun x69 =>
          Do P (U (Instr.storeAt 27 x69 t68_68)) fun t70_x =>
          Dr <|
          Qk P (V (Instr.fieldAt 27 f4 1)) fun C71 t71_69 =>
          Qk P (V (Instr.loadAt 25 t71_69)) fun C72 t72_70 =>
          Qk P (V (Instr.loadAt 27 a1)) fun C73 t73_71 =>
          Qk P (V (Instr.loadAt 27 x69)) fun C74 t74_72 =>
          Do P (vCall (.func (.func 14) #[] ⟨[]⟩) [t73_71, t74_72]) fun t75_73 =>
          With C72 <|
          With C71 <|
          Do P (vBuildSlice 25 1 [(0, t75_73)]) fun t76_74 =>
          With C72 <|
          With C71 <|
          Do P (vBuiltin .append #[25, 25] 25 [t72_70, t76_74]) fun t77_75 =>
          Qk P (V (Instr.fieldAt 27 f4 1)) fun C78 t78_76 =>
          Do P (U (Instr.storeAt 25 t78_76 t77_75)) fun t79_x =>
          Do P (V (binOp .add 3 s65 (.int .i64 1))) fun t80_77 =>
          c65 t80_77
         ) (
          Do P (V (Instr.loadAt 27 f4)) fun t81_78 =>
          Do P (U (Instr.storeAt 27 t3_4 t81_78)) fun t82_x =>
          RetC P 27 t3_4 K
         )
        ) (.int .i64 0)
       )
      ) (.int .i64 0)
     )
    ) (.int .i64 0)
   )
  ) (.int .i64 0)
def A14 : Ann := .s (.n) (.s (.n) (.s (.s (.n) (.lp [17] 1073610880 (.s (.n) (.s (.s (.n) (.n)) (.s (.s (.n) (.plan [(0, 32, 2097152), (1, 2097152, 4194304), (0, 128, 8388608), (0, 8, 16777216), (12, 25165824, 33554432), (16, 33554432, 67108864), (50, 71303168, 134217728), (127, 32, 268435456), (255, 402653184, 0)] (.q 0 (.q 1 (.q 2 (.q 3 (.l 4 (.l 5 (.l 6 (.q 7 (.l 8 .done))))))))))) (.n)))))) (.s (.s (.n) (.lp [33] 70360154243584 (.s (.n) (.s (.s (.n) (.n)) (.s (.s (.n) (.plan [(0, 32, 137438953472), (1, 137438953472, 274877906944), (0, 4, 549755813888), (0, 512, 1099511627776), (12, 1649267441664, 2199023255552), (16, 2199023255552, 4398046511104), (50, 4672924418048, 8796093022208), (127, 32, 17592186044416), (255, 26388279066624, 0)] (.q 0 (.q 1 (.q 2 (.q 3 (.l 4 (.l 5 (.l 6 (.q 7 (.l 8 .done))))))))))) (.n)))))) (.s (.s (.n) (.lp [49] 4611123068473968640 (.s (.n) (.s (.s (.n) (.n)) (.s (.s (.n) (.plan [(0, 32, 9007199254740992), (1, 9007199254740992, 18014398509481984), (0, 2048, 36028797018963968), (0, 8, 72057594037927936), (12, 108086391056891904, 144115188075855872), (16, 144115188075855872, 288230376151711744), (50, 306244774661193728, 576460752303423488), (127, 32, 1152921504606846976), (255, 1729382256910270464, 0)] (.q 0 (.q 1 (.q 2 (.q 3 (.l 4 (.l 5 (.l 6 (.q 7 (.l 8 .done))))))))))) (.n)))))) (.s (.s (.n) (.lp [65] 302194561415509874581504 (.s (.n) (.s (.s (.n) (.n)) (.s (.s (.n) (.plan [(0, 32, 590295810358705651712), (1, 590295810358705651712, 1180591620717411303424), (0, 4, 2361183241434822606848), (0, 8192, 4722366482869645213696), (12, 7083549724304467820544, 9444732965739290427392), (16, 9444732965739290427392, 18889465931478580854784), (50, 20070057552195992158208, 37778931862957161709568), (127, 32, 75557863725914323419136), (255, 113336795588871485128704, 0)] (.q 0 (.q 1 (.q 2 (.q 3 (.l 4 (.l 5 (.l 6 (.q 7 (.l 8 .done))))))))))) (.n)))))) (.s (.n) (.n)))))))
set_option maxRecDepth 100000 in
theorem c14 (arg0 arg1 : Value) (K : Value → WP) (w : World) (h : s14 Try.prog arg0 arg1 K w) : Runs Try.prog 14 [arg0, arg1] K w :=
  runs_of_E wide (fn := Try.f14) (c := Try.f14.body.getD .skip) 79 A14 [arg0, arg1] w K Try.func14 (by kernel_rfl) (by kernel_rfl) (by kernel_rfl) (by kernel_rfl)
    (Eq.mp (by kernel_rfl : s14 Try.prog arg0 arg1 K w = E Try.prog (Try.f14.body.getD .skip) A14 (topK Try.prog K Try.f14.results) (fun i => (([arg0, arg1] : List Value)[i]?).getD undef) w) h)
theorem ct14 {arg0 arg1 : Value} {h : Hp} {post : Hp → Value → Prop} (hg : ∀ w0, Gs w0 h h [] (s14 Try.prog arg0 arg1 (RetP w0 h post))) : Ct Try.prog 14 [arg0, arg1] h post := Ct.of (sf := s14 Try.prog arg0 arg1) (c14 arg0 arg1) hg
theorem in14 {arg0 arg1 : Value} {S : WP} {K : Value → WP} (hg : G S (s14 Try.prog arg0 arg1 K)) : G S (Do Try.prog (vCall (.func (.func 14) #[] ⟨[]⟩) [arg0, arg1]) K) := Gs.into (args := [arg0, arg1]) (caps := []) (sf := s14 Try.prog arg0 arg1) (c14 arg0 arg1) hg

/- skewer/value.Neg : names 0 f, 1 f, 3 negate -/
def s15 (P : Program) (arg0 : Value) (K : Value → WP) : WP :=
  Do P (V (Instr.box 27 arg0)) fun f1 =>
  Do P (V (Instr.alloc 27 true (.tuple #[]))) fun t2_2 =>
  Dr <|
  Qk P (V (Instr.fieldAt 27 f1 1)) fun C3 t3_5 =>
  Qk P (V (Instr.loadAt 25 t3_5)) fun C4 t4_6 =>
  Qk P (V (Instr.fieldAt 27 f1 0)) fun C5 t5_9 =>
  Qk P (V (Instr.loadAt 25 t5_9)) fun C6 t6_10 =>
  Do P (vCall (.func (.func 36) #[] ⟨[]⟩) [t4_6]) fun t7_7 =>
  With C6 <|
  With C5 <|
  Do P (vCall (.func (.func 36) #[] ⟨[]⟩) [t6_10]) fun t8_11 =>
  Qk P (vBuild 27 [(0, t7_7), (1, t8_11)]) fun C9 t9_12 =>
  Do P (U (Instr.storeAt 27 t2_2 t9_12)) fun t10_x =>
  RetC P 27 t2_2 K
def A15 : Ann := .s (.n) (.s (.n) (.s (.plan [(0, 8, 16), (0, 2, 32), (2, 32, 64), (5, 80, 128), (0, 8, 256), (0, 2, 512), (32, 512, 1024), (88, 1280, 2048), (136, 2176, 4096), (511, 4100, 0)] (.q 0 (.q 1 (.q 2 (.q 4 (.q 5 (.q 6 (.l 3 (.l 7 (.q 8 (.l 9 .done))))))))))) (.n)))
set_option maxRecDepth 100000 in
theorem c15 (arg0 : Value) (K : Value → WP) (w : World) (h : s15 Try.prog arg0 K w) : Runs Try.prog 15 [arg0] K w :=
  runs_of_E wide (fn := Try.f15) (c := Try.f15.body.getD .skip) 13 A15 [arg0] w K Try.func15 (by kernel_rfl) (by kernel_rfl) (by kernel_rfl) (by kernel_rfl)
    (Eq.mp (by kernel_rfl : s15 Try.prog arg0 K w = E Try.prog (Try.f15.body.getD .skip) A15 (topK Try.prog K Try.f15.results) (fun i => (([arg0] : List Value)[i]?).getD undef) w) h)
theorem ct15 {arg0 : Value} {h : Hp} {post : Hp → Value → Prop} (hg : ∀ w0, Gs w0 h h [] (s15 Try.prog arg0 (RetP w0 h post))) : Ct Try.prog 15 [arg0] h post := Ct.of (sf := s15 Try.prog arg0) (c15 arg0) hg
theorem in15 {arg0 : Value} {S : WP} {K : Value → WP} (hg : G S (s15 Try.prog arg0 K)) : G S (Do Try.prog (vCall (.func (.func 15) #[] ⟨[]⟩) [arg0]) K) := Gs.into (args := [arg0]) (caps := []) (sf := s15 Try.prog arg0) (c15 arg0) hg

/- skewer/value.Canon : names 0 f, 1 f, 3 b -/
def s16 (P : Program) (arg0 : Value) (K : Value → WP) : WP :=
  Do P (V (Instr.box 27 arg0)) fun f1 =>
  Do P (V (Instr.alloc 27 true (.tuple #[]))) fun t2_2 =>
  Do P (vCall (.func (.func 33) #[] ⟨[]⟩) []) fun t3_4 =>
  Do P (V (Instr.loadAt 27 f1)) fun t4_7 =>
  Do P (vCall (.func (.func 35) #[] ⟨[]⟩) [t3_4, t4_7]) fun t5_8 =>
  Do P (vCall (.func (.func 37) #[] ⟨[]⟩) [t3_4, t5_8]) fun t6_9 =>
  Do P (vCall (.func (.func 38) #[] ⟨[]⟩) [t6_9]) fun t7_10 =>
  Do P (U (Instr.storeAt 27 t2_2 t7_10)) fun t8_x =>
  RetC P 27 t2_2 K
def A16 : Ann := .s (.n) (.s (.n) (.s (.n) (.n)))
set_option maxRecDepth 100000 in
theorem c16 (arg0 : Value) (K : Value → WP) (w : World) (h : s16 Try.prog arg0 K w) : Runs Try.prog 16 [arg0] K w :=
  runs_of_E wide (fn := Try.f16) (c := Try.f16.body.getD .skip) 11 A16 [arg0] w K Try.func16 (by kernel_rfl) (by kernel_rfl) (by kernel_rfl) (by kernel_rfl)
    (Eq.mp (by kernel_rfl : s16 Try.prog arg0 K w = E Try.prog (Try.f16.body.getD .skip) A16 (topK Try.prog K Try.f16.results) (fun i => (([arg0] : List Value)[i]?).getD undef) w) h)
theorem ct16 {arg0 : Value} {h : Hp} {post : Hp → Value → Prop} (hg : ∀ w0, Gs w0 h h [] (s16 Try.prog arg0 (RetP w0 h post))) : Ct Try.prog 16 [arg0] h post := Ct.of (sf := s16 Try.prog arg0) (c16 arg0) hg
theorem in16 {arg0 : Value} {S : WP} {K : Value → WP} (hg : G S (s16 Try.prog arg0 K)) : G S (Do Try.prog (vCall (.func (.func 16) #[] ⟨[]⟩) [arg0]) K) := Gs.into (args := [arg0]) (caps := []) (sf := s16 Try.prog arg0) (c16 arg0) hg

/- skewer/skewerref20.Size : names 0 f, 1 f, 3 n, 4 i, 5 i -/
def s17 (P : Program) (arg0 : Value) (K : Value → WP) : WP :=
  Do P (V (Instr.box 27 arg0)) fun f1 =>
  Lp (α := Value × Value) (fun c2 s2 => Jk fun _ => -- n i
   Do P (V (Instr.fieldAt 27 f1 0)) fun t3_7 =>
   Do P (V (Instr.loadAt 25 t3_7)) fun t4_8 =>
   Do P (vBuiltin .len #[25] 3 [t4_8]) fun t5_9 =>
   Do P (V (binOp .lss 3 s2.2 t5_9)) fun t6_10 =>
   If t6_10 (
    Do P (V (Instr.fieldAt 27 f1 0)) fun t7_14 =>
    Do P (V (Instr.loadAt 25 t7_14)) fun t8_15 =>
    Do P (V (Instr.indexAt 25 t8_15 s2.2)) fun t9_17 =>
    Do P (V (Instr.loadAt 27 t9_17)) fun t10_18 =>
    Do P (vCall (.func (.func 17) #[] ⟨[]⟩) [t10_18]) fun t11_19 =>
    Do P (V (binOp .add 3 s2.1 t11_19)) fun t12_20 =>
    Do P (V (binOp .add 3 s2.2 (.int .i64 1))) fun t13_12 =>
    c2 (t12_20, t13_12)
   ) (
    Lp (α := Value × Value) (fun c14 s14 => Jk fun _ => -- n i
     Do P (V (Instr.fieldAt 27 f1 1)) fun t15_22 =>
     Do P (V (Instr.loadAt 25 t15_22)) fun t16_23 =>
     Do P (vBuiltin .len #[25] 3 [t16_23]) fun t17_24 =>
     Do P (V (binOp .lss 3 s14.2 t17_24)) fun t18_25 =>
     If t18_25 (
      Do P (V (Instr.fieldAt 27 f1 1)) fun t19_29 =>
      Do P (V (Instr.loadAt 25 t19_29)) fun t20_30 =>
      Do P (V (Instr.indexAt 25 t20_30 s14.2)) fun t21_32 =>
      Do P (V (Instr.loadAt 27 t21_32)) fun t22_33 =>
      Do P (vCall (.func (.func 17) #[] ⟨[]⟩) [t22_33]) fun t23_34 =>
      Do P (V (binOp .add 3 s14.1 t23_34)) fun t24_35 =>
      Do P (V (binOp .add 3 s14.2 (.int .i64 1))) fun t25_27 =>
      c14 (t24_35, t25_27)
     ) (
      K s14.1
     )
    ) (s2.1, (.int .i64 0))
   )
  ) ((.int .i64 1), (.int .i64 0))
def A17 : Ann := .s (.n) (.s (.n) (.s (.s (.n) (.lp [3, 4] 2097112 (.s (.s (.n) (.s (.n) (.n))) (.s (.n) (.n))))) (.s (.s (.n) (.lp [3, 5] 68717379624 (.s (.s (.n) (.s (.n) (.n))) (.s (.n) (.n))))) (.s (.n) (.n)))))
set_option maxRecDepth 100000 in
theorem c17 (arg0 : Value) (K : Value → WP) (w : World) (h : s17 Try.prog arg0 K w) : Runs Try.prog 17 [arg0] K w :=
  runs_of_E wide (fn := Try.f17) (c := Try.f17.body.getD .skip) 37 A17 [arg0] w K Try.func17 (by kernel_rfl) (by kernel_rfl) (by kernel_rfl) (by kernel_rfl)
    (Eq.mp (by kernel_rfl : s17 Try.prog arg0 K w = E Try.prog (Try.f17.body.getD .skip) A17 (topK Try.prog K Try.f17.results) (fun i => (([arg0] : List Value)[i]?).getD undef) w) h)
theorem ct17 {arg0 : Value} {h : Hp} {post : Hp → Value → Prop} (hg : ∀ w0, Gs w0 h h [] (s17 Try.prog arg0 (RetP w0 h post))) : Ct Try.prog 17 [arg0] h post := Ct.of (sf := s17 Try.prog arg0) (c17 arg0) hg
theorem in17 {arg0 : Value} {S : WP} {K : Value → WP} (hg : G S (s17 Try.prog arg0 K)) : G S (Do Try.prog (vCall (.func (.func 17) #[] ⟨[]⟩) [arg0]) K) := Gs.into (args := [arg0]) (caps := []) (sf := s17 Try.prog arg0) (c17 arg0) hg

/- skewer/value.Size : names 0 f, 1 f, 3 n, 4 _, 5 l, 6 _, 7 x -/
def s18 (P : Program) (arg0 : Value) (K : Value → WP) : WP :=
  Do P (V (Instr.box 27 arg0)) fun f1 =>
  Do P (V (Instr.fieldAt 27 f1 0)) fun t2_8 =>
  Do P (V (Instr.loadAt 25 t2_8)) fun t3_9 =>
  Do P (V (Instr.fieldAt 27 f1 1)) fun t4_10 =>
  Do P (V (Instr.loadAt 25 t4_10)) fun t5_11 =>
  Do P (vBuild 68 [(0, t3_9), (1, t5_11)]) fun t6_12 =>
  Lp (α := Value × Value) (fun c7 s7 => Jk fun _ => -- n t13
   Do P (V (binOp .lss 3 s7.2 (.int .i64 2))) fun t8_14 =>
   If t8_14 (
    Do P (V (Instr.index 68 t6_12 s7.2)) fun t9_15 =>
    Do P (vBuiltin .len #[25] 3 [t9_15]) fun t10_17 =>
    Lp (α := Value × Value) (fun c11 s11 => Jk fun _ => -- n t18
     Do P (V (binOp .lss 3 s11.2 t10_17)) fun t12_19 =>
     If t12_19 (
      Do P (V (Instr.indexAt 25 t9_15 s11.2)) fun t13_20 =>
      Do P (V (Instr.loadAt 27 t13_20)) fun t14_21 =>
      Do P (V (Instr.alloc 27 true (.tuple #[]))) fun x15 =>
      Do P (U (Instr.storeAt 27 x15 t14_21)) fun t16_x =>
      Do P (V (Instr.loadAt 27 x15)) fun t17_23 =>
      Do P (vCall (.func (.func 18) #[] ⟨[]⟩) [t17_23]) fun t18_24 =>
      Do P (V (binOp .add 3 s11.1 t18_24)) fun t19_25 =>
      Do P (V (binOp .add 3 s11.2 (.int .i64 1))) fun t20_26 =>
      c11 (t19_25, t20_26)
     ) (
      Do P (V (binOp .add 3 s7.2 (.int .i64 1))) fun t21_27 =>
      c7 (s11.1, t21_27)
     )
    ) (s7.1, (.int .i64 0))
   ) (
    K s7.1
   )
  ) ((.int .i64 1), (.int .i64 0))
def A18 : Ann := .s (.n) (.s (.n) (.s (.s (.n) (.lp [3, 13] 268427432 (.s (.n) (.s (.s (.n) (.n)) (.s (.s (.n) (.s (.n) (.lp [3, 18] 133955720 (.s (.n) (.s (.s (.n) (.n)) (.s (.s (.n) (.n)) (.n))))))) (.n)))))) (.s (.n) (.n))))
set_option maxRecDepth 100000 in
theorem c18 (arg0 : Value) (K : Value → WP) (w : World) (h : s18 Try.prog arg0 K w) : Runs Try.prog 18 [arg0] K w :=
  runs_of_E wide (fn := Try.f18) (c := Try.f18.body.getD .skip) 29 A18 [arg0] w K Try.func18 (by kernel_rfl) (by kernel_rfl) (by kernel_rfl) (by kernel_rfl)
    (Eq.mp (by kernel_rfl : s18 Try.prog arg0 K w = E Try.prog (Try.f18.body.getD .skip) A18 (topK Try.prog K Try.f18.results) (fun i => (([arg0] : List Value)[i]?).getD undef) w) h)
theorem ct18 {arg0 : Value} {h : Hp} {post : Hp → Value → Prop} (hg : ∀ w0, Gs w0 h h [] (s18 Try.prog arg0 (RetP w0 h post))) : Ct Try.prog 18 [arg0] h post := Ct.of (sf := s18 Try.prog arg0) (c18 arg0) hg
theorem in18 {arg0 : Value} {S : WP} {K : Value → WP} (hg : G S (s18 Try.prog arg0 K)) : G S (Do Try.prog (vCall (.func (.func 18) #[] ⟨[]⟩) [arg0]) K) := Gs.into (args := [arg0]) (caps := []) (sf := s18 Try.prog arg0) (c18 arg0) hg

/- skewer/skewerref20.Same : names 0 a, 1 b, 2 a, 3 b -/
def s19 (P : Program) (arg0 arg1 : Value) (K : Value → WP) : WP :=
  Do P (V (Instr.box 27 arg0)) fun a1 =>
  Do P (V (Instr.box 27 arg1)) fun b2 =>
  Dr <|
  Qk P (V (Instr.loadAt 27 a1)) fun C3 t3_5 =>
  Qk P (V (Instr.loadAt 27 b2)) fun C4 t4_7 =>
  Do P (vCall (.func (.func 39) #[] ⟨[]⟩) [t3_5]) fun t5_6 =>
  With C4 <|
  Do P (vCall (.func (.func 39) #[] ⟨[]⟩) [t4_7]) fun t6_8 =>
  Qk P (V (EqG .eql 9 (.tmp 6) (.tmp 8) t5_6 t6_8)) fun C7 t7_9 =>
  K t7_9
def A19 : Ann := .s (.n) (.s (.plan [(0, 4, 32), (1, 32, 64), (0, 8, 128), (6, 128, 256), (10, 320, 512), (31, 512, 16)] (.q 0 (.q 2 (.l 1 (.l 3 (.q 4 (.q 5 .done))))))) (.n))
set_option maxRecDepth 100000 in
theorem c19 (arg0 arg1 : Value) (K : Value → WP) (w : World) (h : s19 Try.prog arg0 arg1 K w) : Runs Try.prog 19 [arg0, arg1] K w :=
  runs_of_E wide (fn := Try.f19) (c := Try.f19.body.getD .skip) 10 A19 [arg0, arg1] w K Try.func19 (by kernel_rfl) (by kernel_rfl) (by kernel_rfl) (by kernel_rfl)
    (Eq.mp (by kernel_rfl : s19 Try.prog arg0 arg1 K w = E Try.prog (Try.f19.body.getD .skip) A19 (topK Try.prog K Try.f19.results) (fun i => (([arg0, arg1] : List Value)[i]?).getD undef) w) h)
theorem ct19 {arg0 arg1 : Value} {h : Hp} {post : Hp → Value → Prop} (hg : ∀ w0, Gs w0 h h [] (s19 Try.prog arg0 arg1 (RetP w0 h post))) : Ct Try.prog 19 [arg0, arg1] h post := Ct.of (sf := s19 Try.prog arg0 arg1) (c19 arg0 arg1) hg
theorem in19 {arg0 arg1 : Value} {S : WP} {K : Value → WP} (hg : G S (s19 Try.prog arg0 arg1 K)) : G S (Do Try.prog (vCall (.func (.func 19) #[] ⟨[]⟩) [arg0, arg1]) K) := Gs.into (args := [arg0, arg1]) (caps := []) (sf := s19 Try.prog arg0 arg1) (c19 arg0 arg1) hg

/- skewer/value.Print : names 0 f, 1 f -/
def s20 (P : Program) (arg0 : Value) (K : Value → WP) : WP :=
  Do P (V (Instr.box 27 arg0)) fun f1 =>
  Dr <|
  Qk P (V (Instr.loadAt 27 f1)) fun C2 t2_4 =>
  Do P (vCall (.func (.func 33) #[] ⟨[]⟩) []) fun t3_3 =>
  With C2 <|
  Do P (vCall (.func (.func 35) #[] ⟨[]⟩) [t3_3, t2_4]) fun t4_5 =>
  Qk P (vNil t4_5) fun C5 t5_6 =>
  Qk P (V (Instr.fieldAt 71 t5_6 0)) fun C6 t6_7 =>
  Qk P (V (Instr.loadAt 9 t6_7)) fun C7 t7_8 =>
  K t7_8
def A20 : Ann := .s (.n) (.s (.plan [(0, 0, 8), (0, 2, 16), (3, 24, 32), (4, 32, 64), (8, 64, 128), (16, 128, 256), (63, 256, 4)] (.q 1 (.l 0 (.l 2 (.q 3 (.q 4 (.q 5 (.q 6 .done)))))))) (.n))
set_option maxRecDepth 100000 in
theorem c20 (arg0 : Value) (K : Value → WP) (w : World) (h : s20 Try.prog arg0 K w) : Runs Try.prog 20 [arg0] K w :=
  runs_of_E wide (fn := Try.f20) (c := Try.f20.body.getD .skip) 9 A20 [arg0] w K Try.func20 (by kernel_rfl) (by kernel_rfl) (by kernel_rfl) (by kernel_rfl)
    (Eq.mp (by kernel_rfl : s20 Try.prog arg0 K w = E Try.prog (Try.f20.body.getD .skip) A20 (topK Try.prog K Try.f20.results) (fun i => (([arg0] : List Value)[i]?).getD undef) w) h)
theorem ct20 {arg0 : Value} {h : Hp} {post : Hp → Value → Prop} (hg : ∀ w0, Gs w0 h h [] (s20 Try.prog arg0 (RetP w0 h post))) : Ct Try.prog 20 [arg0] h post := Ct.of (sf := s20 Try.prog arg0) (c20 arg0) hg
theorem in20 {arg0 : Value} {S : WP} {K : Value → WP} (hg : G S (s20 Try.prog arg0 K)) : G S (Do Try.prog (vCall (.func (.func 20) #[] ⟨[]⟩) [arg0]) K) := Gs.into (args := [arg0]) (caps := []) (sf := s20 Try.prog arg0) (c20 arg0) hg

/- skewer/skewerlaw20.made : names 0 n, 1 exp, 2 n, 3 exp, 5 x -/
def s21 (P : Program) (arg0 arg1 : Value) (K : Value → WP) : WP :=
  Do P (V (Instr.alloc 40 true (.tuple #[]))) fun t1_4 =>
  Do P (V (binOp .shl 3 (.int .i64 2) arg1)) fun t2_8 =>
  Do P (V (binOp .add 3 t2_8 (.int .i64 1))) fun t3_9 =>
  Do P (V (binOp .rem 3 arg0 t3_9)) fun t4_10 =>
  Do P (vBuild 40 [(0, t4_10), (1, arg1)]) fun t5_12 =>
  Do P (V (Instr.alloc 40 true (.tuple #[]))) fun x6 =>
  Do P (U (Instr.storeAt 40 x6 t5_12)) fun t7_x =>
  Lp (α := Unit) (fun c8 s8 => Jk fun _ => -- 
   Jn (α := Value) (fun j9 => Jk fun _ => -- t21
    If j9 (
     Do P (V (Instr.fieldAt 40 x6 0)) fun t10_22 =>
     Do P (V (Instr.loadAt 3 t10_22)) fun t11_23 =>
     Do P (V (binOp .quo 3 t11_23 (.int .i64 2))) fun t12_24 =>
     Do P (V (Instr.fieldAt 40 x6 1)) fun t13_25 =>
     Do P (V (Instr.loadAt 3 t13_25)) fun t14_26 =>
     Do P (V (binOp .sub 3 t14_26 (.int .i64 1))) fun t15_27 =>
     Do P (V (Instr.fieldAt 40 x6 0)) fun t16_28 =>
     Do P (U (Instr.storeAt 3 t16_28 t12_24)) fun t17_x =>
     Do P (V (Instr.fieldAt 40 x6 1)) fun t18_29 =>
     Do P (U (Instr.storeAt 3 t18_29 t15_27)) fun t19_x =>
     c8 ()
    ) (
     Do P (V (Instr.loadAt 40 x6)) fun t20_30 =>
     Do P (U (Instr.storeAt 40 t1_4 t20_30)) fun t21_x =>
     RetC P 40 t1_4 K
    )
   ) fun k9 =>
   Do P (V (Instr.fieldAt 40 x6 1)) fun t22_13 =>
   Do P (V (Instr.loadAt 3 t22_13)) fun t23_14 =>
   Do P (V (binOp .gtr 3 t23_14 (.int .i64 0))) fun t24_15 =>
   Gd t24_15 true (
    Do P (V (Instr.fieldAt 40 x6 0)) fun t25_17 =>
    Do P (V (Instr.loadAt 3 t25_17)) fun t26_18 =>
    Do P (V (binOp .rem 3 t26_18 (.int .i64 2))) fun t27_19 =>
    Do P (V (EqG .eql 3 (.tmp 19) (.const (.int .i64 0)) t27_19 (.int .i64 0))) fun t28_20 =>
    k9 t28_20
   ) (
    k9 (.bool false)
   )
  ) ()
def A21 : Ann := .s (.n) (.s (.n) (.s (.lp [] 1073733632 (.s (.j [21] 4186112 (.n) (.s (.n) (.n))) (.n))) (.s (.n) (.n))))
set_option maxRecDepth 100000 in
theorem c21 (arg0 arg1 : Value) (K : Value → WP) (w : World) (h : s21 Try.prog arg0 arg1 K w) : Runs Try.prog 21 [arg0, arg1] K w :=
  runs_of_E wide (fn := Try.f21) (c := Try.f21.body.getD .skip) 31 A21 [arg0, arg1] w K Try.func21 (by kernel_rfl) (by kernel_rfl) (by kernel_rfl) (by kernel_rfl)
    (Eq.mp (by kernel_rfl : s21 Try.prog arg0 arg1 K w = E Try.prog (Try.f21.body.getD .skip) A21 (topK Try.prog K Try.f21.results) (fun i => (([arg0, arg1] : List Value)[i]?).getD undef) w) h)
theorem ct21 {arg0 arg1 : Value} {h : Hp} {post : Hp → Value → Prop} (hg : ∀ w0, Gs w0 h h [] (s21 Try.prog arg0 arg1 (RetP w0 h post))) : Ct Try.prog 21 [arg0, arg1] h post := Ct.of (sf := s21 Try.prog arg0 arg1) (c21 arg0 arg1) hg
theorem in21 {arg0 arg1 : Value} {S : WP} {K : Value → WP} (hg : G S (s21 Try.prog arg0 arg1 K)) : G S (Do Try.prog (vCall (.func (.func 21) #[] ⟨[]⟩) [arg0, arg1]) K) := Gs.into (args := [arg0, arg1]) (caps := []) (sf := s21 Try.prog arg0 arg1) (c21 arg0 arg1) hg

/- skewer/value.Of : names 0 x, 1 x, 4 room, 5 f -/
def s22 (P : Program) (arg0 : Value) (K : Value → WP) : WP :=
  Do P (V (Instr.box 40 arg0)) fun x1 =>
  Do P (V (Instr.alloc 27 true (.tuple #[]))) fun t2_2 =>
  Do P (V (Instr.loadAt 40 x1)) fun t3_6 =>
  Do P (vCall (.func (.func 40) #[] ⟨[]⟩) [t3_6]) fun t4_7 =>
  Do P (V (Op.unary .not t4_7)) fun t5_8 =>
  If t5_8 (
   Do P (vBuild 27 []) fun t6_9 =>
   Do P (U (Instr.storeAt 27 t2_2 t6_9)) fun t7_x =>
   RetC P 27 t2_2 fun r => K (.tuple #[r, (.int .i64 190)])
  ) (
   Do P (V (Instr.alloc 3 true (.tuple #[]))) fun room8 =>
   Do P (U (Instr.storeAt 3 room8 (.int .i64 2000))) fun t9_x =>
   Do P (V (Instr.loadAt 40 x1)) fun t10_10 =>
   Do P (vCall (.func (.func 41) #[] ⟨[]⟩) [t10_10, room8]) fun t11_11 =>
   Do P (V (Instr.alloc 27 true (.tuple #[]))) fun f12 =>
   Do P (U (Instr.storeAt 27 f12 t11_11)) fun t13_x =>
   Do P (V (Instr.loadAt 3 room8)) fun t14_12 =>
   Do P (V (binOp .lss 3 t14_12 (.int .i64 0))) fun t15_13 =>
   If t15_13 (
    Do P (vBuild 27 []) fun t16_14 =>
    Do P (U (Instr.storeAt 27 t2_2 t16_14)) fun t17_x =>
    RetC P 27 t2_2 fun r => K (.tuple #[r, (.int .i64 2)])
   ) (
    Do P (V (Instr.loadAt 27 f12)) fun t18_15 =>
    Do P (U (Instr.storeAt 27 t2_2 t18_15)) fun t19_x =>
    RetC P 27 t2_2 fun r => K (.tuple #[r, (.int .i64 0)])
   )
  )
def A22 : Ann := .s (.n) (.s (.s (.n) (.s (.s (.n) (.n)) (.n))) (.s (.n) (.s (.n) (.s (.s (.n) (.s (.s (.n) (.n)) (.n))) (.s (.n) (.n))))))
set_option maxRecDepth 100000 in
theorem c22 (arg0 : Value) (K : Value → WP) (w : World) (h : s22 Try.prog arg0 K w) : Runs Try.prog 22 [arg0] K w :=
  runs_of_E wide (fn := Try.f22) (c := Try.f22.body.getD .skip) 16 A22 [arg0] w K Try.func22 (by kernel_rfl) (by kernel_rfl) (by kernel_rfl) (by kernel_rfl)
    (Eq.mp (by kernel_rfl : s22 Try.prog arg0 K w = E Try.prog (Try.f22.body.getD .skip) A22 (topK Try.prog K Try.f22.results) (fun i => (([arg0] : List Value)[i]?).getD undef) w) h)
theorem ct22 {arg0 : Value} {h : Hp} {post : Hp → Value → Prop} (hg : ∀ w0, Gs w0 h h [] (s22 Try.prog arg0 (RetP w0 h post))) : Ct Try.prog 22 [arg0] h post := Ct.of (sf := s22 Try.prog arg0) (c22 arg0) hg
theorem in22 {arg0 : Value} {S : WP} {K : Value → WP} (hg : G S (s22 Try.prog arg0 K)) : G S (Do Try.prog (vCall (.func (.func 22) #[] ⟨[]⟩) [arg0]) K) := Gs.into (args := [arg0]) (caps := []) (sf := s22 Try.prog arg0) (c22 arg0) hg

/- skewer/skewerref19.Add : names 0 a, 1 b, 2 a, 3 b, 6 g -/
def s23 (P : Program) (arg0 arg1 : Value) (K : Value → WP) : WP :=
  Do P (V (Instr.box 40 arg0)) fun a1 =>
  Do P (V (Instr.box 40 arg1)) fun b2 =>
  Do P (V (Instr.alloc 40 true (.tuple #[]))) fun t3_4 =>
  Do P (V (Instr.loadAt 40 a1)) fun t4_7 =>
  Do P (V (Instr.loadAt 40 b2)) fun t5_8 =>
  Do P (vCall (.func (.func 42) #[] ⟨[]⟩) [t4_7, t5_8]) fun t6_9 =>
  Do P (V (Instr.alloc 76 true (.tuple #[]))) fun g7 =>
  Do P (U (Instr.storeAt 76 g7 t6_9)) fun t8_x =>
  Dr <|
  Qk P (V (Instr.fieldAt 76 g7 0)) fun C9 t9_10 =>
  Qk P (V (Instr.loadAt 40 t9_10)) fun C10 t10_11 =>
  Qk P (V (Instr.fieldAt 76 g7 1)) fun C11 t11_12 =>
  Qk P (V (Instr.loadAt 42 t11_12)) fun C12 t12_13 =>
  Do P (U (Instr.storeAt 40 t3_4 t10_11)) fun t13_x =>
  With C12 <|
  With C11 <|
  RetC P 40 t3_4 fun r => K (.tuple #[r, t12_13])
def A23 : Ann := .s (.n) (.s (.n) (.s (.plan [(0, 64, 1024), (1, 1024, 2048), (0, 64, 4096), (4, 4096, 8192), (3, 2064, 0), (31, 8192, 32)] (.q 0 (.q 1 (.q 2 (.q 3 (.l 4 (.q 5 .done))))))) (.n)))
set_option maxRecDepth 100000 in
theorem c23 (arg0 arg1 : Value) (K : Value → WP) (w : World) (h : s23 Try.prog arg0 arg1 K w) : Runs Try.prog 23 [arg0, arg1] K w :=
  runs_of_E wide (fn := Try.f23) (c := Try.f23.body.getD .skip) 14 A23 [arg0, arg1] w K Try.func23 (by kernel_rfl) (by kernel_rfl) (by kernel_rfl) (by kernel_rfl)
    (Eq.mp (by kernel_rfl : s23 Try.prog arg0 arg1 K w = E Try.prog (Try.f23.body.getD .skip) A23 (topK Try.prog K Try.f23.results) (fun i => (([arg0, arg1] : List Value)[i]?).getD undef) w) h)
theorem ct23 {arg0 arg1 : Value} {h : Hp} {post : Hp → Value → Prop} (hg : ∀ w0, Gs w0 h h [] (s23 Try.prog arg0 arg1 (RetP w0 h post))) : Ct Try.prog 23 [arg0, arg1] h post := Ct.of (sf := s23 Try.prog arg0 arg1) (c23 arg0 arg1) hg
theorem in23 {arg0 arg1 : Value} {S : WP} {K : Value → WP} (hg : G S (s23 Try.prog arg0 arg1 K)) : G S (Do Try.prog (vCall (.func (.func 23) #[] ⟨[]⟩) [arg0, arg1]) K) := Gs.into (args := [arg0, arg1]) (caps := []) (sf := s23 Try.prog arg0 arg1) (c23 arg0 arg1) hg

/- skewer/skewerref19.Compare : names 0 a, 1 b, 2 a, 3 b, 5 u, 6 r, 7 v, 8 s -/
def s24 (P : Program) (arg0 arg1 : Value) (K : Value → WP) : WP :=
  Do P (V (Instr.box 40 arg0)) fun a1 =>
  Do P (V (Instr.box 40 arg1)) fun b2 =>
  Do P (V (Instr.loadAt 40 a1)) fun t3_10 =>
  Do P (vCall (.func (.func 43) #[] ⟨[]⟩) [t3_10]) fun t4_11 =>
  Do P (V (Instr.extract t4_11 0)) fun t5_12 =>
  Do P (V (Instr.extract t4_11 1)) fun t6_13 =>
  Do P (V (Instr.loadAt 40 b2)) fun t7_15 =>
  Do P (vCall (.func (.func 43) #[] ⟨[]⟩) [t7_15]) fun t8_16 =>
  Do P (V (Instr.extract t8_16 0)) fun t9_17 =>
  Do P (V (Instr.extract t8_16 1)) fun t10_18 =>
  Jn (α := Value) (fun j11 => Jk fun _ => -- t31
   If j11 (
    K (.int .i64 (-1))
   ) (
    Jn (α := Value) (fun j12 => Jk fun _ => -- t39
     If j12 (
      K (.int .i64 1)
     ) (
      K (.int .i64 0)
     )
    ) fun k12 =>
    Do P (V (binOp .gtr 3 t5_12 t9_17)) fun t13_34 =>
    Gd t13_34 false (
     Do P (V (binOp .gtr 3 t6_13 t10_18)) fun t14_38 =>
     k12 t14_38
    ) (
     k12 (.bool true)
    )
   )
  ) fun k11 =>
  Do P (V (binOp .lss 3 t5_12 t9_17)) fun t15_21 =>
  Gd t15_21 false (
   Do P (V (EqG .eql 3 (.tmp 23) (.tmp 24) t5_12 t9_17)) fun t16_25 =>
   Gd t16_25 true (
    Do P (V (binOp .lss 3 t6_13 t10_18)) fun t17_29 =>
    k11 t17_29
   ) (
    k11 (.bool false)
   )
  ) (
   k11 (.bool true)
  )
def A24 : Ann := .s (.n) (.s (.n) (.s (.n) (.s (.j [31] 4294443008 (.n) (.s (.s (.n) (.n)) (.n))) (.s (.j [39] 1095216660480 (.n) (.s (.s (.n) (.n)) (.n))) (.s (.n) (.n))))))
set_option maxRecDepth 100000 in
theorem c24 (arg0 arg1 : Value) (K : Value → WP) (w : World) (h : s24 Try.prog arg0 arg1 K w) : Runs Try.prog 24 [arg0, arg1] K w :=
  runs_of_E wide (fn := Try.f24) (c := Try.f24.body.getD .skip) 40 A24 [arg0, arg1] w K Try.func24 (by kernel_rfl) (by kernel_rfl) (by kernel_rfl) (by kernel_rfl)
    (Eq.mp (by kernel_rfl : s24 Try.prog arg0 arg1 K w = E Try.prog (Try.f24.body.getD .skip) A24 (topK Try.prog K Try.f24.results) (fun i => (([arg0, arg1] : List Value)[i]?).getD undef) w) h)
theorem ct24 {arg0 arg1 : Value} {h : Hp} {post : Hp → Value → Prop} (hg : ∀ w0, Gs w0 h h [] (s24 Try.prog arg0 arg1 (RetP w0 h post))) : Ct Try.prog 24 [arg0, arg1] h post := Ct.of (sf := s24 Try.prog arg0 arg1) (c24 arg0 arg1) hg
theorem in24 {arg0 arg1 : Value} {S : WP} {K : Value → WP} (hg : G S (s24 Try.prog arg0 arg1 K)) : G S (Do Try.prog (vCall (.func (.func 24) #[] ⟨[]⟩) [arg0, arg1]) K) := Gs.into (args := [arg0, arg1]) (caps := []) (sf := s24 Try.prog arg0 arg1) (c24 arg0 arg1) hg

/- skewer/value.Number : names 0 f, 1 f, 4 b, 5 x, 6 ok -/
def s25 (P : Program) (arg0 : Value) (K : Value → WP) : WP :=
  Do P (V (Instr.box 27 arg0)) fun f1 =>
  Do P (V (Instr.alloc 40 true (.tuple #[]))) fun t2_2 =>
  Do P (vCall (.func (.func 33) #[] ⟨[]⟩) []) fun t3_7 =>
  Do P (V (Instr.loadAt 27 f1)) fun t4_11 =>
  Do P (vCall (.func (.func 35) #[] ⟨[]⟩) [t3_7, t4_11]) fun t5_12 =>
  Do P (vCall (.func (.func 37) #[] ⟨[]⟩) [t3_7, t5_12]) fun t6_13 =>
  Do P (vCall (.func (.func 44) #[] ⟨[]⟩) [t6_13]) fun t7_14 =>
  Do P (V (Instr.extract t7_14 0)) fun t8_15 =>
  Do P (V (Instr.extract t7_14 1)) fun t9_16 =>
  Do P (V (Instr.alloc 40 true (.tuple #[]))) fun x10 =>
  Do P (U (Instr.storeAt 40 x10 t8_15)) fun t11_x =>
  If t9_16 (
   Do P (V (Instr.loadAt 40 x10)) fun t12_18 =>
   Do P (U (Instr.storeAt 40 t2_2 t12_18)) fun t13_x =>
   RetC P 40 t2_2 fun r => K (.tuple #[r, (.bool true)])
  ) (
   Do P (vBuild 40 []) fun t14_19 =>
   Do P (U (Instr.storeAt 40 t2_2 t14_19)) fun t15_x =>
   RetC P 40 t2_2 fun r => K (.tuple #[r, (.bool false)])
  )
def A25 : Ann := .s (.n) (.s (.n) (.s (.s (.n) (.s (.n) (.s (.s (.n) (.n)) (.n)))) (.s (.n) (.n))))
set_option maxRecDepth 100000 in
theorem c25 (arg0 : Value) (K : Value → WP) (w : World) (h : s25 Try.prog arg0 K w) : Runs Try.prog 25 [arg0] K w :=
  runs_of_E wide (fn := Try.f25) (c := Try.f25.body.getD .skip) 20 A25 [arg0] w K Try.func25 (by kernel_rfl) (by kernel_rfl) (by kernel_rfl) (by kernel_rfl)
    (Eq.mp (by kernel_rfl : s25 Try.prog arg0 K w = E Try.prog (Try.f25.body.getD .skip) A25 (topK Try.prog K Try.f25.results) (fun i => (([arg0] : List Value)[i]?).getD undef) w) h)
theorem ct25 {arg0 : Value} {h : Hp} {post : Hp → Value → Prop} (hg : ∀ w0, Gs w0 h h [] (s25 Try.prog arg0 (RetP w0 h post))) : Ct Try.prog 25 [arg0] h post := Ct.of (sf := s25 Try.prog arg0) (c25 arg0) hg
theorem in25 {arg0 : Value} {S : WP} {K : Value → WP} (hg : G S (s25 Try.prog arg0 K)) : G S (Do Try.prog (vCall (.func (.func 25) #[] ⟨[]⟩) [arg0]) K) := Gs.into (args := [arg0]) (caps := []) (sf := s25 Try.prog arg0) (c25 arg0) hg

/- skewer/skewerref19.Neg : names 0 x, 1 x -/
def s26 (P : Program) (arg0 : Value) (K : Value → WP) : WP :=
  Do P (V (Instr.box 40 arg0)) fun x1 =>
  Do P (V (Instr.alloc 40 true (.tuple #[]))) fun t2_2 =>
  Do P (V (Instr.fieldAt 40 x1 0)) fun t3_3 =>
  Do P (V (Instr.loadAt 3 t3_3)) fun t4_4 =>
  Do P (V (Op.unary .neg t4_4)) fun t5_5 =>
  Do P (V (Instr.fieldAt 40 x1 1)) fun t6_6 =>
  Do P (V (Instr.loadAt 3 t6_6)) fun t7_7 =>
  Do P (vBuild 40 [(0, t5_5), (1, t7_7)]) fun t8_8 =>
  Do P (U (Instr.storeAt 40 t2_2 t8_8)) fun t9_x =>
  RetC P 40 t2_2 K
def A26 : Ann := .s (.n) (.s (.n) (.n))
set_option maxRecDepth 100000 in
theorem c26 (arg0 : Value) (K : Value → WP) (w : World) (h : s26 Try.prog arg0 K w) : Runs Try.prog 26 [arg0] K w :=
  runs_of_E wide (fn := Try.f26) (c := Try.f26.body.getD .skip) 9 A26 [arg0] w K Try.func26 (by kernel_rfl) (by kernel_rfl) (by kernel_rfl) (by kernel_rfl)
    (Eq.mp (by kernel_rfl : s26 Try.prog arg0 K w = E Try.prog (Try.f26.body.getD .skip) A26 (topK Try.prog K Try.f26.results) (fun i => (([arg0] : List Value)[i]?).getD undef) w) h)
theorem ct26 {arg0 : Value} {h : Hp} {post : Hp → Value → Prop} (hg : ∀ w0, Gs w0 h h [] (s26 Try.prog arg0 (RetP w0 h post))) : Ct Try.prog 26 [arg0] h post := Ct.of (sf := s26 Try.prog arg0) (c26 arg0) hg
theorem in26 {arg0 : Value} {S : WP} {K : Value → WP} (hg : G S (s26 Try.prog arg0 K)) : G S (Do Try.prog (vCall (.func (.func 26) #[] ⟨[]⟩) [arg0]) K) := Gs.into (args := [arg0]) (caps := []) (sf := s26 Try.prog arg0) (c26 arg0) hg

/- skewer/value.Winner : names 0 f, 1 first, 2 f, 3 first, 5 b, 6 n, 7 zero -/
def s27 (P : Program) (arg0 arg1 : Value) (K : Value → WP) : WP :=
  Do P (V (Instr.box 27 arg0)) fun f1 =>
  Do P (vCall (.func (.func 33) #[] ⟨[]⟩) []) fun t2_8 =>
  Do P (V (Instr.loadAt 27 f1)) fun t3_10 =>
  Do P (vCall (.func (.func 35) #[] ⟨[]⟩) [t2_8, t3_10]) fun t4_11 =>
  Do P (vCall (.func (.func 45) #[] ⟨[]⟩) [t2_8, (.slice none 0 0), (.slice none 0 0)]) fun t5_13 =>
  Jn (α := Value) (fun j6 => Jk fun _ => -- t32
   If j6 (
    K (.int .i64 0)
   ) (
    K (.int .i64 1)
   )
  ) fun k6 =>
  Do P (V (EqG .eql 3 (.tmp 14) (.const (.int .i64 0)) arg1 (.int .i64 0))) fun t7_15 =>
  Gd t7_15 true (
   Do P (vCall (.func (.func 34) #[] ⟨[]⟩) [t2_8, t4_11, t5_13]) fun t8_20 =>
   Do P (V (Op.unary .not t8_20)) fun t9_21 =>
   Gd t9_21 false (
    Do P (V (EqG .neq 3 (.tmp 24) (.const (.int .i64 0)) arg1 (.int .i64 0))) fun t10_25 =>
    Gd t10_25 true (
     Do P (vCall (.func (.func 34) #[] ⟨[]⟩) [t2_8, t5_13, t4_11]) fun t11_30 =>
     k6 t11_30
    ) (
     k6 (.bool false)
    )
   ) (
    k6 (.bool true)
   )
  ) (
   Do P (V (EqG .neq 3 (.tmp 24) (.const (.int .i64 0)) arg1 (.int .i64 0))) fun t12_25 =>
   Gd t12_25 true (
    Do P (vCall (.func (.func 34) #[] ⟨[]⟩) [t2_8, t5_13, t4_11]) fun t13_30 =>
    k6 t13_30
   ) (
    k6 (.bool false)
   )
  )
def A27 : Ann := .s (.n) (.s (.n) (.s (.n) (.s (.j [32] 8589918208 (.n) (.s (.s (.n) (.n)) (.n))) (.s (.n) (.n)))))
set_option maxRecDepth 100000 in
theorem c27 (arg0 arg1 : Value) (K : Value → WP) (w : World) (h : s27 Try.prog arg0 arg1 K w) : Runs Try.prog 27 [arg0, arg1] K w :=
  runs_of_E wide (fn := Try.f27) (c := Try.f27.body.getD .skip) 33 A27 [arg0, arg1] w K Try.func27 (by kernel_rfl) (by kernel_rfl) (by kernel_rfl) (by kernel_rfl)
    (Eq.mp (by kernel_rfl : s27 Try.prog arg0 arg1 K w = E Try.prog (Try.f27.body.getD .skip) A27 (topK Try.prog K Try.f27.results) (fun i => (([arg0, arg1] : List Value)[i]?).getD undef) w) h)
theorem ct27 {arg0 arg1 : Value} {h : Hp} {post : Hp → Value → Prop} (hg : ∀ w0, Gs w0 h h [] (s27 Try.prog arg0 arg1 (RetP w0 h post))) : Ct Try.prog 27 [arg0, arg1] h post := Ct.of (sf := s27 Try.prog arg0 arg1) (c27 arg0 arg1) hg
theorem in27 {arg0 arg1 : Value} {S : WP} {K : Value → WP} (hg : G S (s27 Try.prog arg0 arg1 K)) : G S (Do Try.prog (vCall (.func (.func 27) #[] ⟨[]⟩) [arg0, arg1]) K) := Gs.into (args := [arg0, arg1]) (caps := []) (sf := s27 Try.prog arg0 arg1) (c27 arg0 arg1) hg

/- skewer/skewerlaw20.wins : names 0 f, 1 first, 2 f, 3 first, 5 options, 6 i -/
def s28 (P : Program) (arg0 arg1 : Value) (K : Value → WP) : WP :=
  Do P (V (Instr.box 27 arg0)) fun f1 =>
  Do P (V (Instr.fieldAt 27 f1 0)) fun t2_7 =>
  Do P (V (Instr.loadAt 25 t2_7)) fun t3_8 =>
  Jn (α := Value) (fun j4 => Jk fun _ => -- options
   Lp (α := Value) (fun c5 s5 => Jk fun _ => -- i
    Do P (vBuiltin .len #[25] 3 [j4]) fun t6_15 =>
    Do P (V (binOp .lss 3 s5 t6_15)) fun t7_16 =>
    If t7_16 (
     Do P (V (Instr.indexAt 25 j4 s5)) fun t8_21 =>
     Do P (V (Instr.loadAt 27 t8_21)) fun t9_22 =>
     Do P (V (binOp .sub 3 (.int .i64 1) arg1)) fun t10_24 =>
     Do P (vCall (.func (.func 28) #[] ⟨[]⟩) [t9_22, t10_24]) fun t11_25 =>
     Do P (V (Op.unary .not t11_25)) fun t12_26 =>
     If t12_26 (
      K (.bool true)
     ) (
      Do P (V (binOp .add 3 s5 (.int .i64 1))) fun t13_18 =>
      c5 t13_18
     )
    ) (
     K (.bool false)
    )
   ) (.int .i64 0)
  ) fun k4 =>
  Do P (V (EqG .neq 3 (.tmp 9) (.const (.int .i64 0)) arg1 (.int .i64 0))) fun t14_10 =>
  If t14_10 (
   Do P (V (Instr.fieldAt 27 f1 1)) fun t15_11 =>
   Do P (V (Instr.loadAt 25 t15_11)) fun t16_12 =>
   k4 t16_12
  ) (
   k4 t3_8
  )
def A28 : Ann := .s (.n) (.s (.n) (.j [5] 7712 (.s (.n) (.s (.n) (.n))) (.s (.s (.n) (.lp [6] 134209616 (.s (.s (.n) (.s (.n) (.n))) (.s (.s (.n) (.s (.s (.n) (.n)) (.n))) (.n))))) (.s (.n) (.n)))))
set_option maxRecDepth 100000 in
theorem c28 (arg0 arg1 : Value) (K : Value → WP) (w : World) (h : s28 Try.prog arg0 arg1 K w) : Runs Try.prog 28 [arg0, arg1] K w :=
  runs_of_E wide (fn := Try.f28) (c := Try.f28.body.getD .skip) 27 A28 [arg0, arg1] w K Try.func28 (by kernel_rfl) (by kernel_rfl) (by kernel_rfl) (by kernel_rfl)
    (Eq.mp (by kernel_rfl : s28 Try.prog arg0 arg1 K w = E Try.prog (Try.f28.body.getD .skip) A28 (topK Try.prog K Try.f28.results) (fun i => (([arg0, arg1] : List Value)[i]?).getD undef) w) h)
theorem ct28 {arg0 arg1 : Value} {h : Hp} {post : Hp → Value → Prop} (hg : ∀ w0, Gs w0 h h [] (s28 Try.prog arg0 arg1 (RetP w0 h post))) : Ct Try.prog 28 [arg0, arg1] h post := Ct.of (sf := s28 Try.prog arg0 arg1) (c28 arg0 arg1) hg
theorem in28 {arg0 arg1 : Value} {S : WP} {K : Value → WP} (hg : G S (s28 Try.prog arg0 arg1 K)) : G S (Do Try.prog (vCall (.func (.func 28) #[] ⟨[]⟩) [arg0, arg1]) K) := Gs.into (args := [arg0, arg1]) (caps := []) (sf := s28 Try.prog arg0 arg1) (c28 arg0 arg1) hg

/- skewer/skewerlaw20.alike : names 0 a, 1 b, 2 a, 3 b, 5 i, 6 i -/
def s29 (P : Program) (arg0 arg1 : Value) (K : Value → WP) : WP :=
  Do P (V (Instr.box 27 arg0)) fun a1 =>
  Do P (V (Instr.box 27 arg1)) fun b2 =>
  Jn (α := Value) (fun j3 => Jk fun _ => -- t22
   If j3 (
    K (.bool false)
   ) (
    Lp (α := Value) (fun c4 s4 => Jk fun _ => -- i
     Do P (V (Instr.fieldAt 27 a1 0)) fun t5_24 =>
     Do P (V (Instr.loadAt 25 t5_24)) fun t6_25 =>
     Do P (vBuiltin .len #[25] 3 [t6_25]) fun t7_26 =>
     Do P (V (binOp .lss 3 s4 t7_26)) fun t8_27 =>
     If t8_27 (
      Dr <|
      Qk P (V (Instr.fieldAt 27 a1 0)) fun C9 t9_30 =>
      Qk P (V (Instr.loadAt 25 t9_30)) fun C10 t10_31 =>
      Qk P (V (Instr.indexAt 25 t10_31 s4)) fun C11 t11_33 =>
      Qk P (V (Instr.loadAt 27 t11_33)) fun C12 t12_34 =>
      Qk P (V (Instr.fieldAt 27 b2 0)) fun C13 t13_35 =>
      Qk P (V (Instr.loadAt 25 t13_35)) fun C14 t14_36 =>
      Qk P (V (Instr.indexAt 25 t14_36 s4)) fun C15 t15_38 =>
      Qk P (V (Instr.loadAt 27 t15_38)) fun C16 t16_39 =>
      Do P (vCall (.func (.func 29) #[] ⟨[]⟩) [t12_34, t16_39]) fun t17_40 =>
      Qk P (V (Op.unary .not t17_40)) fun C18 t18_41 =>
      If t18_41 (
       K (.bool false)
      ) (
       Do P (V (binOp .add 3 s4 (.int .i64 1))) fun t19_29 =>
       c4 t19_29
      )
     ) (
      Lp (α := Value) (fun c20 s20 => Jk fun _ => -- i
       Do P (V (Instr.fieldAt 27 a1 1)) fun t21_43 =>
       Do P (V (Instr.loadAt 25 t21_43)) fun t22_44 =>
       Do P (vBuiltin .len #[25] 3 [t22_44]) fun t23_45 =>
       Do P (V (binOp .lss 3 s20 t23_45)) fun t24_46 =>
       If t24_46 (
        Dr <|
        Qk P (V (Instr.fieldAt 27 a1 1)) fun C25 t25_49 =>
        Qk P (V (Instr.loadAt 25 t25_49)) fun C26 t26_50 =>
        Qk P (V (Instr.indexAt 25 t26_50 s20)) fun C27 t27_52 =>
        Qk P (V (Instr.loadAt 27 t27_52)) fun C28 t28_53 =>
        Qk P (V (Instr.fieldAt 27 b2 1)) fun C29 t29_54 =>
        Qk P (V (Instr.loadAt 25 t29_54)) fun C30 t30_55 =>
        Qk P (V (Instr.indexAt 25 t30_55 s20)) fun C31 t31_57 =>
        Qk P (V (Instr.loadAt 27 t31_57)) fun C32 t32_58 =>
        Do P (vCall (.func (.func 29) #[] ⟨[]⟩) [t28_53, t32_58]) fun t33_59 =>
        Qk P (V (Op.unary .not t33_59)) fun C34 t34_60 =>
        If t34_60 (
         K (.bool false)
        ) (
         Do P (V (binOp .add 3 s20 (.int .i64 1))) fun t35_48 =>
         c20 t35_48
        )
       ) (
        K (.bool true)
       )
      ) (.int .i64 0)
     )
    ) (.int .i64 0)
   )
  ) fun k3 =>
  Do P (V (Instr.fieldAt 27 a1 0)) fun t36_7 =>
  Do P (V (Instr.loadAt 25 t36_7)) fun t37_8 =>
  Do P (vBuiltin .len #[25] 3 [t37_8]) fun t38_9 =>
  Do P (V (Instr.fieldAt 27 b2 0)) fun t39_10 =>
  Do P (V (Instr.loadAt 25 t39_10)) fun t40_11 =>
  Do P (vBuiltin .len #[25] 3 [t40_11]) fun t41_12 =>
  Do P (V (EqG .neq 3 (.tmp 9) (.tmp 12) t38_9 t41_12)) fun t42_13 =>
  Gd t42_13 false (
   Do P (V (Instr.fieldAt 27 a1 1)) fun t43_15 =>
   Do P (V (Instr.loadAt 25 t43_15)) fun t44_16 =>
   Do P (vBuiltin .len #[25] 3 [t44_16]) fun t45_17 =>
   Do P (V (Instr.fieldAt 27 b2 1)) fun t46_18 =>
   Do P (V (Instr.loadAt 25 t46_18)) fun t47_19 =>
   Do P (vBuiltin .len #[25] 3 [t47_19]) fun t48_20 =>
   Do P (V (EqG .neq 3 (.tmp 17) (.tmp 20) t45_17 t48_20)) fun t49_21 =>
   k3 t49_21
  ) (
   k3 (.bool true)
  )
def A29 : Ann := .s (.n) (.s (.j [22] 8388480 (.n) (.s (.s (.n) (.n)) (.n))) (.s (.s (.n) (.lp [5] 4398038122544 (.s (.s (.n) (.s (.n) (.n))) (.s (.s (.plan [(0, 4, 1073741824), (1, 1073741824, 2147483648), (0, 32, 4294967296), (6, 6442450944, 8589934592), (8, 8589934592, 17179869184), (0, 8, 34359738368), (32, 34359738368, 68719476736), (0, 32, 137438953472), (192, 206158430208, 274877906944), (256, 274877906944, 549755813888), (528, 566935683072, 1099511627776), (1024, 1099511627776, 2199023255552)] (.q 0 (.q 1 (.q 2 (.q 3 (.q 4 (.q 5 (.q 6 (.q 7 (.q 8 (.q 9 (.l 10 (.q 11 .done))))))))))))) (.s (.s (.n) (.n)) (.n))) (.n))))) (.s (.s (.n) (.lp [6] 2305838611167182928 (.s (.s (.n) (.s (.n) (.n))) (.s (.s (.plan [(0, 4, 562949953421312), (1, 562949953421312, 1125899906842624), (0, 64, 2251799813685248), (6, 3377699720527872, 4503599627370496), (8, 4503599627370496, 9007199254740992), (0, 8, 18014398509481984), (32, 18014398509481984, 36028797018963968), (0, 64, 72057594037927936), (192, 108086391056891904, 144115188075855872), (256, 144115188075855872, 288230376151711744), (528, 297237575406452736, 576460752303423488), (1024, 576460752303423488, 1152921504606846976)] (.q 0 (.q 1 (.q 2 (.q 3 (.q 4 (.q 5 (.q 6 (.q 7 (.q 8 (.q 9 (.l 10 (.q 11 .done))))))))))))) (.s (.s (.n) (.n)) (.n))) (.n))))) (.s (.n) (.n)))))
set_option maxRecDepth 100000 in
theorem c29 (arg0 arg1 : Value) (K : Value → WP) (w : World) (h : s29 Try.prog arg0 arg1 K w) : Runs Try.prog 29 [arg0, arg1] K w :=
  runs_of_E wide (fn := Try.f29) (c := Try.f29.body.getD .skip) 61 A29 [arg0, arg1] w K Try.func29 (by kernel_rfl) (by kernel_rfl) (by kernel_rfl) (by kernel_rfl)
    (Eq.mp (by kernel_rfl : s29 Try.prog arg0 arg1 K w = E Try.prog (Try.f29.body.getD .skip) A29 (topK Try.prog K Try.f29.results) (fun i => (([arg0, arg1] : List Value)[i]?).getD undef) w) h)
theorem ct29 {arg0 arg1 : Value} {h : Hp} {post : Hp → Value → Prop} (hg : ∀ w0, Gs w0 h h [] (s29 Try.prog arg0 arg1 (RetP w0 h post))) : Ct Try.prog 29 [arg0, arg1] h post := Ct.of (sf := s29 Try.prog arg0 arg1) (c29 arg0 arg1) hg
theorem in29 {arg0 arg1 : Value} {S : WP} {K : Value → WP} (hg : G S (s29 Try.prog arg0 arg1 K)) : G S (Do Try.prog (vCall (.func (.func 29) #[] ⟨[]⟩) [arg0, arg1]) K) := Gs.into (args := [arg0, arg1]) (caps := []) (sf := s29 Try.prog arg0 arg1) (c29 arg0 arg1) hg

/- skewer/skewerref20.Zero : names 0 f, 1 f -/
def s30 (P : Program) (arg0 : Value) (K : Value → WP) : WP :=
  Do P (V (Instr.box 27 arg0)) fun f1 =>
  Do P (V (Instr.fieldAt 27 f1 0)) fun t2_3 =>
  Do P (V (Instr.loadAt 25 t2_3)) fun t3_4 =>
  Do P (vBuiltin .len #[25] 3 [t3_4]) fun t4_5 =>
  Do P (V (Instr.fieldAt 27 f1 1)) fun t5_6 =>
  Do P (V (Instr.loadAt 25 t5_6)) fun t6_7 =>
  Do P (vBuiltin .len #[25] 3 [t6_7]) fun t7_8 =>
  Do P (V (binOp .add 3 t4_5 t7_8)) fun t8_9 =>
  Do P (V (EqG .eql 3 (.tmp 9) (.const (.int .i64 0)) t8_9 (.int .i64 0))) fun t9_10 =>
  K t9_10
def A30 : Ann := .s (.n) (.s (.n) (.n))
set_option maxRecDepth 100000 in
theorem c30 (arg0 : Value) (K : Value → WP) (w : World) (h : s30 Try.prog arg0 K w) : Runs Try.prog 30 [arg0] K w :=
  runs_of_E wide (fn := Try.f30) (c := Try.f30.body.getD .skip) 11 A30 [arg0] w K Try.func30 (by kernel_rfl) (by kernel_rfl) (by kernel_rfl) (by kernel_rfl)
    (Eq.mp (by kernel_rfl : s30 Try.prog arg0 K w = E Try.prog (Try.f30.body.getD .skip) A30 (topK Try.prog K Try.f30.results) (fun i => (([arg0] : List Value)[i]?).getD undef) w) h)
theorem ct30 {arg0 : Value} {h : Hp} {post : Hp → Value → Prop} (hg : ∀ w0, Gs w0 h h [] (s30 Try.prog arg0 (RetP w0 h post))) : Ct Try.prog 30 [arg0] h post := Ct.of (sf := s30 Try.prog arg0) (c30 arg0) hg
theorem in30 {arg0 : Value} {S : WP} {K : Value → WP} (hg : G S (s30 Try.prog arg0 K)) : G S (Do Try.prog (vCall (.func (.func 30) #[] ⟨[]⟩) [arg0]) K) := Gs.into (args := [arg0]) (caps := []) (sf := s30 Try.prog arg0) (c30 arg0) hg

/- skewer/skewerref20.Long : names 0 x, 1 limit, 2 x, 3 limit, 5 n, 6 n -/
def s31 (P : Program) (arg0 arg1 : Value) (K : Value → WP) : WP :=
  Do P (V (Instr.box 40 arg0)) fun x1 =>
  Do P (V (binOp .leq 3 arg1 (.int .i64 0))) fun t2_8 =>
  If t2_8 (
   K (.int .i64 1)
  ) (
   Do P (V (Instr.fieldAt 40 x1 1)) fun t3_9 =>
   Do P (V (Instr.loadAt 3 t3_9)) fun t4_10 =>
   Do P (V (EqG .eql 3 (.tmp 10) (.const (.int .i64 0)) t4_10 (.int .i64 0))) fun t5_11 =>
   If t5_11 (
    Do P (V (Instr.fieldAt 40 x1 0)) fun t6_12 =>
    Do P (V (Instr.loadAt 3 t6_12)) fun t7_13 =>
    Do P (V (Instr.fieldAt 40 x1 0)) fun t8_14 =>
    Do P (V (Instr.loadAt 3 t8_14)) fun t9_15 =>
    Do P (V (binOp .sub 3 (.int .i64 0) t9_15)) fun t10_16 =>
    Do P (vBuiltin .max #[3, 3] 3 [t7_13, t10_16]) fun t11_17 =>
    Do P (vBuiltin .min #[3, 3] 3 [t11_17, (.int .i64 2000)]) fun t12_19 =>
    Do P (V (binOp .add 3 t12_19 (.int .i64 1))) fun t13_20 =>
    K t13_20
   ) (
    Do P (V (Instr.fieldAt 40 x1 0)) fun t14_21 =>
    Do P (V (Instr.loadAt 3 t14_21)) fun t15_22 =>
    Do P (V (binOp .sub 3 t15_22 (.int .i64 1))) fun t16_23 =>
    Do P (V (Instr.fieldAt 40 x1 1)) fun t17_24 =>
    Do P (V (Instr.loadAt 3 t17_24)) fun t18_25 =>
    Do P (vCall (.func (.func 46) #[] ⟨[]⟩) [t16_23, t18_25]) fun t19_26 =>
    Do P (V (binOp .sub 3 arg1 (.int .i64 1))) fun t20_28 =>
    Do P (vCall (.func (.func 31) #[] ⟨[]⟩) [t19_26, t20_28]) fun t21_29 =>
    Do P (V (binOp .gtr 3 t21_29 arg1)) fun t22_32 =>
    If t22_32 (
     K t21_29
    ) (
     Do P (V (binOp .add 3 (.int .i64 1) t21_29)) fun t23_35 =>
     Do P (V (Instr.fieldAt 40 x1 0)) fun t24_36 =>
     Do P (V (Instr.loadAt 3 t24_36)) fun t25_37 =>
     Do P (V (binOp .add 3 t25_37 (.int .i64 1))) fun t26_38 =>
     Do P (V (Instr.fieldAt 40 x1 1)) fun t27_39 =>
     Do P (V (Instr.loadAt 3 t27_39)) fun t28_40 =>
     Do P (vCall (.func (.func 46) #[] ⟨[]⟩) [t26_38, t28_40]) fun t29_41 =>
     Do P (V (binOp .sub 3 arg1 t21_29)) fun t30_44 =>
     Do P (vCall (.func (.func 31) #[] ⟨[]⟩) [t29_41, t30_44]) fun t31_45 =>
     Do P (V (binOp .add 3 t23_35 t31_45)) fun t32_46 =>
     K t32_46
    )
   )
  )
def A31 : Ann := .s (.n) (.s (.s (.n) (.s (.s (.n) (.n)) (.n))) (.s (.s (.n) (.s (.s (.n) (.s (.n) (.n))) (.n))) (.s (.n) (.s (.s (.n) (.s (.s (.n) (.n)) (.n))) (.s (.n) (.n))))))
set_option maxRecDepth 100000 in
theorem c31 (arg0 arg1 : Value) (K : Value → WP) (w : World) (h : s31 Try.prog arg0 arg1 K w) : Runs Try.prog 31 [arg0, arg1] K w :=
  runs_of_E wide (fn := Try.f31) (c := Try.f31.body.getD .skip) 47 A31 [arg0, arg1] w K Try.func31 (by kernel_rfl) (by kernel_rfl) (by kernel_rfl) (by kernel_rfl)
    (Eq.mp (by kernel_rfl : s31 Try.prog arg0 arg1 K w = E Try.prog (Try.f31.body.getD .skip) A31 (topK Try.prog K Try.f31.results) (fun i => (([arg0, arg1] : List Value)[i]?).getD undef) w) h)
theorem ct31 {arg0 arg1 : Value} {h : Hp} {post : Hp → Value → Prop} (hg : ∀ w0, Gs w0 h h [] (s31 Try.prog arg0 arg1 (RetP w0 h post))) : Ct Try.prog 31 [arg0, arg1] h post := Ct.of (sf := s31 Try.prog arg0 arg1) (c31 arg0 arg1) hg
theorem in31 {arg0 arg1 : Value} {S : WP} {K : Value → WP} (hg : G S (s31 Try.prog arg0 arg1 K)) : G S (Do Try.prog (vCall (.func (.func 31) #[] ⟨[]⟩) [arg0, arg1]) K) := Gs.into (args := [arg0, arg1]) (caps := []) (sf := s31 Try.prog arg0 arg1) (c31 arg0 arg1) hg

/- skewer/skewerlaw20.form : names 0 l, 1 r, 2 l, 3 r -/
def s32 (P : Program) (arg0 arg1 : Value) (K : Value → WP) : WP :=
  Do P (V (Instr.alloc 27 true (.tuple #[]))) fun t1_4 =>
  Do P (vBuild 27 [(0, arg0), (1, arg1)]) fun t2_7 =>
  Do P (U (Instr.storeAt 27 t1_4 t2_7)) fun t3_x =>
  RetC P 27 t1_4 K
def A32 : Ann := .s (.n) (.s (.n) (.n))
set_option maxRecDepth 100000 in
theorem c32 (arg0 arg1 : Value) (K : Value → WP) (w : World) (h : s32 Try.prog arg0 arg1 K w) : Runs Try.prog 32 [arg0, arg1] K w :=
  runs_of_E wide (fn := Try.f32) (c := Try.f32.body.getD .skip) 8 A32 [arg0, arg1] w K Try.func32 (by kernel_rfl) (by kernel_rfl) (by kernel_rfl) (by kernel_rfl)
    (Eq.mp (by kernel_rfl : s32 Try.prog arg0 arg1 K w = E Try.prog (Try.f32.body.getD .skip) A32 (topK Try.prog K Try.f32.results) (fun i => (([arg0, arg1] : List Value)[i]?).getD undef) w) h)
theorem ct32 {arg0 arg1 : Value} {h : Hp} {post : Hp → Value → Prop} (hg : ∀ w0, Gs w0 h h [] (s32 Try.prog arg0 arg1 (RetP w0 h post))) : Ct Try.prog 32 [arg0, arg1] h post := Ct.of (sf := s32 Try.prog arg0 arg1) (c32 arg0 arg1) hg
theorem in32 {arg0 arg1 : Value} {S : WP} {K : Value → WP} (hg : G S (s32 Try.prog arg0 arg1 K)) : G S (Do Try.prog (vCall (.func (.func 32) #[] ⟨[]⟩) [arg0, arg1]) K) := Gs.into (args := [arg0, arg1]) (caps := []) (sf := s32 Try.prog arg0 arg1) (c32 arg0 arg1) hg

/- skewer/value.open : names  -/
def s33 (P : Program) (K : Value → WP) : WP :=
  Do P (V (Instr.makeMap 82 none)) fun t1_1 =>
  Do P (V (Instr.makeMap 83 none)) fun t2_2 =>
  Do P (V (Instr.makeMap 82 none)) fun t3_3 =>
  Do P (vBuild 85 [(0, t1_1), (1, t2_2), (2, t3_3)]) fun t4_4 =>
  Do P (V (Instr.box 85 t4_4)) fun t5_5 =>
  K t5_5
def A33 : Ann := .s (.n) (.s (.n) (.n))
set_option maxRecDepth 100000 in
theorem c33 (K : Value → WP) (w : World) (h : s33 Try.prog  K w) : Runs Try.prog 33 [] K w :=
  runs_of_E wide (fn := Try.f33) (c := Try.f33.body.getD .skip) 6 A33 [] w K Try.func33 (by kernel_rfl) (by kernel_rfl) (by kernel_rfl) (by kernel_rfl)
    (Eq.mp (by kernel_rfl : s33 Try.prog  K w = E Try.prog (Try.f33.body.getD .skip) A33 (topK Try.prog K Try.f33.results) (fun i => (([] : List Value)[i]?).getD undef) w) h)
theorem ct33 {h : Hp} {post : Hp → Value → Prop} (hg : ∀ w0, Gs w0 h h [] (s33 Try.prog  (RetP w0 h post))) : Ct Try.prog 33 [] h post := Ct.of (sf := s33 Try.prog ) (c33 ) hg
theorem in33 {S : WP} {K : Value → WP} (hg : G S (s33 Try.prog  K)) : G S (Do Try.prog (vCall (.func (.func 33) #[] ⟨[]⟩) []) K) := Gs.into (args := []) (caps := []) (sf := s33 Try.prog ) (c33 ) hg

/- (*skewer/value.book).most : names 0 b, 1 x, 2 y, 3 b, 4 x, 5 y, 7 p, 8 known, 9 ok, 10 worse, 11 better, 12 out -/
def s34 (P : Program) (arg0 arg1 arg2 : Value) (K : Value → WP) : WP :=
  Do P (V (Instr.box 60 arg0)) fun b1 =>
  Do P (V (Instr.box 63 arg1)) fun x2 =>
  Do P (V (Instr.box 63 arg2)) fun y3 =>
  Dr <|
  Qk P (V (Instr.loadAt 63 x2)) fun C4 t4_13 =>
  Qk P (vNil t4_13) fun C5 t5_14 =>
  Qk P (V (Instr.fieldAt 71 t5_14 0)) fun C6 t6_15 =>
  Qk P (V (Instr.loadAt 9 t6_15)) fun C7 t7_16 =>
  Qk P (V (Instr.loadAt 63 y3)) fun C8 t8_17 =>
  Qk P (vNil t8_17) fun C9 t9_18 =>
  Qk P (V (Instr.fieldAt 71 t9_18 0)) fun C10 t10_19 =>
  Qk P (V (Instr.loadAt 9 t10_19)) fun C11 t11_20 =>
  Qk P (vBuild 87 [(0, t7_16), (1, t11_20)]) fun C12 t12_21 =>
  Do P (V (Instr.alloc 87 true (.tuple #[]))) fun p13 =>
  With C12 <|
  With C11 <|
  With C10 <|
  With C9 <|
  With C8 <|
  With C7 <|
  With C6 <|
  With C5 <|
  With C4 <|
  Do P (U (Instr.storeAt 87 p13 t12_21)) fun t14_x =>
  Dr <|
  Qk P (V (Instr.loadAt 60 b1)) fun C15 t15_23 =>
  Qk P (vNil t15_23) fun C16 t16_24 =>
  Qk P (V (Instr.fieldAt 85 t16_24 1)) fun C17 t17_25 =>
  Qk P (V (Instr.loadAt 83 t17_25)) fun C18 t18_26 =>
  Qk P (V (Instr.loadAt 87 p13)) fun C19 t19_27 =>
  Qk P (V (Instr.lookup 83 t18_26 t19_27 true)) fun C20 t20_28 =>
  Qk P (V (Instr.extract t20_28 0)) fun C21 t21_29 =>
  Qk P (V (Instr.extract t20_28 1)) fun C22 t22_30 =>
  If t22_30 (
   K t21_29
  ) (
   Jn (α := Value) (fun j23 => Jk fun _ => -- out
    Dr <|
    Qk P (V (Instr.loadAt 60 b1)) fun C24 t24_51 =>
    Qk P (vNil t24_51) fun C25 t25_52 =>
    Qk P (V (Instr.fieldAt 85 t25_52 1)) fun C26 t26_53 =>
    Qk P (V (Instr.loadAt 83 t26_53)) fun C27 t27_54 =>
    Qk P (V (Instr.loadAt 87 p13)) fun C28 t28_55 =>
    Do P (U (Instr.mapUpdate 83 t27_54 t28_55 j23)) fun t29_x =>
    K j23
   ) fun k23 =>
   Do P (V (Instr.loadAt 63 x2)) fun t30_35 =>
   Do P (vNil t30_35) fun t31_36 =>
   Do P (V (Instr.fieldAt 71 t31_36 1)) fun t32_37 =>
   Do P (V (Instr.loadAt 69 t32_37)) fun t33_38 =>
   Do P (vCall (.func (.func 49) #[] ⟨[]⟩) [t33_38, (.func (.func 47) #[] ⟨[b1, y3]⟩)]) fun t34_40 =>
   Do P (V (Op.unary .not t34_40)) fun t35_41 =>
   Gd t35_41 true (
    Do P (V (Instr.loadAt 63 y3)) fun t36_43 =>
    Do P (vNil t36_43) fun t37_44 =>
    Do P (V (Instr.fieldAt 71 t37_44 2)) fun t38_45 =>
    Do P (V (Instr.loadAt 69 t38_45)) fun t39_46 =>
    Do P (vCall (.func (.func 49) #[] ⟨[]⟩) [t39_46, (.func (.func 48) #[] ⟨[b1, x2]⟩)]) fun t40_48 =>
    Do P (V (Op.unary .not t40_48)) fun t41_49 =>
    k23 t41_49
   ) (
    k23 (.bool false)
   )
  )
def A34 : Ann := .s (.n) (.s (.plan [(0, 16, 8192), (1, 8192, 16384), (2, 16384, 32768), (4, 32768, 65536), (0, 32, 131072), (16, 131072, 262144), (32, 262144, 524288), (64, 524288, 1048576), (136, 1114112, 2097152), (0, 0, 128), (1023, 2097280, 0)] (.q 0 (.q 1 (.q 2 (.q 3 (.q 4 (.q 5 (.q 6 (.q 7 (.q 8 (.l 9 (.l 10 .done)))))))))))) (.s (.s (.plan [(0, 8, 8388608), (1, 8388608, 16777216), (2, 16777216, 33554432), (4, 33554432, 67108864), (0, 128, 134217728), (24, 201326592, 268435456), (32, 268435456, 4194304), (64, 4194304, 536870912), (64, 4194304, 1073741824), (255, 536870912, 256), (1023, 1073741824, 512)] (.q 0 (.q 1 (.q 2 (.q 3 (.q 4 (.q 5 (.q 6 (.q 7 (.q 8 (.q 9 (.q 10 .done)))))))))))) (.s (.n) (.s (.s (.n) (.n)) (.n)))) (.s (.n) (.s (.n) (.j [12] 2251765453950976 (.n) (.s (.plan [(0, 8, 2251799813685248), (1, 2251799813685248, 4503599627370496), (2, 4503599627370496, 9007199254740992), (4, 9007199254740992, 18014398509481984), (0, 128, 36028797018963968), (0, 4096, 72057594037927936), (63, 126100789566373888, 0)] (.q 0 (.q 1 (.q 2 (.q 3 (.q 4 (.q 5 (.l 6 .done)))))))) (.s (.n) (.n))))))))
set_option maxRecDepth 100000 in
theorem c34 (arg0 arg1 arg2 : Value) (K : Value → WP) (w : World) (h : s34 Try.prog arg0 arg1 arg2 K w) : Runs Try.prog 34 [arg0, arg1, arg2] K w :=
  runs_of_E wide (fn := Try.f34) (c := Try.f34.body.getD .skip) 58 A34 [arg0, arg1, arg2] w K Try.func34 (by kernel_rfl) (by kernel_rfl) (by kernel_rfl) (by kernel_rfl)
    (Eq.mp (by kernel_rfl : s34 Try.prog arg0 arg1 arg2 K w = E Try.prog (Try.f34.body.getD .skip) A34 (topK Try.prog K Try.f34.results) (fun i => (([arg0, arg1, arg2] : List Value)[i]?).getD undef) w) h)
theorem ct34 {arg0 arg1 arg2 : Value} {h : Hp} {post : Hp → Value → Prop} (hg : ∀ w0, Gs w0 h h [] (s34 Try.prog arg0 arg1 arg2 (RetP w0 h post))) : Ct Try.prog 34 [arg0, arg1, arg2] h post := Ct.of (sf := s34 Try.prog arg0 arg1 arg2) (c34 arg0 arg1 arg2) hg
theorem in34 {arg0 arg1 arg2 : Value} {S : WP} {K : Value → WP} (hg : G S (s34 Try.prog arg0 arg1 arg2 K)) : G S (Do Try.prog (vCall (.func (.func 34) #[] ⟨[]⟩) [arg0, arg1, arg2]) K) := Gs.into (args := [arg0, arg1, arg2]) (caps := []) (sf := s34 Try.prog arg0 arg1 arg2) (c34 arg0 arg1 arg2) hg

/- (*skewer/value.book).enter : names 0 b, 1 f, 2 b, 3 f -/
def s35 (P : Program) (arg0 arg1 : Value) (K : Value → WP) : WP :=
  Do P (V (Instr.box 27 arg1)) fun f1 =>
  Dr <|
  Qk P (V (Instr.fieldAt 27 f1 0)) fun C2 t2_7 =>
  Qk P (V (Instr.loadAt 25 t2_7)) fun C3 t3_8 =>
  Qk P (V (Instr.fieldAt 27 f1 1)) fun C4 t4_11 =>
  Qk P (V (Instr.loadAt 25 t4_11)) fun C5 t5_12 =>
  Do P (vCall (.func (.func 50) #[] ⟨[]⟩) [arg0, t3_8]) fun t6_9 =>
  With C5 <|
  With C4 <|
  Do P (vCall (.func (.func 50) #[] ⟨[]⟩) [arg0, t5_12]) fun t7_13 =>
  Do P (vCall (.func (.func 45) #[] ⟨[]⟩) [arg0, t6_9, t7_13]) fun t8_14 =>
  K t8_14
def A35 : Ann := .s (.n) (.s (.plan [(0, 1, 32), (0, 1, 64), (0, 8, 128), (4, 128, 256), (10, 320, 512), (0, 1, 1024), (0, 8, 2048), (64, 2048, 4096), (176, 5120, 8192), (273, 8736, 16384), (1023, 16384, 16)] (.q 0 (.q 1 (.q 2 (.q 3 (.q 5 (.q 6 (.q 7 (.l 4 (.l 8 (.l 9 (.q 10 .done)))))))))))) (.n))
set_option maxRecDepth 100000 in
theorem c35 (arg0 arg1 : Value) (K : Value → WP) (w : World) (h : s35 Try.prog arg0 arg1 K w) : Runs Try.prog 35 [arg0, arg1] K w :=
  runs_of_E wide (fn := Try.f35) (c := Try.f35.body.getD .skip) 15 A35 [arg0, arg1] w K Try.func35 (by kernel_rfl) (by kernel_rfl) (by kernel_rfl) (by kernel_rfl)
    (Eq.mp (by kernel_rfl : s35 Try.prog arg0 arg1 K w = E Try.prog (Try.f35.body.getD .skip) A35 (topK Try.prog K Try.f35.results) (fun i => (([arg0, arg1] : List Value)[i]?).getD undef) w) h)
theorem ct35 {arg0 arg1 : Value} {h : Hp} {post : Hp → Value → Prop} (hg : ∀ w0, Gs w0 h h [] (s35 Try.prog arg0 arg1 (RetP w0 h post))) : Ct Try.prog 35 [arg0, arg1] h post := Ct.of (sf := s35 Try.prog arg0 arg1) (c35 arg0 arg1) hg
theorem in35 {arg0 arg1 : Value} {S : WP} {K : Value → WP} (hg : G S (s35 Try.prog arg0 arg1 K)) : G S (Do Try.prog (vCall (.func (.func 35) #[] ⟨[]⟩) [arg0, arg1]) K) := Gs.into (args := [arg0, arg1]) (caps := []) (sf := s35 Try.prog arg0 arg1) (c35 arg0 arg1) hg

/- skewer/value.Neg$1 : names 0 l, 1 l, 3 out, 4 _, 5 x -/
def s36 (P : Program) (arg0 : Value) (K : Value → WP) : WP :=
  Do P (vBuiltin .len #[25] 3 [arg0]) fun t1_7 =>
  Lp (α := Value × Value) (fun c2 s2 => Jk fun _ => -- out t8
   Do P (V (binOp .lss 3 s2.2 t1_7)) fun t3_9 =>
   If t3_9 (
    Do P (V (Instr.indexAt 25 arg0 s2.2)) fun t4_10 =>
    Do P (V (Instr.loadAt 27 t4_10)) fun t5_11 =>
    Do P (V (Instr.alloc 27 true (.tuple #[]))) fun x6 =>
    Do P (U (Instr.storeAt 27 x6 t5_11)) fun t7_x =>
    Do P (V (Instr.loadAt 27 x6)) fun t8_13 =>
    Do P (vCall (.func (.func 15) #[] ⟨[]⟩) [t8_13]) fun t9_14 =>
    Do P (vBuildSlice 25 1 [(0, t9_14)]) fun t10_15 =>
    Do P (vBuiltin .append #[25, 25] 25 [s2.1, t10_15]) fun t11_16 =>
    Do P (V (binOp .add 3 s2.2 (.int .i64 1))) fun t12_17 =>
    c2 (t11_16, t12_17)
   ) (
    K s2.1
   )
  ) ((.slice none 0 0), (.int .i64 0))
def A36 : Ann := .s (.n) (.s (.n) (.s (.s (.n) (.lp [3, 8] 261928 (.s (.n) (.s (.s (.n) (.n)) (.s (.s (.n) (.n)) (.n)))))) (.s (.n) (.n))))
set_option maxRecDepth 100000 in
theorem c36 (arg0 : Value) (K : Value → WP) (w : World) (h : s36 Try.prog arg0 K w) : Runs Try.prog 36 [arg0] K w :=
  runs_of_E wide (fn := Try.f36) (c := Try.f36.body.getD .skip) 19 A36 [arg0] w K Try.func36 (by kernel_rfl) (by kernel_rfl) (by kernel_rfl) (by kernel_rfl)
    (Eq.mp (by kernel_rfl : s36 Try.prog arg0 K w = E Try.prog (Try.f36.body.getD .skip) A36 (topK Try.prog K Try.f36.results) (fun i => (([arg0] : List Value)[i]?).getD undef) w) h)
theorem ct36 {arg0 : Value} {h : Hp} {post : Hp → Value → Prop} (hg : ∀ w0, Gs w0 h h [] (s36 Try.prog arg0 (RetP w0 h post))) : Ct Try.prog 36 [arg0] h post := Ct.of (sf := s36 Try.prog arg0) (c36 arg0) hg
theorem in36 {arg0 : Value} {S : WP} {K : Value → WP} (hg : G S (s36 Try.prog arg0 K)) : G S (Do Try.prog (vCall (.func (.func 36) #[] ⟨[]⟩) [arg0]) K) := Gs.into (args := [arg0]) (caps := []) (sf := s36 Try.prog arg0) (c36 arg0) hg

/- (*skewer/value.book).reduce : names 0 b, 1 n, 2 b, 3 n, 5 c, 6 known, 7 l, 8 r, 9 _, 10 x, 11 _, 12 x, 13 more, 14 least, 15 c -/
def s37 (P : Program) (arg0 arg1 : Value) (K : Value → WP) : WP :=
  Do P (V (Instr.box 60 arg0)) fun b1 =>
  Dr <|
  Qk P (V (Instr.loadAt 60 b1)) fun C2 t2_17 =>
  Qk P (vNil t2_17) fun C3 t3_18 =>
  Qk P (V (Instr.fieldAt 85 t3_18 2)) fun C4 t4_19 =>
  Qk P (V (Instr.loadAt 82 t4_19)) fun C5 t5_20 =>
  Qk P (vNil arg1) fun C6 t6_22 =>
  Qk P (V (Instr.fieldAt 71 t6_22 0)) fun C7 t7_23 =>
  Qk P (V (Instr.loadAt 9 t7_23)) fun C8 t8_24 =>
  Qk P (V (Instr.lookup 82 t5_20 t8_24 true)) fun C9 t9_25 =>
  Qk P (V (Instr.extract t9_25 0)) fun C10 t10_26 =>
  Qk P (V (Instr.extract t9_25 1)) fun C11 t11_27 =>
  If t11_27 (
   K t10_26
  ) (
   Do P (vNil arg1) fun t12_31 =>
   Do P (V (Instr.fieldAt 71 t12_31 1)) fun t13_32 =>
   Do P (V (Instr.loadAt 69 t13_32)) fun t14_33 =>
   Do P (vBuiltin .len #[69] 3 [t14_33]) fun t15_34 =>
   Lp (α := Value × Value) (fun c16 s16 => Jk fun _ => -- l t35
    Do P (V (binOp .lss 3 s16.2 t15_34)) fun t17_36 =>
    If t17_36 (
     Do P (V (Instr.indexAt 69 t14_33 s16.2)) fun t18_37 =>
     Do P (V (Instr.loadAt 63 t18_37)) fun t19_38 =>
     Do P (V (Instr.loadAt 60 b1)) fun t20_40 =>
     Do P (vCall (.func (.func 37) #[] ⟨[]⟩) [t20_40, t19_38]) fun t21_42 =>
     Do P (vBuildSlice 69 1 [(0, t21_42)]) fun t22_43 =>
     Do P (vBuiltin .append #[69, 69] 69 [s16.1, t22_43]) fun t23_44 =>
     Do P (V (binOp .add 3 s16.2 (.int .i64 1))) fun t24_45 =>
     c16 (t23_44, t24_45)
    ) (
     Do P (vNil arg1) fun t25_47 =>
     Do P (V (Instr.fieldAt 71 t25_47 2)) fun t26_48 =>
     Do P (V (Instr.loadAt 69 t26_48)) fun t27_49 =>
     Do P (vBuiltin .len #[69] 3 [t27_49]) fun t28_50 =>
     Lp (α := Value × Value) (fun c29 s29 => Jk fun _ => -- r t51
      Do P (V (binOp .lss 3 s29.2 t28_50)) fun t30_52 =>
      If t30_52 (
       Do P (V (Instr.indexAt 69 t27_49 s29.2)) fun t31_53 =>
       Do P (V (Instr.loadAt 63 t31_53)) fun t32_54 =>
       Do P (V (Instr.loadAt 60 b1)) fun t33_56 =>
       Do P (vCall (.func (.func 37) #[] ⟨[]⟩) [t33_56, t32_54]) fun t34_58 =>
       Do P (vBuildSlice 69 1 [(0, t34_58)]) fun t35_59 =>
       Do P (vBuiltin .append #[69, 69] 69 [s29.1, t35_59]) fun t36_60 =>
       Do P (V (binOp .add 3 s29.2 (.int .i64 1))) fun t37_61 =>
       c29 (t36_60, t37_61)
      ) (
       Lp (α := Value × Value × Value) (fun c38 s38 => Jk fun _ => -- l r more
        If s38.2.2 (
         Do P (V (Instr.loadAt 60 b1)) fun t39_64 =>
         Do P (vCall (.func (.func 51) #[] ⟨[]⟩) [t39_64, s38.1, s38.2.1]) fun t40_67 =>
         Do P (V (Instr.extract t40_67 0)) fun t41_68 =>
         Do P (V (Instr.extract t40_67 1)) fun t42_69 =>
         Do P (V (Op.unary .not t42_69)) fun t43_71 =>
         If t43_71 (
          Do P (V (Instr.loadAt 60 b1)) fun t44_73 =>
          Do P (vCall (.func (.func 52) #[] ⟨[]⟩) [t44_73, t41_68, s38.2.1]) fun t45_76 =>
          Do P (V (Instr.extract t45_76 0)) fun t46_77 =>
          Do P (V (Instr.extract t45_76 1)) fun t47_78 =>
          c38 (t41_68, t46_77, t47_78)
         ) (
          c38 (t41_68, s38.2.1, t42_69)
         )
        ) (
         Dr <|
         Qk P (V (Instr.loadAt 60 b1)) fun C48 t48_80 =>
         Qk P (V (Instr.loadAt 60 b1)) fun C49 t49_82 =>
         Do P (vCall (.func (.func 54) #[] ⟨[]⟩) [s38.1, (.func (.func 34) #[t49_82] ⟨[]⟩)]) fun t50_84 =>
         With C48 <|
         Do P (vCall (.func (.func 54) #[] ⟨[]⟩) [s38.2.1, (.func (.func 53) #[] ⟨[b1]⟩)]) fun t51_87 =>
         With C48 <|
         Do P (vCall (.func (.func 45) #[] ⟨[]⟩) [t48_80, t50_84, t51_87]) fun t52_88 =>
         Dr <|
         Qk P (V (Instr.loadAt 60 b1)) fun C53 t53_89 =>
         Qk P (vNil t53_89) fun C54 t54_90 =>
         Qk P (V (Instr.fieldAt 85 t54_90 2)) fun C55 t55_91 =>
         Qk P (V (Instr.loadAt 82 t55_91)) fun C56 t56_92 =>
         Qk P (vNil arg1) fun C57 t57_94 =>
         Qk P (V (Instr.fieldAt 71 t57_94 0)) fun C58 t58_95 =>
         Qk P (V (Instr.loadAt 9 t58_95)) fun C59 t59_96 =>
         Do P (U (Instr.mapUpdate 82 t56_92 t59_96 t52_88)) fun t60_x =>
         K t52_88
        )
       ) (s16.1, s29.1, (.bool true))
      )
     ) ((.slice none 0 0), (.int .i64 0))
    )
   ) ((.slice none 0 0), (.int .i64 0))
  )
def A37 : Ann := .s (.n) (.s (.s (.plan [(0, 4, 131072), (1, 131072, 262144), (2, 262144, 524288), (4, 524288, 1048576), (0, 2, 2097152), (16, 2097152, 4194304), (32, 4194304, 8388608), (64, 8388608, 16777216), (136, 17825792, 33554432), (256, 33554432, 65536), (512, 65536, 67108864), (512, 65536, 134217728), (2047, 67108864, 32), (8191, 134217728, 64)] (.q 0 (.q 1 (.q 2 (.q 3 (.q 4 (.q 5 (.q 6 (.q 7 (.q 8 (.q 9 (.q 10 (.q 11 (.q 12 (.q 13 .done))))))))))))))) (.s (.n) (.s (.s (.n) (.n)) (.n)))) (.s (.n) (.s (.s (.n) (.lp [7, 35] 70334384440448 (.s (.n) (.s (.s (.n) (.n)) (.s (.s (.n) (.n)) (.n)))))) (.s (.s (.n) (.lp [8, 51] 4609434218613707008 (.s (.n) (.s (.s (.n) (.n)) (.s (.s (.n) (.n)) (.n)))))) (.s (.s (.n) (.lp [7, 8, 13] 604458298121296159973760 (.s (.s (.n) (.s (.n) (.n))) (.s (.n) (.s (.n) (.s (.n) (.n))))))) (.s (.n) (.s (.plan [(0, 4, 1208925819614629174706176), (0, 128, 2417851639229258349412352), (0, 4, 4835703278458516698824704), (4, 4835703278458516698824704, 9671406556917033397649408), (10, 12089258196146291747061760, 19342813113834066795298816), (0, 256, 38685626227668133590597632), (0, 16384, 77371252455336267181195264), (112, 116056878683004400771792896, 154742504910672534362390528), (145, 175294243844121230332395520, 309485009821345068724781056), (511, 309485009821345068724781056, 32768)] (.q 0 (.q 1 (.q 2 (.q 3 (.q 5 (.q 6 (.l 4 (.l 7 (.l 8 (.q 9 .done))))))))))) (.s (.plan [(0, 4, 618970019642690137449562112), (1, 618970019642690137449562112, 1237940039285380274899124224), (2, 1237940039285380274899124224, 2475880078570760549798248448), (4, 2475880078570760549798248448, 4951760157141521099596496896), (0, 2, 9903520314283042199192993792), (16, 9903520314283042199192993792, 19807040628566084398385987584), (32, 19807040628566084398385987584, 39614081257132168796771975168), (64, 39614081257132168796771975168, 79228162514264337593543950336), (0, 32768, 158456325028528675187087900672), (511, 242636247699934533880228347904, 0)] (.q 0 (.q 1 (.q 2 (.q 3 (.q 4 (.q 5 (.q 6 (.q 7 (.q 8 (.l 9 .done))))))))))) (.s (.n) (.n))))))))))
set_option maxRecDepth 100000 in
theorem c37 (arg0 arg1 : Value) (K : Value → WP) (w : World) (h : s37 Try.prog arg0 arg1 K w) : Runs Try.prog 37 [arg0, arg1] K w :=
  runs_of_E wide (fn := Try.f37) (c := Try.f37.body.getD .skip) 99 A37 [arg0, arg1] w K Try.func37 (by kernel_rfl) (by kernel_rfl) (by kernel_rfl) (by kernel_rfl)
    (Eq.mp (by kernel_rfl : s37 Try.prog arg0 arg1 K w = E Try.prog (Try.f37.body.getD .skip) A37 (topK Try.prog K Try.f37.results) (fun i => (([arg0, arg1] : List Value)[i]?).getD undef) w) h)
theorem ct37 {arg0 arg1 : Value} {h : Hp} {post : Hp → Value → Prop} (hg : ∀ w0, Gs w0 h h [] (s37 Try.prog arg0 arg1 (RetP w0 h post))) : Ct Try.prog 37 [arg0, arg1] h post := Ct.of (sf := s37 Try.prog arg0 arg1) (c37 arg0 arg1) hg
theorem in37 {arg0 arg1 : Value} {S : WP} {K : Value → WP} (hg : G S (s37 Try.prog arg0 arg1 K)) : G S (Do Try.prog (vCall (.func (.func 37) #[] ⟨[]⟩) [arg0, arg1]) K) := Gs.into (args := [arg0, arg1]) (caps := []) (sf := s37 Try.prog arg0 arg1) (c37 arg0 arg1) hg

/- (*skewer/value.node).form : names 0 n, 1 n, 3 f, 4 _, 5 x, 6 _, 7 x -/
def s38 (P : Program) (arg0 : Value) (K : Value → WP) : WP :=
  Do P (V (Instr.alloc 27 true (.tuple #[]))) fun t1_2 =>
  Do P (V (Instr.alloc 27 true (.tuple #[]))) fun f2 =>
  Do P (vNil arg0) fun t3_9 =>
  Do P (V (Instr.fieldAt 71 t3_9 1)) fun t4_10 =>
  Do P (V (Instr.loadAt 69 t4_10)) fun t5_11 =>
  Do P (vBuiltin .len #[69] 3 [t5_11]) fun t6_12 =>
  Lp (α := Value) (fun c7 s7 => Jk fun _ => -- t13
   Do P (V (binOp .lss 3 s7 t6_12)) fun t8_14 =>
   If t8_14 (
    Do P (V (Instr.indexAt 69 t5_11 s7)) fun t9_15 =>
    Do P (V (Instr.loadAt 63 t9_15)) fun t10_16 =>
    Dr <|
    Qk P (V (Instr.fieldAt 27 f2 0)) fun C11 t11_17 =>
    Qk P (V (Instr.loadAt 25 t11_17)) fun C12 t12_18 =>
    Do P (vCall (.func (.func 38) #[] ⟨[]⟩) [t10_16]) fun t13_20 =>
    With C12 <|
    With C11 <|
    Do P (vBuildSlice 25 1 [(0, t13_20)]) fun t14_21 =>
    With C12 <|
    With C11 <|
    Do P (vBuiltin .append #[25, 25] 25 [t12_18, t14_21]) fun t15_22 =>
    Qk P (V (Instr.fieldAt 27 f2 0)) fun C16 t16_23 =>
    Do P (U (Instr.storeAt 25 t16_23 t15_22)) fun t17_x =>
    Do P (V (binOp .add 3 s7 (.int .i64 1))) fun t18_24 =>
    c7 t18_24
   ) (
    Do P (vNil arg0) fun t19_26 =>
    Do P (V (Instr.fieldAt 71 t19_26 2)) fun t20_27 =>
    Do P (V (Instr.loadAt 69 t20_27)) fun t21_28 =>
    Do P (vBuiltin .len #[69] 3 [t21_28]) fun t22_29 =>
    Lp (α := Value) (fun c23 s23 => Jk fun _ => -- t30
     Do P (V (binOp .lss 3 s23 t22_29)) fun t24_31 =>
     If t24_31 (
      Do P (V (Instr.indexAt 69 t21_28 s23)) fun t25_32 =>
      Do P (V (Instr.loadAt 63 t25_32)) fun t26_33 =>
      Dr <|
      Qk P (V (Instr.fieldAt 27 f2 1)) fun C27 t27_34 =>
      Qk P (V (Instr.loadAt 25 t27_34)) fun C28 t28_35 =>
      Do P (vCall (.func (.func 38) #[] ⟨[]⟩) [t26_33]) fun t29_37 =>
      With C28 <|
      With C27 <|
      Do P (vBuildSlice 25 1 [(0, t29_37)]) fun t30_38 =>
      With C28 <|
      With C27 <|
      Do P (vBuiltin .append #[25, 25] 25 [t28_35, t30_38]) fun t31_39 =>
      Qk P (V (Instr.fieldAt 27 f2 1)) fun C32 t32_40 =>
      Do P (U (Instr.storeAt 25 t32_40 t31_39)) fun t33_x =>
      Do P (V (binOp .add 3 s23 (.int .i64 1))) fun t34_41 =>
      c23 t34_41
     ) (
      Do P (V (Instr.loadAt 27 f2)) fun t35_42 =>
      Do P (U (Instr.storeAt 27 t1_2 t35_42)) fun t36_x =>
      RetC P 27 t1_2 K
     )
    ) (.int .i64 0)
   )
  ) (.int .i64 0)
def A38 : Ann := .s (.n) (.s (.n) (.s (.s (.n) (.lp [13] 33546272 (.s (.n) (.s (.s (.n) (.n)) (.s (.s (.n) (.plan [(0, 8, 131072), (1, 131072, 262144), (0, 32, 524288), (4, 524288, 1048576), (8, 1048576, 2097152), (26, 2359296, 4194304), (63, 8, 8388608), (127, 12582912, 0)] (.q 0 (.q 1 (.q 2 (.l 3 (.l 4 (.l 5 (.q 6 (.l 7 .done)))))))))) (.n)))))) (.s (.s (.n) (.lp [30] 4396972769408 (.s (.n) (.s (.s (.n) (.n)) (.s (.s (.n) (.plan [(0, 8, 17179869184), (1, 17179869184, 34359738368), (0, 128, 68719476736), (4, 68719476736, 137438953472), (8, 137438953472, 274877906944), (26, 309237645312, 549755813888), (63, 8, 1099511627776), (127, 1649267441664, 0)] (.q 0 (.q 1 (.q 2 (.l 3 (.l 4 (.l 5 (.q 6 (.l 7 .done)))))))))) (.n)))))) (.s (.n) (.n)))))
set_option maxRecDepth 100000 in
theorem c38 (arg0 : Value) (K : Value → WP) (w : World) (h : s38 Try.prog arg0 K w) : Runs Try.prog 38 [arg0] K w :=
  runs_of_E wide (fn := Try.f38) (c := Try.f38.body.getD .skip) 43 A38 [arg0] w K Try.func38 (by kernel_rfl) (by kernel_rfl) (by kernel_rfl) (by kernel_rfl)
    (Eq.mp (by kernel_rfl : s38 Try.prog arg0 K w = E Try.prog (Try.f38.body.getD .skip) A38 (topK Try.prog K Try.f38.results) (fun i => (([arg0] : List Value)[i]?).getD undef) w) h)
theorem ct38 {arg0 : Value} {h : Hp} {post : Hp → Value → Prop} (hg : ∀ w0, Gs w0 h h [] (s38 Try.prog arg0 (RetP w0 h post))) : Ct Try.prog 38 [arg0] h post := Ct.of (sf := s38 Try.prog arg0) (c38 arg0) hg
theorem in38 {arg0 : Value} {S : WP} {K : Value → WP} (hg : G S (s38 Try.prog arg0 K)) : G S (Do Try.prog (vCall (.func (.func 38) #[] ⟨[]⟩) [arg0]) K) := Gs.into (args := [arg0]) (caps := []) (sf := s38 Try.prog arg0) (c38 arg0) hg

/- skewer/skewerref20.Print : names 0 f, 1 f -/
def s39 (P : Program) (arg0 : Value) (K : Value → WP) : WP :=
  Do P (V (Instr.box 27 arg0)) fun f1 =>
  Dr <|
  Qk P (V (Instr.fieldAt 27 f1 0)) fun C2 t2_3 =>
  Qk P (V (Instr.loadAt 25 t2_3)) fun C3 t3_4 =>
  Qk P (V (Instr.fieldAt 27 f1 1)) fun C4 t4_8 =>
  Qk P (V (Instr.loadAt 25 t4_8)) fun C5 t5_9 =>
  Do P (vCall (.func (.func 55) #[] ⟨[]⟩) [t3_4]) fun t6_5 =>
  With C5 <|
  With C4 <|
  Qk P (V (binOp .add 9 (.string ⟨#[123]⟩) t6_5)) fun C7 t7_6 =>
  Qk P (V (binOp .add 9 t7_6 (.string ⟨#[124]⟩))) fun C8 t8_7 =>
  Do P (vCall (.func (.func 55) #[] ⟨[]⟩) [t5_9]) fun t9_10 =>
  With C8 <|
  With C7 <|
  Qk P (V (binOp .add 9 t8_7 t9_10)) fun C10 t10_11 =>
  Qk P (V (binOp .add 9 t10_11 (.string ⟨#[125]⟩))) fun C11 t11_12 =>
  K t11_12
def A39 : Ann := .s (.n) (.s (.plan [(0, 2, 8), (1, 8, 16), (2, 16, 32), (4, 32, 64), (8, 64, 128), (0, 2, 256), (32, 256, 512), (68, 512, 1024), (144, 1152, 2048), (256, 2048, 4096), (1023, 4096, 4)] (.q 0 (.q 1 (.q 5 (.q 6 (.l 2 (.q 3 (.q 4 (.l 7 (.q 8 (.q 9 (.q 10 .done)))))))))))) (.n))
set_option maxRecDepth 100000 in
theorem c39 (arg0 : Value) (K : Value → WP) (w : World) (h : s39 Try.prog arg0 K w) : Runs Try.prog 39 [arg0] K w :=
  runs_of_E wide (fn := Try.f39) (c := Try.f39.body.getD .skip) 13 A39 [arg0] w K Try.func39 (by kernel_rfl) (by kernel_rfl) (by kernel_rfl) (by kernel_rfl)
    (Eq.mp (by kernel_rfl : s39 Try.prog arg0 K w = E Try.prog (Try.f39.body.getD .skip) A39 (topK Try.prog K Try.f39.results) (fun i => (([arg0] : List Value)[i]?).getD undef) w) h)
theorem ct39 {arg0 : Value} {h : Hp} {post : Hp → Value → Prop} (hg : ∀ w0, Gs w0 h h [] (s39 Try.prog arg0 (RetP w0 h post))) : Ct Try.prog 39 [arg0] h post := Ct.of (sf := s39 Try.prog arg0) (c39 arg0) hg
theorem in39 {arg0 : Value} {S : WP} {K : Value → WP} (hg : G S (s39 Try.prog arg0 K)) : G S (Do Try.prog (vCall (.func (.func 39) #[] ⟨[]⟩) [arg0]) K) := Gs.into (args := [arg0]) (caps := []) (sf := s39 Try.prog arg0) (c39 arg0) hg

/- skewer/dyad.Valid : names 0 x, 1 x -/
def s40 (P : Program) (arg0 : Value) (K : Value → WP) : WP :=
  Do P (V (Instr.box 40 arg0)) fun x1 =>
  Do P (V (Instr.fieldAt 40 x1 1)) fun t2_3 =>
  Do P (V (Instr.loadAt 3 t2_3)) fun t3_4 =>
  Do P (V (binOp .leq 3 (.int .i64 0) t3_4)) fun t4_5 =>
  Gd t4_5 true (
   Do P (V (Instr.fieldAt 40 x1 1)) fun t5_7 =>
   Do P (V (Instr.loadAt 3 t5_7)) fun t6_8 =>
   Do P (V (binOp .leq 3 t6_8 (.int .i64 30))) fun t7_9 =>
   Gd t7_9 true (
    Do P (V (Instr.fieldAt 40 x1 0)) fun t8_12 =>
    Do P (V (Instr.loadAt 3 t8_12)) fun t9_13 =>
    Do P (V (binOp .leq 3 (.int .i64 (-1099511627776)) t9_13)) fun t10_14 =>
    Gd t10_14 true (
     Do P (V (Instr.fieldAt 40 x1 0)) fun t11_17 =>
     Do P (V (Instr.loadAt 3 t11_17)) fun t12_18 =>
     Do P (V (binOp .leq 3 t12_18 (.int .i64 1099511627776))) fun t13_19 =>
     Gd t13_19 true (
      Do P (V (Instr.fieldAt 40 x1 1)) fun t14_22 =>
      Do P (V (Instr.loadAt 3 t14_22)) fun t15_23 =>
      Do P (V (EqG .eql 3 (.tmp 23) (.const (.int .i64 0)) t15_23 (.int .i64 0))) fun t16_24 =>
      Gd t16_24 false (
       Do P (V (Instr.fieldAt 40 x1 0)) fun t17_26 =>
       Do P (V (Instr.loadAt 3 t17_26)) fun t18_27 =>
       Do P (V (binOp .and 3 t18_27 (.int .i64 1))) fun t19_28 =>
       Do P (V (EqG .eql 3 (.tmp 28) (.const (.int .i64 1)) t19_28 (.int .i64 1))) fun t20_29 =>
       K t20_29
      ) (
       K (.bool true)
      )
     ) (
      K (.bool false)
     )
    ) (
     K (.bool false)
    )
   ) (
    K (.bool false)
   )
  ) (
   K (.bool false)
  )
def A40 : Ann := .s (.n) (.s (.n) (.n))
set_option maxRecDepth 100000 in
theorem c40 (arg0 : Value) (K : Value → WP) (w : World) (h : s40 Try.prog arg0 K w) : Runs Try.prog 40 [arg0] K w :=
  runs_of_E wide (fn := Try.f40) (c := Try.f40.body.getD .skip) 32 A40 [arg0] w K Try.func40 (by kernel_rfl) (by kernel_rfl) (by kernel_rfl) (by kernel_rfl)
    (Eq.mp (by kernel_rfl : s40 Try.prog arg0 K w = E Try.prog (Try.f40.body.getD .skip) A40 (topK Try.prog K Try.f40.results) (fun i => (([arg0] : List Value)[i]?).getD undef) w) h)
theorem ct40 {arg0 : Value} {h : Hp} {post : Hp → Value → Prop} (hg : ∀ w0, Gs w0 h h [] (s40 Try.prog arg0 (RetP w0 h post))) : Ct Try.prog 40 [arg0] h post := Ct.of (sf := s40 Try.prog arg0) (c40 arg0) hg
theorem in40 {arg0 : Value} {S : WP} {K : Value → WP} (hg : G S (s40 Try.prog arg0 K)) : G S (Do Try.prog (vCall (.func (.func 40) #[] ⟨[]⟩) [arg0]) K) := Gs.into (args := [arg0]) (caps := []) (sf := s40 Try.prog arg0) (c40 arg0) hg

/- skewer/value.build : names 0 x, 1 room, 2 x, 3 room, 4 f, 5 l, 6 r, 7 _, 8 y, 9 _, 10 y -/
def s41 (P : Program) (arg0 arg1 : Value) (K : Value → WP) : WP :=
  Do P (V (Instr.box 40 arg0)) fun x1 =>
  Do P (V (Instr.alloc 27 true (.tuple #[]))) fun f2 =>
  Do P (vNil arg1) fun t3_12 =>
  Do P (V (Instr.loadAt 3 t3_12)) fun t4_13 =>
  Do P (V (binOp .sub 3 t4_13 (.int .i64 1))) fun t5_14 =>
  Do P (vNil arg1) fun t6_15 =>
  Do P (U (Instr.storeAt 3 t6_15 t5_14)) fun t7_x =>
  Do P (vNil arg1) fun t8_17 =>
  Do P (V (Instr.loadAt 3 t8_17)) fun t9_18 =>
  Do P (V (binOp .lss 3 t9_18 (.int .i64 0))) fun t10_19 =>
  If t10_19 (
   Do P (V (Instr.loadAt 27 f2)) fun t11_20 =>
   Do P (U (Instr.storeAt 27 f2 t11_20)) fun t12_x =>
   RetC P 27 f2 K
  ) (
   Do P (V (Instr.loadAt 40 x1)) fun t13_22 =>
   Do P (vCall (.func (.func 56) #[] ⟨[]⟩) [t13_22]) fun t14_23 =>
   Do P (V (Instr.extract t14_23 0)) fun t15_24 =>
   Do P (V (Instr.extract t14_23 1)) fun t16_25 =>
   Do P (vBuiltin .len #[97] 3 [t15_24]) fun t17_27 =>
   Lp (α := Value) (fun c18 s18 => Jk fun _ => -- t28
    Do P (V (binOp .lss 3 s18 t17_27)) fun t19_29 =>
    If t19_29 (
     Do P (V (Instr.indexAt 97 t15_24 s18)) fun t20_30 =>
     Do P (V (Instr.loadAt 40 t20_30)) fun t21_31 =>
     Do P (V (Instr.alloc 40 true (.tuple #[]))) fun y22 =>
     Do P (U (Instr.storeAt 40 y22 t21_31)) fun t23_x =>
     Dr <|
     Qk P (V (Instr.fieldAt 27 f2 0)) fun C24 t24_32 =>
     Qk P (V (Instr.loadAt 25 t24_32)) fun C25 t25_33 =>
     Qk P (V (Instr.loadAt 40 y22)) fun C26 t26_34 =>
     Do P (vCall (.func (.func 41) #[] ⟨[]⟩) [t26_34, arg1]) fun t27_36 =>
     With C25 <|
     With C24 <|
     Do P (vBuildSlice 25 1 [(0, t27_36)]) fun t28_37 =>
     With C25 <|
     With C24 <|
     Do P (vBuiltin .append #[25, 25] 25 [t25_33, t28_37]) fun t29_38 =>
     Qk P (V (Instr.fieldAt 27 f2 0)) fun C30 t30_39 =>
     Do P (U (Instr.storeAt 25 t30_39 t29_38)) fun t31_x =>
     Do P (V (binOp .add 3 s18 (.int .i64 1))) fun t32_40 =>
     c18 t32_40
    ) (
     Do P (vBuiltin .len #[97] 3 [t16_25]) fun t33_42 =>
     Lp (α := Value) (fun c34 s34 => Jk fun _ => -- t43
      Do P (V (binOp .lss 3 s34 t33_42)) fun t35_44 =>
      If t35_44 (
       Do P (V (Instr.indexAt 97 t16_25 s34)) fun t36_45 =>
       Do P (V (Instr.loadAt 40 t36_45)) fun t37_46 =>
       Do P (V (Instr.alloc 40 true (.tuple #[]))) fun y38 =>
       Do P (U (Instr.storeAt 40 y38 t37_46)) fun t39_x =>
       Dr <|
       Qk P (V (Instr.fieldAt 27 f2 1)) fun C40 t40_47 =>
       Qk P (V (Instr.loadAt 25 t40_47)) fun C41 t41_48 =>
       Qk P (V (Instr.loadAt 40 y38)) fun C42 t42_49 =>
       Do P (vCall (.func (.func 41) #[] ⟨[]⟩) [t42_49, arg1]) fun t43_51 =>
       With C41 <|
       With C40 <|
       Do P (vBuildSlice 25 1 [(0, t43_51)]) fun t44_52 =>
       With C41 <|
       With C40 <|
       Do P (vBuiltin .append #[25, 25] 25 [t41_48, t44_52]) fun t45_53 =>
       Qk P (V (Instr.fieldAt 27 f2 1)) fun C46 t46_54 =>
       Do P (U (Instr.storeAt 25 t46_54 t45_53)) fun t47_x =>
       Do P (V (binOp .add 3 s34 (.int .i64 1))) fun t48_55 =>
       c34 t48_55
      ) (
       Do P (V (Instr.loadAt 27 f2)) fun t49_56 =>
       Do P (U (Instr.storeAt 27 f2 t49_56)) fun t50_x =>
       RetC P 27 f2 K
      )
     ) (.int .i64 0)
    )
   ) (.int .i64 0)
  )
def A41 : Ann := .s (.n) (.s (.s (.n) (.s (.n) (.s (.s (.n) (.n)) (.n)))) (.s (.n) (.s (.s (.n) (.lp [28] 2198754820352 (.s (.n) (.s (.s (.n) (.n)) (.s (.s (.n) (.plan [(0, 16, 4294967296), (1, 4294967296, 8589934592), (0, 256, 17179869184), (0, 2, 34359738368), (12, 51539607552, 68719476736), (16, 68719476736, 137438953472), (50, 146028888064, 274877906944), (127, 16, 549755813888), (255, 824633720832, 0)] (.q 0 (.q 1 (.q 2 (.q 3 (.l 4 (.l 5 (.l 6 (.q 7 (.l 8 .done))))))))))) (.n)))))) (.s (.s (.n) (.lp [43] 72048797944906752 (.s (.n) (.s (.s (.n) (.n)) (.s (.s (.n) (.plan [(0, 16, 140737488355328), (1, 140737488355328, 281474976710656), (0, 1024, 562949953421312), (0, 2, 1125899906842624), (12, 1688849860263936, 2251799813685248), (16, 2251799813685248, 4503599627370496), (50, 4785074604081152, 9007199254740992), (127, 16, 18014398509481984), (255, 27021597764222976, 0)] (.q 0 (.q 1 (.q 2 (.q 3 (.l 4 (.l 5 (.l 6 (.q 7 (.l 8 .done))))))))))) (.n)))))) (.s (.n) (.n))))))
set_option maxRecDepth 100000 in
theorem c41 (arg0 arg1 : Value) (K : Value → WP) (w : World) (h : s41 Try.prog arg0 arg1 K w) : Runs Try.prog 41 [arg0, arg1] K w :=
  runs_of_E wide (fn := Try.f41) (c := Try.f41.body.getD .skip) 57 A41 [arg0, arg1] w K Try.func41 (by kernel_rfl) (by kernel_rfl) (by kernel_rfl) (by kernel_rfl)
    (Eq.mp (by kernel_rfl : s41 Try.prog arg0 arg1 K w = E Try.prog (Try.f41.body.getD .skip) A41 (topK Try.prog K Try.f41.results) (fun i => (([arg0, arg1] : List Value)[i]?).getD undef) w) h)
theorem ct41 {arg0 arg1 : Value} {h : Hp} {post : Hp → Value → Prop} (hg : ∀ w0, Gs w0 h h [] (s41 Try.prog arg0 arg1 (RetP w0 h post))) : Ct Try.prog 41 [arg0, arg1] h post := Ct.of (sf := s41 Try.prog arg0 arg1) (c41 arg0 arg1) hg
theorem in41 {arg0 arg1 : Value} {S : WP} {K : Value → WP} (hg : G S (s41 Try.prog arg0 arg1 K)) : G S (Do Try.prog (vCall (.func (.func 41) #[] ⟨[]⟩) [arg0, arg1]) K) := Gs.into (args := [arg0, arg1]) (caps := []) (sf := s41 Try.prog arg0 arg1) (c41 arg0 arg1) hg

/- skewer/skewerref19.added : names 0 a, 1 b, 2 a, 3 b, 5 u, 6 r, 7 v, 8 s, 9 w, 10 t, 11 exp -/
def s42 (P : Program) (arg0 arg1 : Value) (K : Value → WP) : WP :=
  Do P (V (Instr.box 40 arg0)) fun a1 =>
  Do P (V (Instr.box 40 arg1)) fun b2 =>
  Do P (V (Instr.alloc 76 true (.tuple #[]))) fun t3_4 =>
  Do P (V (Instr.loadAt 40 a1)) fun t4_13 =>
  Do P (vCall (.func (.func 43) #[] ⟨[]⟩) [t4_13]) fun t5_14 =>
  Do P (V (Instr.extract t5_14 0)) fun t6_15 =>
  Do P (V (Instr.extract t5_14 1)) fun t7_16 =>
  Do P (V (Instr.loadAt 40 b2)) fun t8_18 =>
  Do P (vCall (.func (.func 43) #[] ⟨[]⟩) [t8_18]) fun t9_19 =>
  Do P (V (Instr.extract t9_19 0)) fun t10_20 =>
  Do P (V (Instr.extract t9_19 1)) fun t11_21 =>
  Do P (V (binOp .add 3 t6_15 t10_20)) fun t12_24 =>
  Do P (V (binOp .add 3 t7_16 t11_21)) fun t13_27 =>
  Jn (α := Value × Value) (fun j14 => Jk fun _ => -- w t
   Lp (α := Value × Value) (fun c15 s15 => Jk fun _ => -- t exp
    Jn (α := Value) (fun j16 => Jk fun _ => -- t42
     If j16 (
      Do P (V (binOp .quo 3 s15.1 (.int .i64 2))) fun t17_44 =>
      Do P (V (binOp .sub 3 s15.2 (.int .i64 1))) fun t18_46 =>
      c15 (t17_44, t18_46)
     ) (
      Jn (α := Value) (fun j19 => Jk fun _ => -- exp
       Jn (α := Value) (fun j20 => Jk fun _ => -- t73
        If j20 (
         Do P (vBuild 76 [(1, (.int .i64 190))]) fun t21_74 =>
         Do P (U (Instr.storeAt 76 t3_4 t21_74)) fun t22_x =>
         RetC P 76 t3_4 K
        ) (
         Do P (vCall (.func (.func 57) #[] ⟨[]⟩) [j19]) fun t23_77 =>
         Do P (V (binOp .mul 3 j14.1 t23_77)) fun t24_78 =>
         Do P (V (binOp .add 3 t24_78 s15.1)) fun t25_80 =>
         Do P (vCall (.func (.func 58) #[] ⟨[]⟩) [t25_80, j19]) fun t26_82 =>
         Do P (U (Instr.storeAt 76 t3_4 t26_82)) fun t27_x =>
         RetC P 76 t3_4 K
        )
       ) fun k20 =>
       Do P (V (binOp .gtr 3 j14.1 (.int .i64 1099511627776))) fun t28_50 =>
       Gd t28_50 false (
        Do P (V (binOp .lss 3 j14.1 (.int .i64 (-1099511627777)))) fun t29_53 =>
        Gd t29_53 false (
         Do P (V (binOp .gtr 3 j19 (.int .i64 0))) fun t30_57 =>
         Gd t30_57 true (
          Do P (vCall (.func (.func 57) #[] ⟨[]⟩) [j19]) fun t31_61 =>
          Do P (V (binOp .quo 3 (.int .i64 1099511627776) t31_61)) fun t32_62 =>
          Do P (V (binOp .gtr 3 j14.1 t32_62)) fun t33_63 =>
          Gd t33_63 false (
           Do P (vCall (.func (.func 57) #[] ⟨[]⟩) [j19]) fun t34_67 =>
           Do P (V (binOp .quo 3 (.int .i64 (-1099511627776)) t34_67)) fun t35_68 =>
           Do P (V (binOp .sub 3 t35_68 (.int .i64 1))) fun t36_69 =>
           Do P (V (binOp .lss 3 j14.1 t36_69)) fun t37_70 =>
           k20 t37_70
          ) (
           k20 (.bool true)
          )
         ) (
          k20 (.bool false)
         )
        ) (
         k20 (.bool true)
        )
       ) (
        k20 (.bool true)
       )
      ) fun k19 =>
      Do P (V (EqG .eql 3 (.tmp 47) (.const (.int .i64 0)) s15.1 (.int .i64 0))) fun t38_48 =>
      If t38_48 (
       k19 (.int .i64 0)
      ) (
       k19 s15.2
      )
     )
    ) fun k16 =>
    Do P (V (binOp .gtr 3 s15.2 (.int .i64 0))) fun t39_37 =>
    Gd t39_37 true (
     Do P (V (binOp .rem 3 s15.1 (.int .i64 2))) fun t40_40 =>
     Do P (V (EqG .eql 3 (.tmp 40) (.const (.int .i64 0)) t40_40 (.int .i64 0))) fun t41_41 =>
     k16 t41_41
    ) (
     k16 (.bool false)
    )
   ) (j14.2, (.int .i64 30))
  ) fun k14 =>
  Do P (vCall (.func (.func 57) #[] ⟨[]⟩) [(.int .i64 30)]) fun t42_29 =>
  Do P (V (binOp .geq 3 t13_27 t42_29)) fun t43_30 =>
  If t43_30 (
   Do P (V (binOp .add 3 t12_24 (.int .i64 1))) fun t44_32 =>
   Do P (vCall (.func (.func 57) #[] ⟨[]⟩) [(.int .i64 30)]) fun t45_34 =>
   Do P (V (binOp .sub 3 t13_27 t45_34)) fun t46_35 =>
   k14 (t44_32, t46_35)
  ) (
   k14 (t12_24, t13_27)
  )
def A42 : Ann := .s (.n) (.s (.n) (.s (.n) (.s (.n) (.s (.n) (.j [9, 10] 68451042816 (.s (.n) (.s (.s (.n) (.n)) (.n))) (.s (.n) (.s (.lp [10, 11] 140668768881664 (.s (.j [42] 8727373545472 (.n) (.s (.n) (.n))) (.s (.n) (.n)))) (.j [11] 422212465068032 (.s (.n) (.s (.n) (.n))) (.s (.j [73] 18889465368528627433472 (.n) (.s (.s (.n) (.n)) (.n))) (.s (.n) (.n)))))))))))
set_option maxRecDepth 100000 in
theorem c42 (arg0 arg1 : Value) (K : Value → WP) (w : World) (h : s42 Try.prog arg0 arg1 K w) : Runs Try.prog 42 [arg0, arg1] K w :=
  runs_of_E wide (fn := Try.f42) (c := Try.f42.body.getD .skip) 83 A42 [arg0, arg1] w K Try.func42 (by kernel_rfl) (by kernel_rfl) (by kernel_rfl) (by kernel_rfl)
    (Eq.mp (by kernel_rfl : s42 Try.prog arg0 arg1 K w = E Try.prog (Try.f42.body.getD .skip) A42 (topK Try.prog K Try.f42.results) (fun i => (([arg0, arg1] : List Value)[i]?).getD undef) w) h)
theorem ct42 {arg0 arg1 : Value} {h : Hp} {post : Hp → Value → Prop} (hg : ∀ w0, Gs w0 h h [] (s42 Try.prog arg0 arg1 (RetP w0 h post))) : Ct Try.prog 42 [arg0, arg1] h post := Ct.of (sf := s42 Try.prog arg0 arg1) (c42 arg0 arg1) hg
theorem in42 {arg0 arg1 : Value} {S : WP} {K : Value → WP} (hg : G S (s42 Try.prog arg0 arg1 K)) : G S (Do Try.prog (vCall (.func (.func 42) #[] ⟨[]⟩) [arg0, arg1]) K) := Gs.into (args := [arg0, arg1]) (caps := []) (sf := s42 Try.prog arg0 arg1) (c42 arg0 arg1) hg

/- skewer/skewerref19.whole : names 0 x, 1 x, 4 p, 5 w, 6 r -/
def s43 (P : Program) (arg0 : Value) (K : Value → WP) : WP :=
  Do P (V (Instr.box 40 arg0)) fun x1 =>
  Do P (V (Instr.fieldAt 40 x1 1)) fun t2_7 =>
  Do P (V (Instr.loadAt 3 t2_7)) fun t3_8 =>
  Do P (vCall (.func (.func 57) #[] ⟨[]⟩) [t3_8]) fun t4_9 =>
  Do P (V (Instr.fieldAt 40 x1 0)) fun t5_10 =>
  Do P (V (Instr.loadAt 3 t5_10)) fun t6_11 =>
  Do P (V (binOp .quo 3 t6_11 t4_9)) fun t7_13 =>
  Do P (V (Instr.fieldAt 40 x1 0)) fun t8_14 =>
  Do P (V (Instr.loadAt 3 t8_14)) fun t9_15 =>
  Do P (V (binOp .rem 3 t9_15 t4_9)) fun t10_17 =>
  Jn (α := Value × Value) (fun j11 => Jk fun _ => -- w r
   Do P (V (Instr.fieldAt 40 x1 1)) fun t12_27 =>
   Do P (V (Instr.loadAt 3 t12_27)) fun t13_28 =>
   Do P (V (binOp .sub 3 (.int .i64 30) t13_28)) fun t14_29 =>
   Do P (vCall (.func (.func 57) #[] ⟨[]⟩) [t14_29]) fun t15_30 =>
   Do P (V (binOp .mul 3 j11.2 t15_30)) fun t16_31 =>
   K (.tuple #[j11.1, t16_31])
  ) fun k11 =>
  Do P (V (binOp .lss 3 t10_17 (.int .i64 0))) fun t17_19 =>
  If t17_19 (
   Do P (V (binOp .sub 3 t7_13 (.int .i64 1))) fun t18_21 =>
   Do P (V (binOp .add 3 t10_17 t4_9)) fun t19_24 =>
   k11 (t18_21, t19_24)
  ) (
   k11 (t7_13, t10_17)
  )
def A43 : Ann := .s (.n) (.s (.n) (.s (.n) (.s (.n) (.j [5, 6] 33292384 (.s (.n) (.s (.s (.n) (.n)) (.n))) (.s (.n) (.n))))))
set_option maxRecDepth 100000 in
theorem c43 (arg0 : Value) (K : Value → WP) (w : World) (h : s43 Try.prog arg0 K w) : Runs Try.prog 43 [arg0] K w :=
  runs_of_E wide (fn := Try.f43) (c := Try.f43.body.getD .skip) 32 A43 [arg0] w K Try.func43 (by kernel_rfl) (by kernel_rfl) (by kernel_rfl) (by kernel_rfl)
    (Eq.mp (by kernel_rfl : s43 Try.prog arg0 K w = E Try.prog (Try.f43.body.getD .skip) A43 (topK Try.prog K Try.f43.results) (fun i => (([arg0] : List Value)[i]?).getD undef) w) h)
theorem ct43 {arg0 : Value} {h : Hp} {post : Hp → Value → Prop} (hg : ∀ w0, Gs w0 h h [] (s43 Try.prog arg0 (RetP w0 h post))) : Ct Try.prog 43 [arg0] h post := Ct.of (sf := s43 Try.prog arg0) (c43 arg0) hg
theorem in43 {arg0 : Value} {S : WP} {K : Value → WP} (hg : G S (s43 Try.prog arg0 K)) : G S (Do Try.prog (vCall (.func (.func 43) #[] ⟨[]⟩) [arg0]) K) := Gs.into (args := [arg0]) (caps := []) (sf := s43 Try.prog arg0) (c43 arg0) hg

/- (*skewer/value.node).number : names 0 n, 1 n, 4 ends, 5 i, 6 l, 7 _, 8 x, 9 y, 10 ok, 11 x, 12 e -/
def s44 (P : Program) (arg0 : Value) (K : Value → WP) : WP :=
  Do P (V (Instr.alloc 40 true (.tuple #[]))) fun t1_2 =>
  Do P (V (Instr.alloc 102 true (.tuple #[]))) fun ends2 =>
  Dr <|
  Qk P (vNil arg0) fun C3 t3_14 =>
  Qk P (V (Instr.fieldAt 71 t3_14 1)) fun C4 t4_15 =>
  Qk P (V (Instr.loadAt 69 t4_15)) fun C5 t5_16 =>
  Qk P (vNil arg0) fun C6 t6_18 =>
  Qk P (V (Instr.fieldAt 71 t6_18 2)) fun C7 t7_19 =>
  Qk P (V (Instr.loadAt 69 t7_19)) fun C8 t8_20 =>
  Qk P (vBuild 103 [(0, t5_16), (1, t8_20)]) fun C9 t9_21 =>
  Lp (α := Value) (fun c10 s10 => Jk fun _ => -- t22
   Do P (V (binOp .lss 3 s10 (.int .i64 2))) fun t11_23 =>
   If t11_23 (
    Do P (V (Instr.index 103 t9_21 s10)) fun t12_25 =>
    Do P (vBuiltin .len #[69] 3 [t12_25]) fun t13_27 =>
    Do P (V (binOp .gtr 3 t13_27 (.int .i64 1))) fun t14_28 =>
    If t14_28 (
     Do P (vBuild 40 []) fun t15_29 =>
     Do P (U (Instr.storeAt 40 t1_2 t15_29)) fun t16_x =>
     RetC P 40 t1_2 fun r => K (.tuple #[r, (.bool false)])
    ) (
     Do P (vBuiltin .len #[69] 3 [t12_25]) fun t17_31 =>
     Lp (α := Value) (fun c18 s18 => Jk fun _ => -- t32
      Do P (V (binOp .lss 3 s18 t17_31)) fun t19_33 =>
      If t19_33 (
       Do P (V (Instr.indexAt 69 t12_25 s18)) fun t20_34 =>
       Do P (V (Instr.loadAt 63 t20_34)) fun t21_35 =>
       Do P (vCall (.func (.func 44) #[] ⟨[]⟩) [t21_35]) fun t22_38 =>
       Do P (V (Instr.extract t22_38 0)) fun t23_39 =>
       Do P (V (Instr.extract t22_38 1)) fun t24_40 =>
       Do P (V (Instr.alloc 40 true (.tuple #[]))) fun y25 =>
       Do P (U (Instr.storeAt 40 y25 t23_39)) fun t26_x =>
       Do P (V (Op.unary .not t24_40)) fun t27_42 =>
       If t27_42 (
        Do P (vBuild 40 []) fun t28_43 =>
        Do P (U (Instr.storeAt 40 t1_2 t28_43)) fun t29_x =>
        RetC P 40 t1_2 fun r => K (.tuple #[r, (.bool false)])
       ) (
        Do P (V (Instr.loadAt 40 y25)) fun t30_45 =>
        Do P (V (Instr.indexAt 102 ends2 s10)) fun t31_46 =>
        Do P (U (Instr.storeAt 40 t31_46 t30_45)) fun t32_x =>
        Do P (V (binOp .add 3 s18 (.int .i64 1))) fun t33_47 =>
        c18 t33_47
       )
      ) (
       Do P (V (binOp .add 3 s10 (.int .i64 1))) fun t34_48 =>
       c10 t34_48
      )
     ) (.int .i64 0)
    )
   ) (
    Dr <|
    Qk P (vNil arg0) fun C35 t35_51 =>
    Qk P (V (Instr.fieldAt 71 t35_51 1)) fun C36 t36_52 =>
    Qk P (V (Instr.loadAt 69 t36_52)) fun C37 t37_53 =>
    Qk P (vBuiltin .len #[69] 3 [t37_53]) fun C38 t38_54 =>
    Qk P (vNil arg0) fun C39 t39_56 =>
    Qk P (V (Instr.fieldAt 71 t39_56 2)) fun C40 t40_57 =>
    Qk P (V (Instr.loadAt 69 t40_57)) fun C41 t41_58 =>
    Qk P (vBuiltin .len #[69] 3 [t41_58]) fun C42 t42_59 =>
    Qk P (V (binOp .add 3 t38_54 t42_59)) fun C43 t43_60 =>
    Qk P (V (EqG .eql 3 (.tmp 60) (.const (.int .i64 0)) t43_60 (.int .i64 0))) fun C44 t44_61 =>
    If t44_61 (
     Do P (vBuild 40 []) fun t45_62 =>
     Do P (U (Instr.storeAt 40 t1_2 t45_62)) fun t46_x =>
     RetC P 40 t1_2 fun r => K (.tuple #[r, (.bool true)])
    ) (
     Do P (vNil arg0) fun t47_65 =>
     Do P (V (Instr.fieldAt 71 t47_65 2)) fun t48_66 =>
     Do P (V (Instr.loadAt 69 t48_66)) fun t49_67 =>
     Do P (vBuiltin .len #[69] 3 [t49_67]) fun t50_68 =>
     Do P (V (EqG .eql 3 (.tmp 68) (.const (.int .i64 0)) t50_68 (.int .i64 0))) fun t51_69 =>
     If t51_69 (
      Do P (V (Instr.indexAt 102 ends2 (.int .i64 0))) fun t52_70 =>
      Do P (V (Instr.fieldAt 40 t52_70 0)) fun t53_71 =>
      Do P (V (Instr.loadAt 3 t53_71)) fun t54_72 =>
      Do P (V (binOp .add 3 t54_72 (.int .i64 1))) fun t55_73 =>
      Do P (vBuild 40 [(0, t55_73)]) fun t56_74 =>
      Do P (U (Instr.storeAt 40 t1_2 t56_74)) fun t57_x =>
      RetC P 40 t1_2 fun r => K (.tuple #[r, (.bool true)])
     ) (
      Do P (vNil arg0) fun t58_77 =>
      Do P (V (Instr.fieldAt 71 t58_77 1)) fun t59_78 =>
      Do P (V (Instr.loadAt 69 t59_78)) fun t60_79 =>
      Do P (vBuiltin .len #[69] 3 [t60_79]) fun t61_80 =>
      Do P (V (EqG .eql 3 (.tmp 80) (.const (.int .i64 0)) t61_80 (.int .i64 0))) fun t62_81 =>
      If t62_81 (
       Do P (V (Instr.indexAt 102 ends2 (.int .i64 1))) fun t63_82 =>
       Do P (V (Instr.fieldAt 40 t63_82 0)) fun t64_83 =>
       Do P (V (Instr.loadAt 3 t64_83)) fun t65_84 =>
       Do P (V (binOp .sub 3 t65_84 (.int .i64 1))) fun t66_85 =>
       Do P (vBuild 40 [(0, t66_85)]) fun t67_86 =>
       Do P (U (Instr.storeAt 40 t1_2 t67_86)) fun t68_x =>
       RetC P 40 t1_2 fun r => K (.tuple #[r, (.bool true)])
      ) (
       Do P (V (Instr.indexAt 102 ends2 (.int .i64 0))) fun t69_88 =>
       Do P (V (Instr.loadAt 40 t69_88)) fun t70_89 =>
       Do P (V (Instr.indexAt 102 ends2 (.int .i64 1))) fun t71_90 =>
       Do P (V (Instr.loadAt 40 t71_90)) fun t72_91 =>
       Do P (vCall (.func (.func 59) #[] ⟨[]⟩) [t70_89, t72_91]) fun t73_92 =>
       Do P (V (binOp .geq 3 t73_92 (.int .i64 0))) fun t74_93 =>
       If t74_93 (
        Do P (vBuild 40 []) fun t75_94 =>
        Do P (U (Instr.storeAt 40 t1_2 t75_94)) fun t76_x =>
        RetC P 40 t1_2 fun r => K (.tuple #[r, (.bool false)])
       ) (
        Do P (V (Instr.indexAt 102 ends2 (.int .i64 0))) fun t77_96 =>
        Do P (V (Instr.loadAt 40 t77_96)) fun t78_97 =>
        Do P (V (Instr.indexAt 102 ends2 (.int .i64 1))) fun t79_98 =>
        Do P (V (Instr.loadAt 40 t79_98)) fun t80_99 =>
        Do P (vCall (.func (.func 60) #[] ⟨[]⟩) [t78_97, t80_99]) fun t81_100 =>
        Do P (V (Instr.extract t81_100 0)) fun t82_101 =>
        Do P (V (Instr.extract t81_100 1)) fun t83_102 =>
        Do P (V (Instr.alloc 40 true (.tuple #[]))) fun x84 =>
        Do P (U (Instr.storeAt 40 x84 t82_101)) fun t85_x =>
        Do P (V (Instr.loadAt 40 x84)) fun t86_103 =>
        Do P (V (EqG .eql 42 (.tmp 104) (.const (.int .i64 0)) t83_102 (.int .i64 0))) fun t87_105 =>
        Do P (U (Instr.storeAt 40 t1_2 t86_103)) fun t88_x =>
        RetC P 40 t1_2 fun r => K (.tuple #[r, t87_105])
       )
      )
     )
    )
   )
  ) (.int .i64 0)
def A44 : Ann := .s (.n) (.s (.n) (.s (.s (.plan [(0, 1, 8192), (1, 8192, 16384), (2, 16384, 32768), (4, 32768, 65536), (0, 1, 131072), (16, 131072, 262144), (32, 262144, 524288), (64, 524288, 1048576), (136, 1114112, 2097152), (0, 0, 4194304)] (.q 0 (.q 1 (.q 2 (.q 3 (.q 4 (.q 5 (.q 6 (.q 7 (.q 8 (.q 9 .done))))))))))) (.lp [22] 562949949228904 (.s (.n) (.s (.s (.n) (.n)) (.s (.s (.n) (.s (.s (.n) (.s (.s (.n) (.n)) (.n))) (.s (.n) (.lp [32] 281470681745160 (.s (.n) (.s (.s (.n) (.n)) (.s (.s (.n) (.s (.n) (.s (.s (.n) (.s (.s (.n) (.n)) (.n))) (.n)))) (.n)))))))) (.n)))))) (.s (.s (.plan [(0, 1, 1125899906842624), (1, 1125899906842624, 2251799813685248), (2, 2251799813685248, 4503599627370496), (4, 4503599627370496, 9007199254740992), (8, 9007199254740992, 18014398509481984), (0, 1, 36028797018963968), (32, 36028797018963968, 72057594037927936), (64, 72057594037927936, 144115188075855872), (128, 144115188075855872, 288230376151711744), (256, 288230376151711744, 576460752303423488), (528, 594475150812905472, 1152921504606846976), (1024, 1152921504606846976, 2305843009213693952), (2048, 2305843009213693952, 562949953421312)] (.q 0 (.q 1 (.q 2 (.q 3 (.q 4 (.q 5 (.q 6 (.q 7 (.q 8 (.q 9 (.q 10 (.q 11 (.q 12 .done)))))))))))))) (.s (.s (.n) (.n)) (.s (.n) (.s (.s (.n) (.n)) (.s (.n) (.s (.s (.n) (.n)) (.s (.n) (.s (.s (.n) (.n)) (.n))))))))) (.s (.n) (.s (.n) (.n))))))
set_option maxRecDepth 100000 in
theorem c44 (arg0 : Value) (K : Value → WP) (w : World) (h : s44 Try.prog arg0 K w) : Runs Try.prog 44 [arg0] K w :=
  runs_of_E wide (fn := Try.f44) (c := Try.f44.body.getD .skip) 106 A44 [arg0] w K Try.func44 (by kernel_rfl) (by kernel_rfl) (by kernel_rfl) (by kernel_rfl)
    (Eq.mp (by kernel_rfl : s44 Try.prog arg0 K w = E Try.prog (Try.f44.body.getD .skip) A44 (topK Try.prog K Try.f44.results) (fun i => (([arg0] : List Value)[i]?).getD undef) w) h)
theorem ct44 {arg0 : Value} {h : Hp} {post : Hp → Value → Prop} (hg : ∀ w0, Gs w0 h h [] (s44 Try.prog arg0 (RetP w0 h post))) : Ct Try.prog 44 [arg0] h post := Ct.of (sf := s44 Try.prog arg0) (c44 arg0) hg
theorem in44 {arg0 : Value} {S : WP} {K : Value → WP} (hg : G S (s44 Try.prog arg0 K)) : G S (Do Try.prog (vCall (.func (.func 44) #[] ⟨[]⟩) [arg0]) K) := Gs.into (args := [arg0]) (caps := []) (sf := s44 Try.prog arg0) (c44 arg0) hg

/- (*skewer/value.book).make : names 0 b, 1 l, 2 r, 3 b, 4 l, 5 r, 7 w, 8 write, 9 text, 10 n, 11 known, 12 n -/
def s45 (P : Program) (arg0 arg1 arg2 : Value) (K : Value → WP) : WP :=
  Do P (V (Instr.alloc 106 true (.tuple #[]))) fun w1 =>
  Do P (vCall (.func (.func 62) #[] ⟨[]⟩) [w1, (.int .u8 123)]) fun t2_14 =>
  Do P (vCall (.func (.func 61) #[] ⟨[w1]⟩) [arg1]) fun t3_17 =>
  Do P (vCall (.func (.func 62) #[] ⟨[]⟩) [w1, (.int .u8 124)]) fun t4_18 =>
  Do P (vCall (.func (.func 61) #[] ⟨[w1]⟩) [arg2]) fun t5_21 =>
  Do P (vCall (.func (.func 62) #[] ⟨[]⟩) [w1, (.int .u8 125)]) fun t6_22 =>
  Do P (vCall (.func (.func 64) #[] ⟨[]⟩) [w1]) fun t7_23 =>
  Do P (vNil arg0) fun t8_26 =>
  Do P (V (Instr.fieldAt 85 t8_26 0)) fun t9_27 =>
  Do P (V (Instr.loadAt 82 t9_27)) fun t10_28 =>
  Do P (V (Instr.lookup 82 t10_28 t7_23 true)) fun t11_30 =>
  Do P (V (Instr.extract t11_30 0)) fun t12_31 =>
  Do P (V (Instr.extract t11_30 1)) fun t13_32 =>
  If t13_32 (
   K t12_31
  ) (
   Do P (vBuild 71 [(0, t7_23), (1, arg1), (2, arg2)]) fun t14_38 =>
   Do P (V (Instr.box 71 t14_38)) fun t15_39 =>
   Do P (vNil arg0) fun t16_41 =>
   Do P (V (Instr.fieldAt 85 t16_41 0)) fun t17_42 =>
   Do P (V (Instr.loadAt 82 t17_42)) fun t18_43 =>
   Do P (U (Instr.mapUpdate 82 t18_43 t7_23 t15_39)) fun t19_x =>
   K t15_39
  )
def A45 : Ann := .s (.n) (.s (.n) (.s (.n) (.s (.n) (.s (.n) (.s (.n) (.s (.n) (.s (.n) (.s (.n) (.s (.s (.n) (.s (.n) (.s (.s (.n) (.n)) (.n)))) (.s (.n) (.s (.n) (.s (.n) (.n)))))))))))))
set_option maxRecDepth 100000 in
theorem c45 (arg0 arg1 arg2 : Value) (K : Value → WP) (w : World) (h : s45 Try.prog arg0 arg1 arg2 K w) : Runs Try.prog 45 [arg0, arg1, arg2] K w :=
  runs_of_E wide (fn := Try.f45) (c := Try.f45.body.getD .skip) 47 A45 [arg0, arg1, arg2] w K Try.func45 (by kernel_rfl) (by kernel_rfl) (by kernel_rfl) (by kernel_rfl)
    (Eq.mp (by kernel_rfl : s45 Try.prog arg0 arg1 arg2 K w = E Try.prog (Try.f45.body.getD .skip) A45 (topK Try.prog K Try.f45.results) (fun i => (([arg0, arg1, arg2] : List Value)[i]?).getD undef) w) h)
theorem ct45 {arg0 arg1 arg2 : Value} {h : Hp} {post : Hp → Value → Prop} (hg : ∀ w0, Gs w0 h h [] (s45 Try.prog arg0 arg1 arg2 (RetP w0 h post))) : Ct Try.prog 45 [arg0, arg1, arg2] h post := Ct.of (sf := s45 Try.prog arg0 arg1 arg2) (c45 arg0 arg1 arg2) hg
theorem in45 {arg0 arg1 arg2 : Value} {S : WP} {K : Value → WP} (hg : G S (s45 Try.prog arg0 arg1 arg2 K)) : G S (Do Try.prog (vCall (.func (.func 45) #[] ⟨[]⟩) [arg0, arg1, arg2]) K) := Gs.into (args := [arg0, arg1, arg2]) (caps := []) (sf := s45 Try.prog arg0 arg1 arg2) (c45 arg0 arg1 arg2) hg

/- skewer/skewerref20.half : names 0 num, 1 exp, 2 num, 3 exp -/
def s46 (P : Program) (arg0 arg1 : Value) (K : Value → WP) : WP :=
  Do P (V (Instr.alloc 40 true (.tuple #[]))) fun t1_4 =>
  Lp (α := Value × Value) (fun c2 s2 => Jk fun _ => -- num exp
   Jn (α := Value) (fun j3 => Jk fun _ => -- t11
    If j3 (
     Do P (V (binOp .quo 3 s2.1 (.int .i64 2))) fun t4_13 =>
     Do P (V (binOp .sub 3 s2.2 (.int .i64 1))) fun t5_15 =>
     c2 (t4_13, t5_15)
    ) (
     Do P (vBuild 40 [(0, s2.1), (1, s2.2)]) fun t6_18 =>
     Do P (U (Instr.storeAt 40 t1_4 t6_18)) fun t7_x =>
     RetC P 40 t1_4 K
    )
   ) fun k3 =>
   Do P (V (binOp .gtr 3 s2.2 (.int .i64 0))) fun t8_6 =>
   Gd t8_6 true (
    Do P (V (binOp .rem 3 s2.1 (.int .i64 2))) fun t9_9 =>
    Do P (V (EqG .eql 3 (.tmp 9) (.const (.int .i64 0)) t9_9 (.int .i64 0))) fun t10_10 =>
    k3 t10_10
   ) (
    k3 (.bool false)
   )
  ) (arg0, arg1)
def A46 : Ann := .s (.n) (.s (.lp [0, 1] 65507 (.s (.j [11] 4064 (.n) (.s (.n) (.n))) (.n))) (.s (.n) (.n)))
set_option maxRecDepth 100000 in
theorem c46 (arg0 arg1 : Value) (K : Value → WP) (w : World) (h : s46 Try.prog arg0 arg1 K w) : Runs Try.prog 46 [arg0, arg1] K w :=
  runs_of_E wide (fn := Try.f46) (c := Try.f46.body.getD .skip) 19 A46 [arg0, arg1] w K Try.func46 (by kernel_rfl) (by kernel_rfl) (by kernel_rfl) (by kernel_rfl)
    (Eq.mp (by kernel_rfl : s46 Try.prog arg0 arg1 K w = E Try.prog (Try.f46.body.getD .skip) A46 (topK Try.prog K Try.f46.results) (fun i => (([arg0, arg1] : List Value)[i]?).getD undef) w) h)
theorem ct46 {arg0 arg1 : Value} {h : Hp} {post : Hp → Value → Prop} (hg : ∀ w0, Gs w0 h h [] (s46 Try.prog arg0 arg1 (RetP w0 h post))) : Ct Try.prog 46 [arg0, arg1] h post := Ct.of (sf := s46 Try.prog arg0 arg1) (c46 arg0 arg1) hg
theorem in46 {arg0 arg1 : Value} {S : WP} {K : Value → WP} (hg : G S (s46 Try.prog arg0 arg1 K)) : G S (Do Try.prog (vCall (.func (.func 46) #[] ⟨[]⟩) [arg0, arg1]) K) := Gs.into (args := [arg0, arg1]) (caps := []) (sf := s46 Try.prog arg0 arg1) (c46 arg0 arg1) hg

/- (*skewer/value.book).most$1 : names 0 z, 3 z -/
def s47 (P : Program) (arg0 arg1 arg2 : Value) (K : Value → WP) : WP :=
  Do P (V (Instr.loadAt 60 arg1)) fun t1_5 =>
  Do P (V (Instr.loadAt 63 arg2)) fun t2_6 =>
  Do P (vCall (.func (.func 34) #[] ⟨[]⟩) [t1_5, t2_6, arg0]) fun t3_8 =>
  K t3_8
def A47 : Ann := .s (.n) (.s (.n) (.n))
set_option maxRecDepth 100000 in
theorem c47 (arg0 arg1 arg2 : Value) (K : Value → WP) (w : World) (h : s47 Try.prog arg0 arg1 arg2 K w) : Runs Try.prog 47 [arg0, arg1, arg2] K w :=
  runs_of_E wide (fn := Try.f47) (c := Try.f47.body.getD .skip) 9 A47 [arg0, arg1, arg2] w K Try.func47 (by kernel_rfl) (by kernel_rfl) (by kernel_rfl) (by kernel_rfl)
    (Eq.mp (by kernel_rfl : s47 Try.prog arg0 arg1 arg2 K w = E Try.prog (Try.f47.body.getD .skip) A47 (topK Try.prog K Try.f47.results) (fun i => (([arg0, arg1, arg2] : List Value)[i]?).getD undef) w) h)
theorem ct47 {arg0 arg1 arg2 : Value} {h : Hp} {post : Hp → Value → Prop} (hg : ∀ w0, Gs w0 h h [] (s47 Try.prog arg0 arg1 arg2 (RetP w0 h post))) : Ct Try.prog 47 [arg0, arg1, arg2] h post := Ct.of (sf := s47 Try.prog arg0 arg1 arg2) (c47 arg0 arg1 arg2) hg
theorem in47 {arg0 arg1 arg2 : Value} {S : WP} {K : Value → WP} (hg : G S (s47 Try.prog arg0 arg1 arg2 K)) : G S (Do Try.prog (vCall (.func (.func 47) #[] ⟨[arg1, arg2]⟩) [arg0]) K) := Gs.into (args := [arg0]) (caps := [arg1, arg2]) (sf := s47 Try.prog arg0 arg1 arg2) (c47 arg0 arg1 arg2) hg

/- (*skewer/value.book).most$2 : names 0 z, 3 z -/
def s48 (P : Program) (arg0 arg1 arg2 : Value) (K : Value → WP) : WP :=
  Do P (V (Instr.loadAt 60 arg1)) fun t1_5 =>
  Do P (V (Instr.loadAt 63 arg2)) fun t2_7 =>
  Do P (vCall (.func (.func 34) #[] ⟨[]⟩) [t1_5, arg0, t2_7]) fun t3_8 =>
  K t3_8
def A48 : Ann := .s (.n) (.s (.n) (.n))
set_option maxRecDepth 100000 in
theorem c48 (arg0 arg1 arg2 : Value) (K : Value → WP) (w : World) (h : s48 Try.prog arg0 arg1 arg2 K w) : Runs Try.prog 48 [arg0, arg1, arg2] K w :=
  runs_of_E wide (fn := Try.f48) (c := Try.f48.body.getD .skip) 9 A48 [arg0, arg1, arg2] w K Try.func48 (by kernel_rfl) (by kernel_rfl) (by kernel_rfl) (by kernel_rfl)
    (Eq.mp (by kernel_rfl : s48 Try.prog arg0 arg1 arg2 K w = E Try.prog (Try.f48.body.getD .skip) A48 (topK Try.prog K Try.f48.results) (fun i => (([arg0, arg1, arg2] : List Value)[i]?).getD undef) w) h)
theorem ct48 {arg0 arg1 arg2 : Value} {h : Hp} {post : Hp → Value → Prop} (hg : ∀ w0, Gs w0 h h [] (s48 Try.prog arg0 arg1 arg2 (RetP w0 h post))) : Ct Try.prog 48 [arg0, arg1, arg2] h post := Ct.of (sf := s48 Try.prog arg0 arg1 arg2) (c48 arg0 arg1 arg2) hg
theorem in48 {arg0 arg1 arg2 : Value} {S : WP} {K : Value → WP} (hg : G S (s48 Try.prog arg0 arg1 arg2 K)) : G S (Do Try.prog (vCall (.func (.func 48) #[] ⟨[arg1, arg2]⟩) [arg0]) K) := Gs.into (args := [arg0]) (caps := [arg1, arg2]) (sf := s48 Try.prog arg0 arg1 arg2) (c48 arg0 arg1 arg2) hg

/- slices.ContainsFunc[[]*skewer/value.node,*skewer/value.node] : names 0 s, 1 f, 2 s, 3 f -/
def s49 (P : Program) (arg0 arg1 : Value) (K : Value → WP) : WP :=
  Do P (vCall (.func (.func 65) #[] ⟨[]⟩) [arg0, arg1]) fun t1_7 =>
  Do P (V (binOp .geq 3 t1_7 (.int .i64 0))) fun t2_8 =>
  K t2_8
def A49 : Ann := .s (.n) (.s (.n) (.n))
set_option maxRecDepth 100000 in
theorem c49 (arg0 arg1 : Value) (K : Value → WP) (w : World) (h : s49 Try.prog arg0 arg1 K w) : Runs Try.prog 49 [arg0, arg1] K w :=
  runs_of_E wide (fn := Try.f49) (c := Try.f49.body.getD .skip) 9 A49 [arg0, arg1] w K Try.func49 (by kernel_rfl) (by kernel_rfl) (by kernel_rfl) (by kernel_rfl)
    (Eq.mp (by kernel_rfl : s49 Try.prog arg0 arg1 K w = E Try.prog (Try.f49.body.getD .skip) A49 (topK Try.prog K Try.f49.results) (fun i => (([arg0, arg1] : List Value)[i]?).getD undef) w) h)
theorem ct49 {arg0 arg1 : Value} {h : Hp} {post : Hp → Value → Prop} (hg : ∀ w0, Gs w0 h h [] (s49 Try.prog arg0 arg1 (RetP w0 h post))) : Ct Try.prog 49 [arg0, arg1] h post := Ct.of (sf := s49 Try.prog arg0 arg1) (c49 arg0 arg1) hg
theorem in49 {arg0 arg1 : Value} {S : WP} {K : Value → WP} (hg : G S (s49 Try.prog arg0 arg1 K)) : G S (Do Try.prog (vCall (.func (.func 49) #[] ⟨[]⟩) [arg0, arg1]) K) := Gs.into (args := [arg0, arg1]) (caps := []) (sf := s49 Try.prog arg0 arg1) (c49 arg0 arg1) hg

/- (*skewer/value.book).all : names 0 b, 1 l, 2 b, 3 l, 5 out, 6 _, 7 f -/
def s50 (P : Program) (arg0 arg1 : Value) (K : Value → WP) : WP :=
  Do P (vBuiltin .len #[25] 3 [arg1]) fun t1_9 =>
  Lp (α := Value × Value) (fun c2 s2 => Jk fun _ => -- out t10
   Do P (V (binOp .lss 3 s2.2 t1_9)) fun t3_11 =>
   If t3_11 (
    Do P (V (Instr.indexAt 25 arg1 s2.2)) fun t4_12 =>
    Do P (V (Instr.loadAt 27 t4_12)) fun t5_13 =>
    Do P (V (Instr.alloc 27 true (.tuple #[]))) fun f6 =>
    Do P (U (Instr.storeAt 27 f6 t5_13)) fun t7_x =>
    Do P (V (Instr.loadAt 27 f6)) fun t8_16 =>
    Do P (vCall (.func (.func 35) #[] ⟨[]⟩) [arg0, t8_16]) fun t9_17 =>
    Do P (vBuildSlice 69 1 [(0, t9_17)]) fun t10_18 =>
    Do P (vBuiltin .append #[69, 69] 69 [s2.1, t10_18]) fun t11_19 =>
    Do P (V (binOp .add 3 s2.2 (.int .i64 1))) fun t12_20 =>
    c2 (t11_19, t12_20)
   ) (
    K s2.1
   )
  ) ((.slice none 0 0), (.int .i64 0))
def A50 : Ann := .s (.n) (.s (.n) (.s (.s (.n) (.lp [5, 10] 2096288 (.s (.n) (.s (.s (.n) (.n)) (.s (.s (.n) (.n)) (.n)))))) (.s (.n) (.n))))
set_option maxRecDepth 100000 in
theorem c50 (arg0 arg1 : Value) (K : Value → WP) (w : World) (h : s50 Try.prog arg0 arg1 K w) : Runs Try.prog 50 [arg0, arg1] K w :=
  runs_of_E wide (fn := Try.f50) (c := Try.f50.body.getD .skip) 22 A50 [arg0, arg1] w K Try.func50 (by kernel_rfl) (by kernel_rfl) (by kernel_rfl) (by kernel_rfl)
    (Eq.mp (by kernel_rfl : s50 Try.prog arg0 arg1 K w = E Try.prog (Try.f50.body.getD .skip) A50 (topK Try.prog K Try.f50.results) (fun i => (([arg0, arg1] : List Value)[i]?).getD undef) w) h)
theorem ct50 {arg0 arg1 : Value} {h : Hp} {post : Hp → Value → Prop} (hg : ∀ w0, Gs w0 h h [] (s50 Try.prog arg0 arg1 (RetP w0 h post))) : Ct Try.prog 50 [arg0, arg1] h post := Ct.of (sf := s50 Try.prog arg0 arg1) (c50 arg0 arg1) hg
theorem in50 {arg0 arg1 : Value} {S : WP} {K : Value → WP} (hg : G S (s50 Try.prog arg0 arg1 K)) : G S (Do Try.prog (vCall (.func (.func 50) #[] ⟨[]⟩) [arg0, arg1]) K) := Gs.into (args := [arg0, arg1]) (caps := []) (sf := s50 Try.prog arg0 arg1) (c50 arg0 arg1) hg

/- (*skewer/value.book).bypass : names 0 b, 1 l, 2 r, 3 b, 4 l, 5 r, 8 whole, 9 i, 10 x, 11 back, 12 k -/
def s51 (P : Program) (arg0 arg1 arg2 : Value) (K : Value → WP) : WP :=
  Do P (V (Instr.box 60 arg0)) fun b1 =>
  Do P (V (Instr.loadAt 60 b1)) fun t2_13 =>
  Do P (vCall (.func (.func 45) #[] ⟨[]⟩) [t2_13, arg1, arg2]) fun t3_16 =>
  Do P (V (Instr.alloc 63 true (.tuple #[]))) fun whole4 =>
  Do P (U (Instr.storeAt 63 whole4 t3_16)) fun t5_x =>
  Do P (vBuiltin .len #[69] 3 [arg1]) fun t6_18 =>
  Lp (α := Value) (fun c7 s7 => Jk fun _ => -- t19
   Do P (V (binOp .lss 3 s7 t6_18)) fun t8_20 =>
   If t8_20 (
    Do P (V (Instr.indexAt 69 arg1 s7)) fun t9_22 =>
    Do P (V (Instr.loadAt 63 t9_22)) fun t10_23 =>
    Do P (vNil t10_23) fun t11_26 =>
    Do P (V (Instr.fieldAt 71 t11_26 2)) fun t12_27 =>
    Do P (V (Instr.loadAt 69 t12_27)) fun t13_28 =>
    Do P (vCall (.func (.func 65) #[] ⟨[]⟩) [t13_28, (.func (.func 66) #[] ⟨[b1, whole4]⟩)]) fun t14_30 =>
    Do P (V (binOp .geq 3 t14_30 (.int .i64 0))) fun t15_32 =>
    If t15_32 (
     Dr <|
     Qk P (V (Instr.sliceAt 69 arg1 none (some s7) none)) fun C16 t16_35 =>
     Qk P (vNil t10_23) fun C17 t17_37 =>
     Qk P (V (Instr.fieldAt 71 t17_37 2)) fun C18 t18_38 =>
     Qk P (V (Instr.loadAt 69 t18_38)) fun C19 t19_39 =>
     Qk P (V (Instr.indexAt 69 t19_39 t14_30)) fun C20 t20_41 =>
     Qk P (V (Instr.loadAt 63 t20_41)) fun C21 t21_42 =>
     Qk P (vNil t21_42) fun C22 t22_43 =>
     Qk P (V (Instr.fieldAt 71 t22_43 1)) fun C23 t23_44 =>
     Qk P (V (Instr.loadAt 69 t23_44)) fun C24 t24_45 =>
     Qk P (V (binOp .add 3 s7 (.int .i64 1))) fun C25 t25_48 =>
     Qk P (V (Instr.sliceAt 69 arg1 (some t25_48) none none)) fun C26 t26_49 =>
     Do P (vBuildSlice 125 3 [(0, t16_35), (1, t24_45), (2, t26_49)]) fun t27_50 =>
     Do P (vCall (.func (.func 67) #[] ⟨[]⟩) [t27_50]) fun t28_51 =>
     K (.tuple #[t28_51, (.bool true)])
    ) (
     Do P (V (binOp .add 3 s7 (.int .i64 1))) fun t29_52 =>
     c7 t29_52
    )
   ) (
    K (.tuple #[arg1, (.bool false)])
   )
  ) (.int .i64 0)
def A51 : Ann := .s (.n) (.s (.n) (.s (.s (.n) (.lp [19] 9007199254224576 (.s (.n) (.s (.s (.n) (.n)) (.s (.s (.n) (.s (.n) (.s (.n) (.s (.n) (.s (.s (.plan [(0, 2, 8589934592), (0, 512, 17179869184), (3, 25769803776, 34359738368), (0, 1024, 68719476736), (8, 68719476736, 137438953472), (16, 137438953472, 274877906944), (32, 274877906944, 549755813888), (0, 4096, 1099511627776), (192, 1649267441664, 2199023255552), (256, 2199023255552, 4398046511104), (512, 4398046511104, 8796093022208), (1024, 8796093022208, 17592186044416), (2048, 17592186044416, 35184372088832), (0, 2, 70368744177664), (0, 512, 140737488355328), (16384, 140737488355328, 281474976710656), (40960, 351843720888320, 562949953421312), (69636, 598168685248512, 1125899906842624), (131072, 1125899906842624, 2251799813685248), (524287, 2251799813685248, 64), (1048575, 0, 128)] (.q 0 (.q 1 (.q 2 (.q 3 (.q 4 (.q 5 (.q 6 (.q 7 (.q 8 (.q 9 (.q 10 (.q 11 (.q 12 (.q 13 (.q 14 (.q 15 (.q 16 (.l 17 (.l 18 (.q 19 (.q 20 .done)))))))))))))))))))))) (.n)) (.n)))))) (.n)))))) (.s (.n) (.n))))
set_option maxRecDepth 100000 in
theorem c51 (arg0 arg1 arg2 : Value) (K : Value → WP) (w : World) (h : s51 Try.prog arg0 arg1 arg2 K w) : Runs Try.prog 51 [arg0, arg1, arg2] K w :=
  runs_of_E wide (fn := Try.f51) (c := Try.f51.body.getD .skip) 54 A51 [arg0, arg1, arg2] w K Try.func51 (by kernel_rfl) (by kernel_rfl) (by kernel_rfl) (by kernel_rfl)
    (Eq.mp (by kernel_rfl : s51 Try.prog arg0 arg1 arg2 K w = E Try.prog (Try.f51.body.getD .skip) A51 (topK Try.prog K Try.f51.results) (fun i => (([arg0, arg1, arg2] : List Value)[i]?).getD undef) w) h)
theorem ct51 {arg0 arg1 arg2 : Value} {h : Hp} {post : Hp → Value → Prop} (hg : ∀ w0, Gs w0 h h [] (s51 Try.prog arg0 arg1 arg2 (RetP w0 h post))) : Ct Try.prog 51 [arg0, arg1, arg2] h post := Ct.of (sf := s51 Try.prog arg0 arg1 arg2) (c51 arg0 arg1 arg2) hg
theorem in51 {arg0 arg1 arg2 : Value} {S : WP} {K : Value → WP} (hg : G S (s51 Try.prog arg0 arg1 arg2 K)) : G S (Do Try.prog (vCall (.func (.func 51) #[] ⟨[]⟩) [arg0, arg1, arg2]) K) := Gs.into (args := [arg0, arg1, arg2]) (caps := []) (sf := s51 Try.prog arg0 arg1 arg2) (c51 arg0 arg1 arg2) hg

/- (*skewer/value.book).turn : names 0 b, 1 l, 2 r, 3 b, 4 l, 5 r, 8 whole, 9 i, 10 x, 11 back, 12 k -/
def s52 (P : Program) (arg0 arg1 arg2 : Value) (K : Value → WP) : WP :=
  Do P (V (Instr.box 60 arg0)) fun b1 =>
  Do P (V (Instr.loadAt 60 b1)) fun t2_13 =>
  Do P (vCall (.func (.func 45) #[] ⟨[]⟩) [t2_13, arg1, arg2]) fun t3_16 =>
  Do P (V (Instr.alloc 63 true (.tuple #[]))) fun whole4 =>
  Do P (U (Instr.storeAt 63 whole4 t3_16)) fun t5_x =>
  Do P (vBuiltin .len #[69] 3 [arg2]) fun t6_18 =>
  Lp (α := Value) (fun c7 s7 => Jk fun _ => -- t19
   Do P (V (binOp .lss 3 s7 t6_18)) fun t8_20 =>
   If t8_20 (
    Do P (V (Instr.indexAt 69 arg2 s7)) fun t9_22 =>
    Do P (V (Instr.loadAt 63 t9_22)) fun t10_23 =>
    Do P (vNil t10_23) fun t11_26 =>
    Do P (V (Instr.fieldAt 71 t11_26 1)) fun t12_27 =>
    Do P (V (Instr.loadAt 69 t12_27)) fun t13_28 =>
    Do P (vCall (.func (.func 65) #[] ⟨[]⟩) [t13_28, (.func (.func 68) #[] ⟨[b1, whole4]⟩)]) fun t14_30 =>
    Do P (V (binOp .geq 3 t14_30 (.int .i64 0))) fun t15_32 =>
    If t15_32 (
     Dr <|
     Qk P (V (Instr.sliceAt 69 arg2 none (some s7) none)) fun C16 t16_35 =>
     Qk P (vNil t10_23) fun C17 t17_37 =>
     Qk P (V (Instr.fieldAt 71 t17_37 1)) fun C18 t18_38 =>
     Qk P (V (Instr.loadAt 69 t18_38)) fun C19 t19_39 =>
     Qk P (V (Instr.indexAt 69 t19_39 t14_30)) fun C20 t20_41 =>
     Qk P (V (Instr.loadAt 63 t20_41)) fun C21 t21_42 =>
     Qk P (vNil t21_42) fun C22 t22_43 =>
     Qk P (V (Instr.fieldAt 71 t22_43 2)) fun C23 t23_44 =>
     Qk P (V (Instr.loadAt 69 t23_44)) fun C24 t24_45 =>
     Qk P (V (binOp .add 3 s7 (.int .i64 1))) fun C25 t25_48 =>
     Qk P (V (Instr.sliceAt 69 arg2 (some t25_48) none none)) fun C26 t26_49 =>
     Do P (vBuildSlice 125 3 [(0, t16_35), (1, t24_45), (2, t26_49)]) fun t27_50 =>
     Do P (vCall (.func (.func 67) #[] ⟨[]⟩) [t27_50]) fun t28_51 =>
     K (.tuple #[t28_51, (.bool true)])
    ) (
     Do P (V (binOp .add 3 s7 (.int .i64 1))) fun t29_52 =>
     c7 t29_52
    )
   ) (
    K (.tuple #[arg2, (.bool false)])
   )
  ) (.int .i64 0)
def A52 : Ann := .s (.n) (.s (.n) (.s (.s (.n) (.lp [19] 9007199254224576 (.s (.n) (.s (.s (.n) (.n)) (.s (.s (.n) (.s (.n) (.s (.n) (.s (.n) (.s (.s (.plan [(0, 4, 8589934592), (0, 512, 17179869184), (3, 25769803776, 34359738368), (0, 1024, 68719476736), (8, 68719476736, 137438953472), (16, 137438953472, 274877906944), (32, 274877906944, 549755813888), (0, 4096, 1099511627776), (192, 1649267441664, 2199023255552), (256, 2199023255552, 4398046511104), (512, 4398046511104, 8796093022208), (1024, 8796093022208, 17592186044416), (2048, 17592186044416, 35184372088832), (0, 4, 70368744177664), (0, 512, 140737488355328), (16384, 140737488355328, 281474976710656), (40960, 351843720888320, 562949953421312), (69636, 598168685248512, 1125899906842624), (131072, 1125899906842624, 2251799813685248), (524287, 2251799813685248, 64), (1048575, 0, 128)] (.q 0 (.q 1 (.q 2 (.q 3 (.q 4 (.q 5 (.q 6 (.q 7 (.q 8 (.q 9 (.q 10 (.q 11 (.q 12 (.q 13 (.q 14 (.q 15 (.q 16 (.l 17 (.l 18 (.q 19 (.q 20 .done)))))))))))))))))))))) (.n)) (.n)))))) (.n)))))) (.s (.n) (.n))))
set_option maxRecDepth 100000 in
theorem c52 (arg0 arg1 arg2 : Value) (K : Value → WP) (w : World) (h : s52 Try.prog arg0 arg1 arg2 K w) : Runs Try.prog 52 [arg0, arg1, arg2] K w :=
  runs_of_E wide (fn := Try.f52) (c := Try.f52.body.getD .skip) 54 A52 [arg0, arg1, arg2] w K Try.func52 (by kernel_rfl) (by kernel_rfl) (by kernel_rfl) (by kernel_rfl)
    (Eq.mp (by kernel_rfl : s52 Try.prog arg0 arg1 arg2 K w = E Try.prog (Try.f52.body.getD .skip) A52 (topK Try.prog K Try.f52.results) (fun i => (([arg0, arg1, arg2] : List Value)[i]?).getD undef) w) h)
theorem ct52 {arg0 arg1 arg2 : Value} {h : Hp} {post : Hp → Value → Prop} (hg : ∀ w0, Gs w0 h h [] (s52 Try.prog arg0 arg1 arg2 (RetP w0 h post))) : Ct Try.prog 52 [arg0, arg1, arg2] h post := Ct.of (sf := s52 Try.prog arg0 arg1 arg2) (c52 arg0 arg1 arg2) hg
theorem in52 {arg0 arg1 arg2 : Value} {S : WP} {K : Value → WP} (hg : G S (s52 Try.prog arg0 arg1 arg2 K)) : G S (Do Try.prog (vCall (.func (.func 52) #[] ⟨[]⟩) [arg0, arg1, arg2]) K) := Gs.into (args := [arg0, arg1, arg2]) (caps := []) (sf := s52 Try.prog arg0 arg1 arg2) (c52 arg0 arg1 arg2) hg

/- (*skewer/value.book).reduce$1 : names 0 x, 1 y, 3 x, 4 y -/
def s53 (P : Program) (arg0 arg1 arg2 : Value) (K : Value → WP) : WP :=
  Do P (V (Instr.loadAt 60 arg2)) fun t1_6 =>
  Do P (vCall (.func (.func 34) #[] ⟨[]⟩) [t1_6, arg1, arg0]) fun t2_9 =>
  K t2_9
def A53 : Ann := .s (.n) (.s (.n) (.n))
set_option maxRecDepth 100000 in
theorem c53 (arg0 arg1 arg2 : Value) (K : Value → WP) (w : World) (h : s53 Try.prog arg0 arg1 arg2 K w) : Runs Try.prog 53 [arg0, arg1, arg2] K w :=
  runs_of_E wide (fn := Try.f53) (c := Try.f53.body.getD .skip) 10 A53 [arg0, arg1, arg2] w K Try.func53 (by kernel_rfl) (by kernel_rfl) (by kernel_rfl) (by kernel_rfl)
    (Eq.mp (by kernel_rfl : s53 Try.prog arg0 arg1 arg2 K w = E Try.prog (Try.f53.body.getD .skip) A53 (topK Try.prog K Try.f53.results) (fun i => (([arg0, arg1, arg2] : List Value)[i]?).getD undef) w) h)
theorem ct53 {arg0 arg1 arg2 : Value} {h : Hp} {post : Hp → Value → Prop} (hg : ∀ w0, Gs w0 h h [] (s53 Try.prog arg0 arg1 arg2 (RetP w0 h post))) : Ct Try.prog 53 [arg0, arg1, arg2] h post := Ct.of (sf := s53 Try.prog arg0 arg1 arg2) (c53 arg0 arg1 arg2) hg
theorem in53 {arg0 arg1 arg2 : Value} {S : WP} {K : Value → WP} (hg : G S (s53 Try.prog arg0 arg1 arg2 K)) : G S (Do Try.prog (vCall (.func (.func 53) #[] ⟨[arg2]⟩) [arg0, arg1]) K) := Gs.into (args := [arg0, arg1]) (caps := [arg2]) (sf := s53 Try.prog arg0 arg1 arg2) (c53 arg0 arg1 arg2) hg

/- skewer/value.best : names 0 l, 1 worse, 2 l, 3 worse, 5 out, 6 i, 7 x, 8 keep, 9 k, 10 y -/
def s54 (P : Program) (arg0 arg1 : Value) (K : Value → WP) : WP :=
  Do P (vBuiltin .len #[69] 3 [arg0]) fun t1_12 =>
  Lp (α := Value × Value) (fun c2 s2 => Jk fun _ => -- out t13
   Do P (V (binOp .lss 3 s2.2 t1_12)) fun t3_14 =>
   If t3_14 (
    Jn (α := Value) (fun j4 => Jk fun _ => -- out
     Do P (V (binOp .add 3 s2.2 (.int .i64 1))) fun t5_52 =>
     c2 (j4, t5_52)
    ) fun k4 =>
    Do P (V (Instr.indexAt 69 arg0 s2.2)) fun t6_16 =>
    Do P (V (Instr.loadAt 63 t6_16)) fun t7_17 =>
    Do P (vBuiltin .len #[69] 3 [arg0]) fun t8_19 =>
    Lp (α := Value × Value) (fun c9 s9 => Jk fun _ => -- keep t20
     Do P (V (binOp .lss 3 s9.2 t8_19)) fun t10_21 =>
     If t10_21 (
      Jn (α := Value) (fun j11 => Jk fun _ => -- keep
       Do P (V (binOp .add 3 s9.2 (.int .i64 1))) fun t12_46 =>
       c9 (j11, t12_46)
      ) fun k11 =>
      Do P (V (Instr.indexAt 69 arg0 s9.2)) fun t13_23 =>
      Do P (V (Instr.loadAt 63 t13_23)) fun t14_24 =>
      Jn (α := Value) (fun j15 => Jk fun _ => -- t45
       If j15 (
        k11 (.bool false)
       ) (
        k11 s9.1
       )
      ) fun k15 =>
      Do P (V (EqG .neq 3 (.tmp 25) (.tmp 26) s2.2 s9.2)) fun t16_27 =>
      Gd t16_27 true (
       Do P (vCall arg1 [t7_17, t14_24]) fun t17_32 =>
       Gd t17_32 true (
        Do P (V (binOp .lss 3 s9.2 s2.2)) fun t18_37 =>
        Gd t18_37 false (
         Do P (vCall arg1 [t14_24, t7_17]) fun t19_42 =>
         Do P (V (Op.unary .not t19_42)) fun t20_43 =>
         k15 t20_43
        ) (
         k15 (.bool true)
        )
       ) (
        k15 (.bool false)
       )
      ) (
       k15 (.bool false)
      )
     ) (
      If s9.1 (
       Do P (vBuildSlice 69 1 [(0, t7_17)]) fun t21_50 =>
       Do P (vBuiltin .append #[69, 69] 69 [s2.1, t21_50]) fun t22_51 =>
       k4 t22_51
      ) (
       k4 s2.1
      )
     )
    ) ((.bool true), (.int .i64 0))
   ) (
    Do P (vCall (.func (.func 69) #[] ⟨[]⟩) [s2.1, (.func (.func 70) #[] ⟨[]⟩)]) fun t23_54 =>
    K s2.1
   )
  ) ((.slice none 0 0), (.int .i64 0))
def A54 : Ann := .s (.n) (.s (.n) (.s (.s (.n) (.lp [5, 13] 9007199254734816 (.s (.n) (.s (.s (.n) (.n)) (.j [5] 4503599627339744 (.s (.n) (.s (.n) (.s (.s (.n) (.lp [8, 20] 140737487308544 (.s (.n) (.s (.s (.n) (.n)) (.j [8] 70368739985152 (.s (.n) (.j [45] 70368710623232 (.n) (.s (.n) (.n)))) (.n)))))) (.s (.n) (.s (.n) (.n)))))) (.n)))))) (.s (.n) (.s (.n) (.n)))))
set_option maxRecDepth 100000 in
theorem c54 (arg0 arg1 : Value) (K : Value → WP) (w : World) (h : s54 Try.prog arg0 arg1 K w) : Runs Try.prog 54 [arg0, arg1] K w :=
  runs_of_E wide (fn := Try.f54) (c := Try.f54.body.getD .skip) 56 A54 [arg0, arg1] w K Try.func54 (by kernel_rfl) (by kernel_rfl) (by kernel_rfl) (by kernel_rfl)
    (Eq.mp (by kernel_rfl : s54 Try.prog arg0 arg1 K w = E Try.prog (Try.f54.body.getD .skip) A54 (topK Try.prog K Try.f54.results) (fun i => (([arg0, arg1] : List Value)[i]?).getD undef) w) h)
theorem ct54 {arg0 arg1 : Value} {h : Hp} {post : Hp → Value → Prop} (hg : ∀ w0, Gs w0 h h [] (s54 Try.prog arg0 arg1 (RetP w0 h post))) : Ct Try.prog 54 [arg0, arg1] h post := Ct.of (sf := s54 Try.prog arg0 arg1) (c54 arg0 arg1) hg
theorem in54 {arg0 arg1 : Value} {S : WP} {K : Value → WP} (hg : G S (s54 Try.prog arg0 arg1 K)) : G S (Do Try.prog (vCall (.func (.func 54) #[] ⟨[]⟩) [arg0, arg1]) K) := Gs.into (args := [arg0, arg1]) (caps := []) (sf := s54 Try.prog arg0 arg1) (c54 arg0 arg1) hg

/- skewer/skewerref20.texts : names 0 l, 1 l, 3 out, 4 i -/
def s55 (P : Program) (arg0 : Value) (K : Value → WP) : WP :=
  Lp (α := Value × Value) (fun c1 s1 => Jk fun _ => -- out i
   Do P (vBuiltin .len #[25] 3 [arg0]) fun t2_7 =>
   Do P (V (binOp .lss 3 s1.2 t2_7)) fun t3_8 =>
   If t3_8 (
    Jn (α := Value) (fun j4 => Jk fun _ => -- out
     Do P (V (Instr.indexAt 25 arg0 s1.2)) fun t5_18 =>
     Do P (V (Instr.loadAt 27 t5_18)) fun t6_19 =>
     Do P (vCall (.func (.func 39) #[] ⟨[]⟩) [t6_19]) fun t7_20 =>
     Do P (V (binOp .add 9 j4 t7_20)) fun t8_21 =>
     Do P (V (binOp .add 3 s1.2 (.int .i64 1))) fun t9_10 =>
     c1 (t8_21, t9_10)
    ) fun k4 =>
    Do P (V (binOp .gtr 3 s1.2 (.int .i64 0))) fun t10_12 =>
    If t10_12 (
     Do P (V (binOp .add 9 s1.1 (.string ⟨#[44]⟩))) fun t11_14 =>
     k4 t11_14
    ) (
     k4 s1.1
    )
   ) (
    K s1.1
   )
  ) ((.string ⟨#[]⟩), (.int .i64 0))
def A55 : Ann := .s (.n) (.s (.n) (.s (.s (.n) (.lp [3, 4] 4194296 (.s (.s (.n) (.s (.n) (.n))) (.s (.j [3] 30728 (.s (.n) (.s (.n) (.n))) (.n)) (.n))))) (.s (.n) (.n))))
set_option maxRecDepth 100000 in
theorem c55 (arg0 : Value) (K : Value → WP) (w : World) (h : s55 Try.prog arg0 K w) : Runs Try.prog 55 [arg0] K w :=
  runs_of_E wide (fn := Try.f55) (c := Try.f55.body.getD .skip) 23 A55 [arg0] w K Try.func55 (by kernel_rfl) (by kernel_rfl) (by kernel_rfl) (by kernel_rfl)
    (Eq.mp (by kernel_rfl : s55 Try.prog arg0 K w = E Try.prog (Try.f55.body.getD .skip) A55 (topK Try.prog K Try.f55.results) (fun i => (([arg0] : List Value)[i]?).getD undef) w) h)
theorem ct55 {arg0 : Value} {h : Hp} {post : Hp → Value → Prop} (hg : ∀ w0, Gs w0 h h [] (s55 Try.prog arg0 (RetP w0 h post))) : Ct Try.prog 55 [arg0] h post := Ct.of (sf := s55 Try.prog arg0) (c55 arg0) hg
theorem in55 {arg0 : Value} {S : WP} {K : Value → WP} (hg : G S (s55 Try.prog arg0 K)) : G S (Do Try.prog (vCall (.func (.func 55) #[] ⟨[]⟩) [arg0]) K) := Gs.into (args := [arg0]) (caps := []) (sf := s55 Try.prog arg0) (c55 arg0) hg

/- skewer/value.parents : names 0 x, 1 x, 2 l, 3 r -/
def s56 (P : Program) (arg0 : Value) (K : Value → WP) : WP :=
  Do P (V (Instr.box 40 arg0)) fun x1 =>
  Do P (V (Instr.fieldAt 40 x1 1)) fun t2_5 =>
  Do P (V (Instr.loadAt 3 t2_5)) fun t3_6 =>
  Do P (V (binOp .gtr 3 t3_6 (.int .i64 0))) fun t4_7 =>
  If t4_7 (
   Dr <|
   Qk P (V (Instr.fieldAt 40 x1 0)) fun C5 t5_8 =>
   Qk P (V (Instr.loadAt 3 t5_8)) fun C6 t6_9 =>
   Qk P (V (binOp .sub 3 t6_9 (.int .i64 1))) fun C7 t7_10 =>
   Qk P (V (Instr.fieldAt 40 x1 1)) fun C8 t8_11 =>
   Qk P (V (Instr.loadAt 3 t8_11)) fun C9 t9_12 =>
   Qk P (V (Instr.fieldAt 40 x1 0)) fun C10 t10_15 =>
   Qk P (V (Instr.loadAt 3 t10_15)) fun C11 t11_16 =>
   Qk P (V (binOp .add 3 t11_16 (.int .i64 1))) fun C12 t12_17 =>
   Qk P (V (Instr.fieldAt 40 x1 1)) fun C13 t13_18 =>
   Qk P (V (Instr.loadAt 3 t13_18)) fun C14 t14_19 =>
   Do P (vCall (.func (.func 72) #[] ⟨[]⟩) [t7_10, t9_12]) fun t15_13 =>
   With C14 <|
   With C13 <|
   With C12 <|
   With C11 <|
   With C10 <|
   Or2 (
    Do P (vBuildSlice 97 1 [(0, t15_13)]) fun t16_14 =>
    With C14 <|
    With C13 <|
    With C12 <|
    With C11 <|
    With C10 <|
    Do P (vCall (.func (.func 72) #[] ⟨[]⟩) [t12_17, t14_19]) fun t17_20 =>
    Do P (vBuildSlice 97 1 [(0, t17_20)]) fun t18_21 =>
    K (.tuple #[t16_14, t18_21])
   ) (
    Do P (vCall (.func (.func 72) #[] ⟨[]⟩) [t12_17, t14_19]) fun t19_20 =>
    Or2 (
     Do P (vBuildSlice 97 1 [(0, t15_13)]) fun t20_14 =>
     With C14 <|
     With C13 <|
     With C12 <|
     With C11 <|
     With C10 <|
     Do P (vBuildSlice 97 1 [(0, t19_20)]) fun t21_21 =>
     K (.tuple #[t20_14, t21_21])
    ) (
     Do P (vBuildSlice 97 1 [(0, t19_20)]) fun t22_21 =>
     Do P (vBuildSlice 97 1 [(0, t15_13)]) fun t23_14 =>
     With C14 <|
     With C13 <|
     With C12 <|
     With C11 <|
     With C10 <|
     K (.tuple #[t23_14, t22_21])
    )
   )
  ) (
   Do P (V (Instr.fieldAt 40 x1 0)) fun t24_23 =>
   Do P (V (Instr.loadAt 3 t24_23)) fun t25_24 =>
   Do P (V (binOp .gtr 3 t25_24 (.int .i64 0))) fun t26_25 =>
   If t26_25 (
    Do P (V (Instr.fieldAt 40 x1 0)) fun t27_26 =>
    Do P (V (Instr.loadAt 3 t27_26)) fun t28_27 =>
    Do P (V (binOp .sub 3 t28_27 (.int .i64 1))) fun t29_28 =>
    Do P (vBuild 40 [(0, t29_28)]) fun t30_29 =>
    Do P (vBuildSlice 97 1 [(0, t30_29)]) fun t31_30 =>
    K (.tuple #[t31_30, (.slice none 0 0)])
   ) (
    Do P (V (Instr.fieldAt 40 x1 0)) fun t32_32 =>
    Do P (V (Instr.loadAt 3 t32_32)) fun t33_33 =>
    Do P (V (binOp .lss 3 t33_33 (.int .i64 0))) fun t34_34 =>
    If t34_34 (
     Dr <|
     Qk P (V (Instr.fieldAt 40 x1 0)) fun C35 t35_35 =>
     Qk P (V (Instr.loadAt 3 t35_35)) fun C36 t36_36 =>
     Qk P (V (binOp .add 3 t36_36 (.int .i64 1))) fun C37 t37_37 =>
     Qk P (vBuild 40 [(0, t37_37)]) fun C38 t38_38 =>
     Do P (vBuildSlice 97 1 [(0, t38_38)]) fun t39_39 =>
     K (.tuple #[(.slice none 0 0), t39_39])
    ) (
     K (.tuple #[(.slice none 0 0), (.slice none 0 0)])
    )
   )
  )
def A56 : Ann := .s (.n) (.s (.s (.n) (.s (.s (.plan [(0, 2, 256), (1, 256, 512), (2, 512, 1024), (0, 2, 2048), (8, 2048, 4096), (20, 5120, 8192), (32, 8192, 16384), (0, 2, 32768), (128, 32768, 65536), (256, 65536, 131072), (0, 2, 262144), (1024, 262144, 524288), (2592, 655360, 1048576), (4096, 1048576, 2097152), (4223, 16384, 4), (32767, 2097152, 8)] (.q 0 (.q 1 (.q 2 (.q 3 (.q 4 (.q 7 (.q 8 (.q 9 (.q 10 (.q 11 (.l 5 (.or (.l 6 (.l 12 (.q 14 (.l 13 (.q 15 .done))))) (.l 12 (.or (.l 6 (.q 14 (.l 13 (.q 15 .done)))) (.l 13 (.l 6 (.q 14 (.q 15 .done))))))))))))))))))) (.n)) (.s (.n) (.s (.s (.n) (.n)) (.s (.n) (.s (.s (.plan [(0, 2, 34359738368), (1, 34359738368, 68719476736), (2, 68719476736, 137438953472), (4, 137438953472, 274877906944), (8, 274877906944, 549755813888), (0, 0, 4), (63, 549755813888, 8)] (.q 0 (.q 1 (.q 2 (.q 3 (.q 5 (.l 4 (.q 6 .done)))))))) (.n)) (.n))))))) (.s (.n) (.n)))
set_option maxRecDepth 100000 in
theorem c56 (arg0 : Value) (K : Value → WP) (w : World) (h : s56 Try.prog arg0 K w) : Runs Try.prog 56 [arg0] K w :=
  runs_of_E wide (fn := Try.f56) (c := Try.f56.body.getD .skip) 40 A56 [arg0] w K Try.func56 (by kernel_rfl) (by kernel_rfl) (by kernel_rfl) (by kernel_rfl)
    (Eq.mp (by kernel_rfl : s56 Try.prog arg0 K w = E Try.prog (Try.f56.body.getD .skip) A56 (topK Try.prog K Try.f56.results) (fun i => (([arg0] : List Value)[i]?).getD undef) w) h)
theorem ct56 {arg0 : Value} {h : Hp} {post : Hp → Value → Prop} (hg : ∀ w0, Gs w0 h h [] (s56 Try.prog arg0 (RetP w0 h post))) : Ct Try.prog 56 [arg0] h post := Ct.of (sf := s56 Try.prog arg0) (c56 arg0) hg
theorem in56 {arg0 : Value} {S : WP} {K : Value → WP} (hg : G S (s56 Try.prog arg0 K)) : G S (Do Try.prog (vCall (.func (.func 56) #[] ⟨[]⟩) [arg0]) K) := Gs.into (args := [arg0]) (caps := []) (sf := s56 Try.prog arg0) (c56 arg0) hg

/- skewer/skewerref19.power : names 0 n, 1 n -/
def s57 (P : Program) (arg0 : Value) (K : Value → WP) : WP :=
  Do P (V (EqG .eql 3 (.tmp 3) (.const (.int .i64 0)) arg0 (.int .i64 0))) fun t1_4 =>
  If t1_4 (
   K (.int .i64 1)
  ) (
   Do P (V (binOp .sub 3 arg0 (.int .i64 1))) fun t2_6 =>
   Do P (vCall (.func (.func 57) #[] ⟨[]⟩) [t2_6]) fun t3_7 =>
   Do P (V (binOp .mul 3 (.int .i64 2) t3_7)) fun t4_8 =>
   K t4_8
  )
def A57 : Ann := .s (.n) (.s (.s (.n) (.s (.s (.n) (.n)) (.n))) (.s (.n) (.n)))
set_option maxRecDepth 100000 in
theorem c57 (arg0 : Value) (K : Value → WP) (w : World) (h : s57 Try.prog arg0 K w) : Runs Try.prog 57 [arg0] K w :=
  runs_of_E wide (fn := Try.f57) (c := Try.f57.body.getD .skip) 9 A57 [arg0] w K Try.func57 (by kernel_rfl) (by kernel_rfl) (by kernel_rfl) (by kernel_rfl)
    (Eq.mp (by kernel_rfl : s57 Try.prog arg0 K w = E Try.prog (Try.f57.body.getD .skip) A57 (topK Try.prog K Try.f57.results) (fun i => (([arg0] : List Value)[i]?).getD undef) w) h)
theorem ct57 {arg0 : Value} {h : Hp} {post : Hp → Value → Prop} (hg : ∀ w0, Gs w0 h h [] (s57 Try.prog arg0 (RetP w0 h post))) : Ct Try.prog 57 [arg0] h post := Ct.of (sf := s57 Try.prog arg0) (c57 arg0) hg
theorem in57 {arg0 : Value} {S : WP} {K : Value → WP} (hg : G S (s57 Try.prog arg0 K)) : G S (Do Try.prog (vCall (.func (.func 57) #[] ⟨[]⟩) [arg0]) K) := Gs.into (args := [arg0]) (caps := []) (sf := s57 Try.prog arg0) (c57 arg0) hg

/- skewer/skewerref19.made : names 0 num, 1 exp, 2 num, 3 exp, 5 x -/
def s58 (P : Program) (arg0 arg1 : Value) (K : Value → WP) : WP :=
  Do P (V (Instr.alloc 76 true (.tuple #[]))) fun t1_4 =>
  Jn (α := Value) (fun j2 => Jk fun _ => -- t11
   If j2 (
    Do P (vBuild 76 [(1, (.int .i64 190))]) fun t3_12 =>
    Do P (U (Instr.storeAt 76 t1_4 t3_12)) fun t4_x =>
    RetC P 76 t1_4 K
   ) (
    Lp (α := Value × Value) (fun c5 s5 => Jk fun _ => -- num exp
     Jn (α := Value) (fun j6 => Jk fun _ => -- t19
      If j6 (
       Do P (V (binOp .quo 3 s5.1 (.int .i64 2))) fun t7_21 =>
       Do P (V (binOp .sub 3 s5.2 (.int .i64 1))) fun t8_23 =>
       c5 (t7_21, t8_23)
      ) (
       Do P (vBuild 40 [(0, s5.1), (1, s5.2)]) fun t9_26 =>
       Do P (V (Instr.alloc 40 true (.tuple #[]))) fun x10 =>
       Do P (U (Instr.storeAt 40 x10 t9_26)) fun t11_x =>
       Do P (V (Instr.loadAt 40 x10)) fun t12_27 =>
       Do P (vCall (.func (.func 73) #[] ⟨[]⟩) [t12_27]) fun t13_28 =>
       Do P (V (Op.unary .not t13_28)) fun t14_29 =>
       If t14_29 (
        Do P (vBuild 76 [(1, (.int .i64 190))]) fun t15_30 =>
        Do P (U (Instr.storeAt 76 t1_4 t15_30)) fun t16_x =>
        RetC P 76 t1_4 K
       ) (
        Do P (V (Instr.loadAt 40 x10)) fun t17_31 =>
        Do P (vBuild 76 [(0, t17_31)]) fun t18_32 =>
        Do P (U (Instr.storeAt 76 t1_4 t18_32)) fun t19_x =>
        RetC P 76 t1_4 K
       )
      )
     ) fun k6 =>
     Do P (V (binOp .gtr 3 s5.2 (.int .i64 0))) fun t20_14 =>
     Gd t20_14 true (
      Do P (V (binOp .rem 3 s5.1 (.int .i64 2))) fun t21_17 =>
      Do P (V (EqG .eql 3 (.tmp 17) (.const (.int .i64 0)) t21_17 (.int .i64 0))) fun t22_18 =>
      k6 t22_18
     ) (
      k6 (.bool false)
     )
    ) (arg0, arg1)
   )
  ) fun k2 =>
  Do P (V (binOp .lss 3 arg1 (.int .i64 0))) fun t23_7 =>
  Gd t23_7 false (
   Do P (V (binOp .gtr 3 arg1 (.int .i64 62))) fun t24_10 =>
   k2 t24_10
  ) (
   k2 (.bool true)
  )
def A58 : Ann := .s (.n) (.s (.j [11] 4032 (.n) (.s (.s (.n) (.n)) (.n))) (.s (.lp [0, 1] 16769027 (.s (.j [19] 1040384 (.n) (.s (.n) (.n))) (.s (.n) (.n)))) (.s (.n) (.s (.s (.n) (.s (.s (.n) (.n)) (.n))) (.s (.n) (.n))))))
set_option maxRecDepth 100000 in
theorem c58 (arg0 arg1 : Value) (K : Value → WP) (w : World) (h : s58 Try.prog arg0 arg1 K w) : Runs Try.prog 58 [arg0, arg1] K w :=
  runs_of_E wide (fn := Try.f58) (c := Try.f58.body.getD .skip) 33 A58 [arg0, arg1] w K Try.func58 (by kernel_rfl) (by kernel_rfl) (by kernel_rfl) (by kernel_rfl)
    (Eq.mp (by kernel_rfl : s58 Try.prog arg0 arg1 K w = E Try.prog (Try.f58.body.getD .skip) A58 (topK Try.prog K Try.f58.results) (fun i => (([arg0, arg1] : List Value)[i]?).getD undef) w) h)
theorem ct58 {arg0 arg1 : Value} {h : Hp} {post : Hp → Value → Prop} (hg : ∀ w0, Gs w0 h h [] (s58 Try.prog arg0 arg1 (RetP w0 h post))) : Ct Try.prog 58 [arg0, arg1] h post := Ct.of (sf := s58 Try.prog arg0 arg1) (c58 arg0 arg1) hg
theorem in58 {arg0 arg1 : Value} {S : WP} {K : Value → WP} (hg : G S (s58 Try.prog arg0 arg1 K)) : G S (Do Try.prog (vCall (.func (.func 58) #[] ⟨[]⟩) [arg0, arg1]) K) := Gs.into (args := [arg0, arg1]) (caps := []) (sf := s58 Try.prog arg0 arg1) (c58 arg0 arg1) hg

/- skewer/dyad.Compare : names 0 a, 1 b, 2 a, 3 b, 5 x, 6 y -/
def s59 (P : Program) (arg0 arg1 : Value) (K : Value → WP) : WP :=
  Do P (V (Instr.box 40 arg0)) fun a1 =>
  Do P (V (Instr.box 40 arg1)) fun b2 =>
  Jn (α := Value × Value) (fun j3 => Jk fun _ => -- x y
   Dr <|
   Qk P (V (Instr.loadAt 119 j3.1)) fun C4 t4_9 =>
   Qk P (V (Instr.loadAt 119 j3.2)) fun C5 t5_11 =>
   Qk P (V (Instr.loadAt 119 j3.1)) fun C6 t6_14 =>
   Qk P (V (Instr.loadAt 119 j3.2)) fun C7 t7_16 =>
   Do P (vCall (.func (.func 76) #[] ⟨[]⟩) [t4_9, (.int .i64 0)]) fun t8_10 =>
   With C7 <|
   With C6 <|
   With C5 <|
   Do P (vCall (.func (.func 76) #[] ⟨[]⟩) [t5_11, (.int .i64 0)]) fun t9_12 =>
   With C7 <|
   With C6 <|
   Do P (vCall (.func (.func 75) #[] ⟨[]⟩) [t8_10, t9_12]) fun t10_13 =>
   With C7 <|
   With C6 <|
   Do P (vCall (.func (.func 77) #[] ⟨[]⟩) [t6_14]) fun t11_15 =>
   With C7 <|
   Do P (vCall (.func (.func 77) #[] ⟨[]⟩) [t7_16]) fun t12_17 =>
   Do P (vCall (.func (.func 75) #[] ⟨[]⟩) [t11_15, t12_17]) fun t13_18 =>
   Do P (vBuildSlice 130 2 [(0, t10_13), (1, t13_18)]) fun t14_19 =>
   Do P (vCall (.func (.func 74) #[] ⟨[]⟩) [t14_19]) fun t15_20 =>
   K t15_20
  ) fun k3 =>
  Dr <|
  Qk P (V (Instr.loadAt 40 a1)) fun C16 t16_7 =>
  Qk P (V (Instr.loadAt 40 b2)) fun C17 t17_8 =>
  Or2 (
   Do P (V (Instr.alloc 119 true (.tuple #[]))) fun x18 =>
   With C17 <|
   With C16 <|
   Do P (V (Instr.alloc 119 true (.tuple #[]))) fun y19 =>
   With C17 <|
   With C16 <|
   Do P (U (Instr.storeAt 119 x18 t16_7)) fun t20_x =>
   With C17 <|
   Do P (U (Instr.storeAt 119 y19 t17_8)) fun t21_x =>
   k3 (x18, y19)
  ) (
   Do P (V (Instr.alloc 119 true (.tuple #[]))) fun y22 =>
   With C17 <|
   With C16 <|
   Do P (V (Instr.alloc 119 true (.tuple #[]))) fun x23 =>
   With C17 <|
   With C16 <|
   Do P (U (Instr.storeAt 119 x23 t16_7)) fun t24_x =>
   With C17 <|
   Do P (U (Instr.storeAt 119 y22 t17_8)) fun t25_x =>
   k3 (x23, y22)
  )
def A59 : Ann := .s (.n) (.j [5, 6] 480 (.plan [(0, 4, 128), (0, 8, 256), (0, 0, 32), (0, 0, 64), (13, 160, 0), (31, 320, 0)] (.q 0 (.q 1 (.or (.l 2 (.l 3 (.l 4 (.l 5 .done)))) (.l 3 (.l 2 (.l 4 (.l 5 .done)))))))) (.s (.plan [(0, 32, 512), (1, 512, 1024), (0, 64, 2048), (6, 2048, 4096), (10, 5120, 8192), (0, 32, 16384), (48, 16384, 32768), (0, 64, 65536), (192, 65536, 131072), (320, 163840, 262144), (528, 270336, 524288), (1536, 524288, 1048576), (4095, 1048576, 16)] (.q 0 (.q 2 (.q 5 (.q 7 (.l 1 (.l 3 (.l 4 (.l 6 (.l 8 (.l 9 (.l 10 (.l 11 (.q 12 .done)))))))))))))) (.n)))
set_option maxRecDepth 100000 in
theorem c59 (arg0 arg1 : Value) (K : Value → WP) (w : World) (h : s59 Try.prog arg0 arg1 K w) : Runs Try.prog 59 [arg0, arg1] K w :=
  runs_of_E wide (fn := Try.f59) (c := Try.f59.body.getD .skip) 21 A59 [arg0, arg1] w K Try.func59 (by kernel_rfl) (by kernel_rfl) (by kernel_rfl) (by kernel_rfl)
    (Eq.mp (by kernel_rfl : s59 Try.prog arg0 arg1 K w = E Try.prog (Try.f59.body.getD .skip) A59 (topK Try.prog K Try.f59.results) (fun i => (([arg0, arg1] : List Value)[i]?).getD undef) w) h)
theorem ct59 {arg0 arg1 : Value} {h : Hp} {post : Hp → Value → Prop} (hg : ∀ w0, Gs w0 h h [] (s59 Try.prog arg0 arg1 (RetP w0 h post))) : Ct Try.prog 59 [arg0, arg1] h post := Ct.of (sf := s59 Try.prog arg0 arg1) (c59 arg0 arg1) hg
theorem in59 {arg0 arg1 : Value} {S : WP} {K : Value → WP} (hg : G S (s59 Try.prog arg0 arg1 K)) : G S (Do Try.prog (vCall (.func (.func 59) #[] ⟨[]⟩) [arg0, arg1]) K) := Gs.into (args := [arg0, arg1]) (caps := []) (sf := s59 Try.prog arg0 arg1) (c59 arg0 arg1) hg

/- skewer/dyad.Between : names 0 a, 1 b, 2 a, 3 b, 6 out, 7 found, 8 exp, 9 low, 10 high, 11 _, 12 n, 13 x -/
def s60 (P : Program) (arg0 arg1 : Value) (K : Value → WP) : WP :=
  Do P (V (Instr.box 40 arg0)) fun a1 =>
  Do P (V (Instr.box 40 arg1)) fun b2 =>
  Do P (V (Instr.alloc 40 true (.tuple #[]))) fun t3_4 =>
  Do P (V (Instr.alloc 40 true (.tuple #[]))) fun out4 =>
  Jn (α := Value) (fun j5 => Jk fun _ => -- found
   Do P (V (Op.unary .not j5)) fun t6_70 =>
   If t6_70 (
    Do P (vBuild 40 []) fun t7_71 =>
    Do P (U (Instr.storeAt 40 t3_4 t7_71)) fun t8_x =>
    RetC P 40 t3_4 fun r => K (.tuple #[r, (.int .i64 190)])
   ) (
    Do P (V (Instr.loadAt 40 out4)) fun t9_72 =>
    Do P (U (Instr.storeAt 40 t3_4 t9_72)) fun t10_x =>
    RetC P 40 t3_4 fun r => K (.tuple #[r, (.int .i64 0)])
   )
  ) fun k5 =>
  Lp (α := Value × Value) (fun c11 s11 => Jk fun _ => -- found t14
   Do P (V (binOp .lss 3 s11.2 (.int .i64 31))) fun t12_15 =>
   If t12_15 (
    Jn (α := Value) (fun j13 => Jk fun _ => -- found
     Do P (V (binOp .add 3 s11.2 (.int .i64 1))) fun t14_68 =>
     c11 (j13, t14_68)
    ) fun k13 =>
    Do P (V (Instr.loadAt 40 a1)) fun t15_17 =>
    Do P (vCall (.func (.func 76) #[] ⟨[]⟩) [t15_17, s11.2]) fun t16_19 =>
    Do P (V (binOp .add 3 t16_19 (.int .i64 1))) fun t17_20 =>
    Do P (vBuiltin .max #[3, 3] 3 [t17_20, (.int .i64 (-1099511627776))]) fun t18_21 =>
    Do P (V (Instr.loadAt 40 b2)) fun t19_22 =>
    Do P (vCall (.func (.func 78) #[] ⟨[]⟩) [t19_22]) fun t20_23 =>
    Do P (vCall (.func (.func 76) #[] ⟨[]⟩) [t20_23, s11.2]) fun t21_25 =>
    Do P (V (Op.unary .neg t21_25)) fun t22_26 =>
    Do P (V (binOp .sub 3 t22_26 (.int .i64 1))) fun t23_27 =>
    Do P (vBuiltin .min #[3, 3] 3 [t23_27, (.int .i64 1099511627776)]) fun t24_28 =>
    Do P (V (binOp .gtr 3 t18_21 t24_28)) fun t25_31 =>
    If t25_31 (
     k13 s11.1
    ) (
     Do P (vBuild 123 [(0, (.int .i64 0)), (1, t18_21), (2, t24_28)]) fun t26_34 =>
     Lp (α := Value × Value) (fun c27 s27 => Jk fun _ => -- found t35
      Do P (V (binOp .lss 3 s27.2 (.int .i64 3))) fun t28_36 =>
      If t28_36 (
       Jn (α := Value) (fun j29 => Jk fun _ => -- found
        Do P (V (binOp .add 3 s27.2 (.int .i64 1))) fun t30_66 =>
        c27 (j29, t30_66)
       ) fun k29 =>
       Do P (V (Instr.index 123 t26_34 s27.2)) fun t31_37 =>
       Do P (vBuild 40 [(0, t31_37), (1, s11.2)]) fun t32_40 =>
       Do P (V (Instr.alloc 40 true (.tuple #[]))) fun x33 =>
       Do P (U (Instr.storeAt 40 x33 t32_40)) fun t34_x =>
       Jn (α := Value) (fun j35 => Jk fun _ => -- t64
        If j35 (
         Do P (V (Instr.loadAt 40 x33)) fun t36_65 =>
         Do P (U (Instr.storeAt 40 out4 t36_65)) fun t37_x =>
         k29 (.bool true)
        ) (
         k29 s27.1
        )
       ) fun k35 =>
       Dr <|
       Qk P (V (binOp .leq 3 t18_21 t31_37)) fun C38 t38_43 =>
       Gd t38_43 true (
        Qk P (V (binOp .leq 3 t31_37 t24_28)) fun C39 t39_47 =>
        Gd t39_47 true (
         Qk P (V (Instr.loadAt 40 x33)) fun C40 t40_50 =>
         Do P (vCall (.func (.func 40) #[] ⟨[]⟩) [t40_50]) fun t41_51 =>
         Gd t41_51 true (
          Qk P (V (Op.unary .not s27.1)) fun C42 t42_55 =>
          Gd t42_55 false (
           Qk P (V (Instr.fieldAt 40 out4 0)) fun C43 t43_59 =>
           Qk P (V (Instr.loadAt 3 t43_59)) fun C44 t44_60 =>
           Do P (vCall (.func (.func 79) #[] ⟨[]⟩) [t31_37]) fun t45_58 =>
           With C44 <|
           With C43 <|
           Do P (vCall (.func (.func 79) #[] ⟨[]⟩) [t44_60]) fun t46_61 =>
           Qk P (V (binOp .lss 3 t45_58 t46_61)) fun C47 t47_62 =>
           k35 t47_62
          ) (
           k35 (.bool true)
          )
         ) (
          k35 (.bool false)
         )
        ) (
         k35 (.bool false)
        )
       ) (
        k35 (.bool false)
       )
      ) (
       If s27.1 (
        k5 s27.1
       ) (
        k13 s27.1
       )
      )
     ) (s11.1, (.int .i64 0))
    )
   ) (
    k5 s11.1
   )
  ) ((.bool false), (.int .i64 0))
def A60 : Ann := .s (.n) (.s (.n) (.s (.n) (.s (.n) (.j [7] 590295810358705649536 (.s (.n) (.lp [7, 14] 590295810358705649536 (.s (.n) (.s (.s (.n) (.n)) (.j [7] 295147905179352774528 (.s (.n) (.s (.n) (.s (.n) (.s (.s (.n) (.s (.n) (.n))) (.s (.s (.n) (.lp [7, 35] 147573952555316686976 (.s (.n) (.s (.s (.n) (.n)) (.j [7] 73786976157399265408 (.s (.n) (.s (.n) (.j [64] 36893485948395847680 (.plan [(0, 512, 2199023255552), (0, 4096, 4398046511104), (3, 6597069766656, 8796093022208), (4, 8796093022208, 17592186044416), (8, 17592186048512, 35184372088832), (8, 17592186045440, 70368744177664), (56, 123145302310912, 140737488355328), (72, 158329674399744, 281474976710656), (136, 281474976710656, 562949953421312), (256, 562949953429504, 1125899906842624), (768, 1688849860263936, 2251799813685248), (1280, 2814749767106560, 4503599627370496), (3072, 4503599627370496, 9007199254740992), (4096, 9007199254741120, 18014398509481984), (12288, 27021597764222976, 36028797018963968), (20480, 45035996273704960, 72057594037927936), (32768, 72057594037932032, 144115188075855872), (98304, 216172782113783808, 288230376151711744), (32768, 72057594037928000, 576460752303423488), (294912, 648518346341351424, 1152921504606846976), (688128, 1224979098644774912, 2305843009213693952), (1212416, 2666130979403333632, 4611686018427387904), (2134016, 4692750811720056832, 9223372036854775808), (4198400, 9232379236109516800, 18446744073709551616)] (.q 0 (.q 1 (.q 2 (.q 3 (.q 4 (.q 5 (.q 6 (.q 7 (.q 8 (.q 9 (.l 10 (.q 11 (.q 12 (.q 13 (.q 14 (.q 15 (.q 16 (.q 18 (.q 19 (.l 17 (.l 20 (.q 21 (.q 22 (.q 23 .done))))))))))))))))))))))))) (.s (.n) (.n))))) (.n)))))) (.s (.n) (.s (.n) (.n)))))))) (.n)))))) (.s (.s (.n) (.s (.s (.n) (.n)) (.n))) (.s (.n) (.n)))))))
set_option maxRecDepth 100000 in
theorem c60 (arg0 arg1 : Value) (K : Value → WP) (w : World) (h : s60 Try.prog arg0 arg1 K w) : Runs Try.prog 60 [arg0, arg1] K w :=
  runs_of_E wide (fn := Try.f60) (c := Try.f60.body.getD .skip) 73 A60 [arg0, arg1] w K Try.func60 (by kernel_rfl) (by kernel_rfl) (by kernel_rfl) (by kernel_rfl)
    (Eq.mp (by kernel_rfl : s60 Try.prog arg0 arg1 K w = E Try.prog (Try.f60.body.getD .skip) A60 (topK Try.prog K Try.f60.results) (fun i => (([arg0, arg1] : List Value)[i]?).getD undef) w) h)
theorem ct60 {arg0 arg1 : Value} {h : Hp} {post : Hp → Value → Prop} (hg : ∀ w0, Gs w0 h h [] (s60 Try.prog arg0 arg1 (RetP w0 h post))) : Ct Try.prog 60 [arg0, arg1] h post := Ct.of (sf := s60 Try.prog arg0 arg1) (c60 arg0 arg1) hg
theorem in60 {arg0 arg1 : Value} {S : WP} {K : Value → WP} (hg : G S (s60 Try.prog arg0 arg1 K)) : G S (Do Try.prog (vCall (.func (.func 60) #[] ⟨[]⟩) [arg0, arg1]) K) := Gs.into (args := [arg0, arg1]) (caps := []) (sf := s60 Try.prog arg0 arg1) (c60 arg0 arg1) hg

/- (*skewer/value.book).make$1 : names 0 list, 2 list, 3 i, 4 n -/
def s61 (P : Program) (arg0 arg1 : Value) (K : Value → WP) : WP :=
  Do P (vBuiltin .len #[69] 3 [arg0]) fun t1_6 =>
  Lp (α := Value) (fun c2 s2 => Jk fun _ => -- t7
   Do P (V (binOp .lss 3 s2 t1_6)) fun t3_8 =>
   If t3_8 (
    Do P (V (Instr.indexAt 69 arg0 s2)) fun t4_10 =>
    Do P (V (Instr.loadAt 63 t4_10)) fun t5_11 =>
    Jn (α := Unit) (fun j6 => Jk fun _ => -- 
     Do P (vNil t5_11) fun t7_16 =>
     Do P (V (Instr.fieldAt 71 t7_16 0)) fun t8_17 =>
     Do P (V (Instr.loadAt 9 t8_17)) fun t9_18 =>
     Do P (vCall (.func (.func 63) #[] ⟨[]⟩) [arg1, t9_18]) fun t10_19 =>
     Do P (V (binOp .add 3 s2 (.int .i64 1))) fun t11_20 =>
     c2 t11_20
    ) fun k6 =>
    Do P (V (binOp .gtr 3 s2 (.int .i64 0))) fun t12_13 =>
    If t12_13 (
     Do P (vCall (.func (.func 62) #[] ⟨[]⟩) [arg1, (.int .u8 44)]) fun t13_14 =>
     k6 ()
    ) (
     k6 ()
    )
   ) (
    K (.tuple #[])
   )
  ) (.int .i64 0)
def A61 : Ann := .s (.n) (.lp [7] 2097048 (.s (.n) (.s (.s (.n) (.n)) (.s (.s (.n) (.j [] 28672 (.s (.n) (.s (.n) (.n))) (.n))) (.n)))))
set_option maxRecDepth 100000 in
theorem c61 (arg0 arg1 : Value) (K : Value → WP) (w : World) (h : s61 Try.prog arg0 arg1 K w) : Runs Try.prog 61 [arg0, arg1] K w :=
  runs_of_E wide (fn := Try.f61) (c := Try.f61.body.getD .skip) 21 A61 [arg0, arg1] w K Try.func61 (by kernel_rfl) (by kernel_rfl) (by kernel_rfl) (by kernel_rfl)
    (Eq.mp (by kernel_rfl : s61 Try.prog arg0 arg1 K w = E Try.prog (Try.f61.body.getD .skip) A61 (topK Try.prog K Try.f61.results) (fun i => (([arg0, arg1] : List Value)[i]?).getD undef) w) h)
theorem ct61 {arg0 arg1 : Value} {h : Hp} {post : Hp → Value → Prop} (hg : ∀ w0, Gs w0 h h [] (s61 Try.prog arg0 arg1 (RetP w0 h post))) : Ct Try.prog 61 [arg0, arg1] h post := Ct.of (sf := s61 Try.prog arg0 arg1) (c61 arg0 arg1) hg
theorem in61 {arg0 arg1 : Value} {S : WP} {K : Value → WP} (hg : G S (s61 Try.prog arg0 arg1 K)) : G S (Do Try.prog (vCall (.func (.func 61) #[] ⟨[arg1]⟩) [arg0]) K) := Gs.into (args := [arg0]) (caps := [arg1]) (sf := s61 Try.prog arg0 arg1) (c61 arg0 arg1) hg

/- slices.IndexFunc[[]*skewer/value.node,*skewer/value.node] : names 0 s, 1 f, 2 s, 3 f, 5 i -/
def s65 (P : Program) (arg0 arg1 : Value) (K : Value → WP) : WP :=
  Do P (vBuiltin .len #[69] 3 [arg0]) fun t1_7 =>
  Lp (α := Value) (fun c2 s2 => Jk fun _ => -- t8
   Do P (V (binOp .lss 3 s2 t1_7)) fun t3_9 =>
   If t3_9 (
    Do P (V (Instr.indexAt 69 arg0 s2)) fun t4_14 =>
    Do P (V (Instr.loadAt 63 t4_14)) fun t5_15 =>
    Do P (vCall arg1 [t5_15]) fun t6_16 =>
    If t6_16 (
     K s2
    ) (
     Do P (V (binOp .add 3 s2 (.int .i64 1))) fun t7_18 =>
     c2 t7_18
    )
   ) (
    K (.int .i64 (-1))
   )
  ) (.int .i64 0)
def A65 : Ann := .s (.n) (.s (.s (.n) (.lp [8] 524080 (.s (.n) (.s (.s (.n) (.n)) (.s (.s (.n) (.s (.n) (.s (.s (.n) (.n)) (.n)))) (.n)))))) (.s (.n) (.n)))
set_option maxRecDepth 100000 in
theorem c65 (arg0 arg1 : Value) (K : Value → WP) (w : World) (h : s65 Try.prog arg0 arg1 K w) : Runs Try.prog 65 [arg0, arg1] K w :=
  runs_of_E wide (fn := Try.f65) (c := Try.f65.body.getD .skip) 19 A65 [arg0, arg1] w K Try.func65 (by kernel_rfl) (by kernel_rfl) (by kernel_rfl) (by kernel_rfl)
    (Eq.mp (by kernel_rfl : s65 Try.prog arg0 arg1 K w = E Try.prog (Try.f65.body.getD .skip) A65 (topK Try.prog K Try.f65.results) (fun i => (([arg0, arg1] : List Value)[i]?).getD undef) w) h)
theorem ct65 {arg0 arg1 : Value} {h : Hp} {post : Hp → Value → Prop} (hg : ∀ w0, Gs w0 h h [] (s65 Try.prog arg0 arg1 (RetP w0 h post))) : Ct Try.prog 65 [arg0, arg1] h post := Ct.of (sf := s65 Try.prog arg0 arg1) (c65 arg0 arg1) hg
theorem in65 {arg0 arg1 : Value} {S : WP} {K : Value → WP} (hg : G S (s65 Try.prog arg0 arg1 K)) : G S (Do Try.prog (vCall (.func (.func 65) #[] ⟨[]⟩) [arg0, arg1]) K) := Gs.into (args := [arg0, arg1]) (caps := []) (sf := s65 Try.prog arg0 arg1) (c65 arg0 arg1) hg

/- (*skewer/value.book).bypass$1 : names 0 z, 3 z -/
def s66 (P : Program) (arg0 arg1 arg2 : Value) (K : Value → WP) : WP :=
  Do P (V (Instr.loadAt 60 arg1)) fun t1_5 =>
  Do P (V (Instr.loadAt 63 arg2)) fun t2_7 =>
  Do P (vCall (.func (.func 34) #[] ⟨[]⟩) [t1_5, arg0, t2_7]) fun t3_8 =>
  K t3_8
def A66 : Ann := .s (.n) (.s (.n) (.n))
set_option maxRecDepth 100000 in
theorem c66 (arg0 arg1 arg2 : Value) (K : Value → WP) (w : World) (h : s66 Try.prog arg0 arg1 arg2 K w) : Runs Try.prog 66 [arg0, arg1, arg2] K w :=
  runs_of_E wide (fn := Try.f66) (c := Try.f66.body.getD .skip) 9 A66 [arg0, arg1, arg2] w K Try.func66 (by kernel_rfl) (by kernel_rfl) (by kernel_rfl) (by kernel_rfl)
    (Eq.mp (by kernel_rfl : s66 Try.prog arg0 arg1 arg2 K w = E Try.prog (Try.f66.body.getD .skip) A66 (topK Try.prog K Try.f66.results) (fun i => (([arg0, arg1, arg2] : List Value)[i]?).getD undef) w) h)
theorem ct66 {arg0 arg1 arg2 : Value} {h : Hp} {post : Hp → Value → Prop} (hg : ∀ w0, Gs w0 h h [] (s66 Try.prog arg0 arg1 arg2 (RetP w0 h post))) : Ct Try.prog 66 [arg0, arg1, arg2] h post := Ct.of (sf := s66 Try.prog arg0 arg1 arg2) (c66 arg0 arg1 arg2) hg
theorem in66 {arg0 arg1 arg2 : Value} {S : WP} {K : Value → WP} (hg : G S (s66 Try.prog arg0 arg1 arg2 K)) : G S (Do Try.prog (vCall (.func (.func 66) #[] ⟨[arg1, arg2]⟩) [arg0]) K) := Gs.into (args := [arg0]) (caps := [arg1, arg2]) (sf := s66 Try.prog arg0 arg1 arg2) (c66 arg0 arg1 arg2) hg

/- slices.Concat[[]*skewer/value.node,*skewer/value.node] : names 0 slices, 1 slices, 3 size, 4 _, 5 s, 6 newslice, 7 _, 8 s -/
def s67 (P : Program) (arg0 : Value) (K : Value → WP) : WP :=
  Do P (vBuiltin .len #[125] 3 [arg0]) fun t1_10 =>
  Lp (α := Value × Value) (fun c2 s2 => Jk fun _ => -- size t11
   Do P (V (binOp .lss 3 s2.2 t1_10)) fun t3_12 =>
   If t3_12 (
    Jn (α := Value) (fun j4 => Jk fun _ => -- size
     Do P (V (binOp .add 3 s2.2 (.int .i64 1))) fun t5_22 =>
     c2 (j4, t5_22)
    ) fun k4 =>
    Do P (V (Instr.indexAt 125 arg0 s2.2)) fun t6_13 =>
    Do P (V (Instr.loadAt 69 t6_13)) fun t7_14 =>
    Do P (vBuiltin .len #[69] 3 [t7_14]) fun t8_17 =>
    Do P (V (binOp .add 3 s2.1 t8_17)) fun t9_18 =>
    Do P (V (binOp .lss 3 t9_18 (.int .i64 0))) fun t10_20 =>
    If t10_20 (
     Do P (V (Instr.makeInterface 9 (.string ⟨#[108, 101, 110, 32, 111, 117, 116, 32, 111, 102, 32, 114, 97, 110, 103, 101]⟩))) fun t11_21 =>
     Do P (V (Instr.panic t11_21)) fun t12_x =>
     k4 t9_18
    ) (
     k4 t9_18
    )
   ) (
    Do P (vCall (.func (.func 81) #[] ⟨[]⟩) [(.slice none 0 0), s2.1]) fun t13_24 =>
    Do P (vBuiltin .len #[125] 3 [arg0]) fun t14_26 =>
    Lp (α := Value × Value) (fun c15 s15 => Jk fun _ => -- newslice t27
     Do P (V (binOp .lss 3 s15.2 t14_26)) fun t16_28 =>
     If t16_28 (
      Do P (V (Instr.indexAt 125 arg0 s15.2)) fun t17_29 =>
      Do P (V (Instr.loadAt 69 t17_29)) fun t18_30 =>
      Do P (vBuiltin .append #[69, 69] 69 [s15.1, t18_30]) fun t19_33 =>
      Do P (V (binOp .add 3 s15.2 (.int .i64 1))) fun t20_34 =>
      c15 (t19_33, t20_34)
     ) (
      K s15.1
     )
    ) (t13_24, (.int .i64 0))
   )
  ) ((.int .i64 0), (.int .i64 0))
def A67 : Ann := .s (.n) (.s (.n) (.s (.s (.n) (.lp [3, 11] 8386600 (.s (.n) (.s (.s (.n) (.n)) (.j [3] 4186152 (.s (.n) (.s (.n) (.s (.n) (.s (.n) (.n))))) (.n)))))) (.s (.n) (.s (.s (.n) (.lp [6, 27] 34225520960 (.s (.n) (.s (.s (.n) (.n)) (.s (.s (.n) (.n)) (.n)))))) (.s (.n) (.n))))))
set_option maxRecDepth 100000 in
theorem c67 (arg0 : Value) (K : Value → WP) (w : World) (h : s67 Try.prog arg0 K w) : Runs Try.prog 67 [arg0] K w :=
  runs_of_E wide (fn := Try.f67) (c := Try.f67.body.getD .skip) 36 A67 [arg0] w K Try.func67 (by kernel_rfl) (by kernel_rfl) (by kernel_rfl) (by kernel_rfl)
    (Eq.mp (by kernel_rfl : s67 Try.prog arg0 K w = E Try.prog (Try.f67.body.getD .skip) A67 (topK Try.prog K Try.f67.results) (fun i => (([arg0] : List Value)[i]?).getD undef) w) h)
theorem ct67 {arg0 : Value} {h : Hp} {post : Hp → Value → Prop} (hg : ∀ w0, Gs w0 h h [] (s67 Try.prog arg0 (RetP w0 h post))) : Ct Try.prog 67 [arg0] h post := Ct.of (sf := s67 Try.prog arg0) (c67 arg0) hg
theorem in67 {arg0 : Value} {S : WP} {K : Value → WP} (hg : G S (s67 Try.prog arg0 K)) : G S (Do Try.prog (vCall (.func (.func 67) #[] ⟨[]⟩) [arg0]) K) := Gs.into (args := [arg0]) (caps := []) (sf := s67 Try.prog arg0) (c67 arg0) hg

/- (*skewer/value.book).turn$1 : names 0 z, 3 z -/
def s68 (P : Program) (arg0 arg1 arg2 : Value) (K : Value → WP) : WP :=
  Do P (V (Instr.loadAt 60 arg1)) fun t1_5 =>
  Do P (V (Instr.loadAt 63 arg2)) fun t2_6 =>
  Do P (vCall (.func (.func 34) #[] ⟨[]⟩) [t1_5, t2_6, arg0]) fun t3_8 =>
  K t3_8
def A68 : Ann := .s (.n) (.s (.n) (.n))
set_option maxRecDepth 100000 in
theorem c68 (arg0 arg1 arg2 : Value) (K : Value → WP) (w : World) (h : s68 Try.prog arg0 arg1 arg2 K w) : Runs Try.prog 68 [arg0, arg1, arg2] K w :=
  runs_of_E wide (fn := Try.f68) (c := Try.f68.body.getD .skip) 9 A68 [arg0, arg1, arg2] w K Try.func68 (by kernel_rfl) (by kernel_rfl) (by kernel_rfl) (by kernel_rfl)
    (Eq.mp (by kernel_rfl : s68 Try.prog arg0 arg1 arg2 K w = E Try.prog (Try.f68.body.getD .skip) A68 (topK Try.prog K Try.f68.results) (fun i => (([arg0, arg1, arg2] : List Value)[i]?).getD undef) w) h)
theorem ct68 {arg0 arg1 arg2 : Value} {h : Hp} {post : Hp → Value → Prop} (hg : ∀ w0, Gs w0 h h [] (s68 Try.prog arg0 arg1 arg2 (RetP w0 h post))) : Ct Try.prog 68 [arg0, arg1, arg2] h post := Ct.of (sf := s68 Try.prog arg0 arg1 arg2) (c68 arg0 arg1 arg2) hg
theorem in68 {arg0 arg1 arg2 : Value} {S : WP} {K : Value → WP} (hg : G S (s68 Try.prog arg0 arg1 arg2 K)) : G S (Do Try.prog (vCall (.func (.func 68) #[] ⟨[arg1, arg2]⟩) [arg0]) K) := Gs.into (args := [arg0]) (caps := [arg1, arg2]) (sf := s68 Try.prog arg0 arg1 arg2) (c68 arg0 arg1 arg2) hg

/- skewer/value.best$1 : names 0 x, 1 y, 2 x, 3 y -/
def s70 (P : Program) (arg0 arg1 : Value) (K : Value → WP) : WP :=
  Dr <|
  Qk P (vNil arg0) fun C1 t1_6 =>
  Qk P (V (Instr.fieldAt 71 t1_6 0)) fun C2 t2_7 =>
  Qk P (V (Instr.loadAt 9 t2_7)) fun C3 t3_8 =>
  Qk P (vNil arg1) fun C4 t4_10 =>
  Qk P (V (Instr.fieldAt 71 t4_10 0)) fun C5 t5_11 =>
  Qk P (V (Instr.loadAt 9 t5_11)) fun C6 t6_12 =>
  Do P (vCall (.func (.func 71) #[] ⟨[]⟩) [t3_8, t6_12]) fun t7_13 =>
  K t7_13
def A70 : Ann := .s (.n) (.s (.plan [(0, 1, 32), (1, 32, 64), (2, 64, 128), (4, 128, 256), (0, 2, 512), (16, 512, 1024), (32, 1024, 2048), (64, 2048, 4096), (136, 4352, 8192), (511, 8192, 16)] (.q 0 (.q 1 (.q 2 (.q 3 (.q 4 (.q 5 (.q 6 (.q 7 (.l 8 (.q 9 .done))))))))))) (.n))
set_option maxRecDepth 100000 in
theorem c70 (arg0 arg1 : Value) (K : Value → WP) (w : World) (h : s70 Try.prog arg0 arg1 K w) : Runs Try.prog 70 [arg0, arg1] K w :=
  runs_of_E wide (fn := Try.f70) (c := Try.f70.body.getD .skip) 14 A70 [arg0, arg1] w K Try.func70 (by kernel_rfl) (by kernel_rfl) (by kernel_rfl) (by kernel_rfl)
    (Eq.mp (by kernel_rfl : s70 Try.prog arg0 arg1 K w = E Try.prog (Try.f70.body.getD .skip) A70 (topK Try.prog K Try.f70.results) (fun i => (([arg0, arg1] : List Value)[i]?).getD undef) w) h)
theorem ct70 {arg0 arg1 : Value} {h : Hp} {post : Hp → Value → Prop} (hg : ∀ w0, Gs w0 h h [] (s70 Try.prog arg0 arg1 (RetP w0 h post))) : Ct Try.prog 70 [arg0, arg1] h post := Ct.of (sf := s70 Try.prog arg0 arg1) (c70 arg0 arg1) hg
theorem in70 {arg0 arg1 : Value} {S : WP} {K : Value → WP} (hg : G S (s70 Try.prog arg0 arg1 K)) : G S (Do Try.prog (vCall (.func (.func 70) #[] ⟨[]⟩) [arg0, arg1]) K) := Gs.into (args := [arg0, arg1]) (caps := []) (sf := s70 Try.prog arg0 arg1) (c70 arg0 arg1) hg

/- skewer/value.lowest : names 0 num, 1 exp, 2 num, 3 exp -/
def s72 (P : Program) (arg0 arg1 : Value) (K : Value → WP) : WP :=
  Do P (V (Instr.alloc 40 true (.tuple #[]))) fun t1_4 =>
  Lp (α := Value × Value) (fun c2 s2 => Jk fun _ => -- num exp
   Jn (α := Value) (fun j3 => Jk fun _ => -- t11
    If j3 (
     Do P (V (binOp .quo 3 s2.1 (.int .i64 2))) fun t4_13 =>
     Do P (V (binOp .sub 3 s2.2 (.int .i64 1))) fun t5_15 =>
     c2 (t4_13, t5_15)
    ) (
     Do P (vBuild 40 [(0, s2.1), (1, s2.2)]) fun t6_18 =>
     Do P (U (Instr.storeAt 40 t1_4 t6_18)) fun t7_x =>
     RetC P 40 t1_4 K
    )
   ) fun k3 =>
   Do P (V (binOp .gtr 3 s2.2 (.int .i64 0))) fun t8_6 =>
   Gd t8_6 true (
    Do P (V (binOp .rem 3 s2.1 (.int .i64 2))) fun t9_9 =>
    Do P (V (EqG .eql 3 (.tmp 9) (.const (.int .i64 0)) t9_9 (.int .i64 0))) fun t10_10 =>
    k3 t10_10
   ) (
    k3 (.bool false)
   )
  ) (arg0, arg1)
def A72 : Ann := .s (.n) (.s (.lp [0, 1] 65507 (.s (.j [11] 4064 (.n) (.s (.n) (.n))) (.n))) (.s (.n) (.n)))
set_option maxRecDepth 100000 in
theorem c72 (arg0 arg1 : Value) (K : Value → WP) (w : World) (h : s72 Try.prog arg0 arg1 K w) : Runs Try.prog 72 [arg0, arg1] K w :=
  runs_of_E wide (fn := Try.f72) (c := Try.f72.body.getD .skip) 19 A72 [arg0, arg1] w K Try.func72 (by kernel_rfl) (by kernel_rfl) (by kernel_rfl) (by kernel_rfl)
    (Eq.mp (by kernel_rfl : s72 Try.prog arg0 arg1 K w = E Try.prog (Try.f72.body.getD .skip) A72 (topK Try.prog K Try.f72.results) (fun i => (([arg0, arg1] : List Value)[i]?).getD undef) w) h)
theorem ct72 {arg0 arg1 : Value} {h : Hp} {post : Hp → Value → Prop} (hg : ∀ w0, Gs w0 h h [] (s72 Try.prog arg0 arg1 (RetP w0 h post))) : Ct Try.prog 72 [arg0, arg1] h post := Ct.of (sf := s72 Try.prog arg0 arg1) (c72 arg0 arg1) hg
theorem in72 {arg0 arg1 : Value} {S : WP} {K : Value → WP} (hg : G S (s72 Try.prog arg0 arg1 K)) : G S (Do Try.prog (vCall (.func (.func 72) #[] ⟨[]⟩) [arg0, arg1]) K) := Gs.into (args := [arg0, arg1]) (caps := []) (sf := s72 Try.prog arg0 arg1) (c72 arg0 arg1) hg

/- skewer/skewerref19.Valid : names 0 x, 1 x -/
def s73 (P : Program) (arg0 : Value) (K : Value → WP) : WP :=
  Do P (V (Instr.box 40 arg0)) fun x1 =>
  Jn (α := Value) (fun j2 => Jk fun _ => -- t20
   If j2 (
    K (.bool false)
   ) (
    Do P (V (Instr.fieldAt 40 x1 1)) fun t3_21 =>
    Do P (V (Instr.loadAt 3 t3_21)) fun t4_22 =>
    Do P (V (EqG .eql 3 (.tmp 22) (.const (.int .i64 0)) t4_22 (.int .i64 0))) fun t5_23 =>
    Gd t5_23 false (
     Do P (V (Instr.fieldAt 40 x1 0)) fun t6_25 =>
     Do P (V (Instr.loadAt 3 t6_25)) fun t7_26 =>
     Do P (V (binOp .rem 3 t7_26 (.int .i64 2))) fun t8_27 =>
     Do P (V (EqG .neq 3 (.tmp 27) (.const (.int .i64 0)) t8_27 (.int .i64 0))) fun t9_28 =>
     K t9_28
    ) (
     K (.bool true)
    )
   )
  ) fun k2 =>
  Do P (V (Instr.fieldAt 40 x1 1)) fun t10_3 =>
  Do P (V (Instr.loadAt 3 t10_3)) fun t11_4 =>
  Do P (V (binOp .lss 3 t11_4 (.int .i64 0))) fun t12_5 =>
  Gd t12_5 false (
   Do P (V (Instr.fieldAt 40 x1 1)) fun t13_7 =>
   Do P (V (Instr.loadAt 3 t13_7)) fun t14_8 =>
   Do P (V (binOp .gtr 3 t14_8 (.int .i64 30))) fun t15_9 =>
   Gd t15_9 false (
    Do P (V (Instr.fieldAt 40 x1 0)) fun t16_12 =>
    Do P (V (Instr.loadAt 3 t16_12)) fun t17_13 =>
    Do P (V (binOp .lss 3 t17_13 (.int .i64 (-1099511627776)))) fun t18_14 =>
    Gd t18_14 false (
     Do P (V (Instr.fieldAt 40 x1 0)) fun t19_17 =>
     Do P (V (Instr.loadAt 3 t19_17)) fun t20_18 =>
     Do P (V (binOp .gtr 3 t20_18 (.int .i64 1099511627776))) fun t21_19 =>
     k2 t21_19
    ) (
     k2 (.bool true)
    )
   ) (
    k2 (.bool true)
   )
  ) (
   k2 (.bool true)
  )
def A73 : Ann := .s (.n) (.s (.j [20] 2097144 (.n) (.s (.s (.n) (.n)) (.n))) (.s (.n) (.n)))
set_option maxRecDepth 100000 in
theorem c73 (arg0 : Value) (K : Value → WP) (w : World) (h : s73 Try.prog arg0 K w) : Runs Try.prog 73 [arg0] K w :=
  runs_of_E wide (fn := Try.f73) (c := Try.f73.body.getD .skip) 30 A73 [arg0] w K Try.func73 (by kernel_rfl) (by kernel_rfl) (by kernel_rfl) (by kernel_rfl)
    (Eq.mp (by kernel_rfl : s73 Try.prog arg0 K w = E Try.prog (Try.f73.body.getD .skip) A73 (topK Try.prog K Try.f73.results) (fun i => (([arg0] : List Value)[i]?).getD undef) w) h)
theorem ct73 {arg0 : Value} {h : Hp} {post : Hp → Value → Prop} (hg : ∀ w0, Gs w0 h h [] (s73 Try.prog arg0 (RetP w0 h post))) : Ct Try.prog 73 [arg0] h post := Ct.of (sf := s73 Try.prog arg0) (c73 arg0) hg
theorem in73 {arg0 : Value} {S : WP} {K : Value → WP} (hg : G S (s73 Try.prog arg0 K)) : G S (Do Try.prog (vCall (.func (.func 73) #[] ⟨[]⟩) [arg0]) K) := Gs.into (args := [arg0]) (caps := []) (sf := s73 Try.prog arg0) (c73 arg0) hg

/- (skewer/dyad.number).floor : names 0 x, 1 exp, 2 x, 3 exp, 5 shift, 6 most -/
def s76 (P : Program) (arg0 arg1 : Value) (K : Value → WP) : WP :=
  Do P (V (Instr.box 119 arg0)) fun x1 =>
  Do P (V (Instr.fieldAt 119 x1 1)) fun t2_8 =>
  Do P (V (Instr.loadAt 3 t2_8)) fun t3_9 =>
  Do P (V (binOp .leq 3 arg1 t3_9)) fun t4_10 =>
  If t4_10 (
   Do P (V (Instr.fieldAt 119 x1 0)) fun t5_11 =>
   Do P (V (Instr.loadAt 3 t5_11)) fun t6_12 =>
   Do P (V (Instr.fieldAt 119 x1 1)) fun t7_13 =>
   Do P (V (Instr.loadAt 3 t7_13)) fun t8_14 =>
   Do P (V (binOp .sub 3 t8_14 arg1)) fun t9_16 =>
   Do P (V (binOp .shr 3 t6_12 t9_16)) fun t10_17 =>
   K t10_17
  ) (
   Do P (V (Instr.fieldAt 119 x1 1)) fun t11_19 =>
   Do P (V (Instr.loadAt 3 t11_19)) fun t12_20 =>
   Do P (V (binOp .sub 3 arg1 t12_20)) fun t13_21 =>
   Do P (V (binOp .shr 3 (.int .i64 1099511627776) t13_21)) fun t14_23 =>
   Do P (V (Instr.fieldAt 119 x1 0)) fun t15_25 =>
   Do P (V (Instr.loadAt 3 t15_25)) fun t16_26 =>
   Do P (V (binOp .gtr 3 t16_26 t14_23)) fun t17_28 =>
   If t17_28 (
    K (.int .i64 1099511627777)
   ) (
    Do P (V (Instr.fieldAt 119 x1 0)) fun t18_30 =>
    Do P (V (Instr.loadAt 3 t18_30)) fun t19_31 =>
    Do P (V (Op.unary .neg t14_23)) fun t20_33 =>
    Do P (V (binOp .lss 3 t19_31 t20_33)) fun t21_34 =>
    If t21_34 (
     K (.int .i64 (-1099511627778))
    ) (
     Do P (V (Instr.fieldAt 119 x1 0)) fun t22_35 =>
     Do P (V (Instr.loadAt 3 t22_35)) fun t23_36 =>
     Do P (V (binOp .shl 3 t23_36 t13_21)) fun t24_38 =>
     K t24_38
    )
   )
  )
def A76 : Ann := .s (.n) (.s (.s (.n) (.s (.s (.n) (.n)) (.n))) (.s (.n) (.s (.s (.n) (.s (.n) (.s (.s (.n) (.n)) (.s (.n) (.s (.s (.n) (.n)) (.n)))))) (.s (.n) (.n)))))
set_option maxRecDepth 100000 in
theorem c76 (arg0 arg1 : Value) (K : Value → WP) (w : World) (h : s76 Try.prog arg0 arg1 K w) : Runs Try.prog 76 [arg0, arg1] K w :=
  runs_of_E wide (fn := Try.f76) (c := Try.f76.body.getD .skip) 39 A76 [arg0, arg1] w K Try.func76 (by kernel_rfl) (by kernel_rfl) (by kernel_rfl) (by kernel_rfl)
    (Eq.mp (by kernel_rfl : s76 Try.prog arg0 arg1 K w = E Try.prog (Try.f76.body.getD .skip) A76 (topK Try.prog K Try.f76.results) (fun i => (([arg0, arg1] : List Value)[i]?).getD undef) w) h)
theorem ct76 {arg0 arg1 : Value} {h : Hp} {post : Hp → Value → Prop} (hg : ∀ w0, Gs w0 h h [] (s76 Try.prog arg0 arg1 (RetP w0 h post))) : Ct Try.prog 76 [arg0, arg1] h post := Ct.of (sf := s76 Try.prog arg0 arg1) (c76 arg0 arg1) hg
theorem in76 {arg0 arg1 : Value} {S : WP} {K : Value → WP} (hg : G S (s76 Try.prog arg0 arg1 K)) : G S (Do Try.prog (vCall (.func (.func 76) #[] ⟨[]⟩) [arg0, arg1]) K) := Gs.into (args := [arg0, arg1]) (caps := []) (sf := s76 Try.prog arg0 arg1) (c76 arg0 arg1) hg

/- (skewer/dyad.number).rest : names 0 x, 1 x -/
def s77 (P : Program) (arg0 : Value) (K : Value → WP) : WP :=
  Do P (V (Instr.box 119 arg0)) fun x1 =>
  Dr <|
  Qk P (V (Instr.fieldAt 119 x1 0)) fun C2 t2_3 =>
  Qk P (V (Instr.loadAt 3 t2_3)) fun C3 t3_4 =>
  Qk P (V (Instr.fieldAt 119 x1 1)) fun C4 t4_5 =>
  Qk P (V (Instr.loadAt 3 t4_5)) fun C5 t5_6 =>
  Qk P (V (binOp .shl 3 (.int .i64 1) t5_6)) fun C6 t6_7 =>
  Qk P (V (binOp .sub 3 t6_7 (.int .i64 1))) fun C7 t7_8 =>
  Qk P (V (binOp .and 3 t3_4 t7_8)) fun C8 t8_9 =>
  Qk P (V (Instr.fieldAt 119 x1 1)) fun C9 t9_10 =>
  Qk P (V (Instr.loadAt 3 t9_10)) fun C10 t10_11 =>
  Qk P (V (binOp .sub 3 (.int .i64 30) t10_11)) fun C11 t11_12 =>
  Qk P (V (binOp .shl 3 t8_9 t11_12)) fun C12 t12_13 =>
  K t12_13
def A77 : Ann := .s (.n) (.s (.plan [(0, 2, 8), (1, 8, 16), (0, 2, 32), (4, 32, 64), (8, 64, 128), (16, 128, 256), (34, 272, 512), (0, 2, 1024), (128, 1024, 2048), (256, 2048, 4096), (576, 4608, 8192), (2047, 8192, 4)] (.q 0 (.q 1 (.q 2 (.q 3 (.q 4 (.q 5 (.q 6 (.q 7 (.q 8 (.q 9 (.q 10 (.q 11 .done))))))))))))) (.n))
set_option maxRecDepth 100000 in
theorem c77 (arg0 : Value) (K : Value → WP) (w : World) (h : s77 Try.prog arg0 K w) : Runs Try.prog 77 [arg0] K w :=
  runs_of_E wide (fn := Try.f77) (c := Try.f77.body.getD .skip) 14 A77 [arg0] w K Try.func77 (by kernel_rfl) (by kernel_rfl) (by kernel_rfl) (by kernel_rfl)
    (Eq.mp (by kernel_rfl : s77 Try.prog arg0 K w = E Try.prog (Try.f77.body.getD .skip) A77 (topK Try.prog K Try.f77.results) (fun i => (([arg0] : List Value)[i]?).getD undef) w) h)
theorem ct77 {arg0 : Value} {h : Hp} {post : Hp → Value → Prop} (hg : ∀ w0, Gs w0 h h [] (s77 Try.prog arg0 (RetP w0 h post))) : Ct Try.prog 77 [arg0] h post := Ct.of (sf := s77 Try.prog arg0) (c77 arg0) hg
theorem in77 {arg0 : Value} {S : WP} {K : Value → WP} (hg : G S (s77 Try.prog arg0 K)) : G S (Do Try.prog (vCall (.func (.func 77) #[] ⟨[]⟩) [arg0]) K) := Gs.into (args := [arg0]) (caps := []) (sf := s77 Try.prog arg0) (c77 arg0) hg

/- skewer/dyad.Neg : names 0 x, 1 x -/
def s78 (P : Program) (arg0 : Value) (K : Value → WP) : WP :=
  Do P (V (Instr.box 40 arg0)) fun x1 =>
  Do P (V (Instr.alloc 40 true (.tuple #[]))) fun t2_2 =>
  Do P (V (Instr.fieldAt 40 x1 0)) fun t3_3 =>
  Do P (V (Instr.loadAt 3 t3_3)) fun t4_4 =>
  Do P (V (Op.unary .neg t4_4)) fun t5_5 =>
  Do P (V (Instr.fieldAt 40 x1 1)) fun t6_6 =>
  Do P (V (Instr.loadAt 3 t6_6)) fun t7_7 =>
  Do P (vBuild 40 [(0, t5_5), (1, t7_7)]) fun t8_8 =>
  Do P (U (Instr.storeAt 40 t2_2 t8_8)) fun t9_x =>
  RetC P 40 t2_2 K
def A78 : Ann := .s (.n) (.s (.n) (.n))
set_option maxRecDepth 100000 in
theorem c78 (arg0 : Value) (K : Value → WP) (w : World) (h : s78 Try.prog arg0 K w) : Runs Try.prog 78 [arg0] K w :=
  runs_of_E wide (fn := Try.f78) (c := Try.f78.body.getD .skip) 9 A78 [arg0] w K Try.func78 (by kernel_rfl) (by kernel_rfl) (by kernel_rfl) (by kernel_rfl)
    (Eq.mp (by kernel_rfl : s78 Try.prog arg0 K w = E Try.prog (Try.f78.body.getD .skip) A78 (topK Try.prog K Try.f78.results) (fun i => (([arg0] : List Value)[i]?).getD undef) w) h)
theorem ct78 {arg0 : Value} {h : Hp} {post : Hp → Value → Prop} (hg : ∀ w0, Gs w0 h h [] (s78 Try.prog arg0 (RetP w0 h post))) : Ct Try.prog 78 [arg0] h post := Ct.of (sf := s78 Try.prog arg0) (c78 arg0) hg
theorem in78 {arg0 : Value} {S : WP} {K : Value → WP} (hg : G S (s78 Try.prog arg0 K)) : G S (Do Try.prog (vCall (.func (.func 78) #[] ⟨[]⟩) [arg0]) K) := Gs.into (args := [arg0]) (caps := []) (sf := s78 Try.prog arg0) (c78 arg0) hg

/- skewer/dyad.abs : names 0 n, 1 n -/
def s79 (P : Program) (arg0 : Value) (K : Value → WP) : WP :=
  Do P (V (Op.unary .neg arg0)) fun t1_5 =>
  Do P (vBuiltin .max #[3, 3] 3 [arg0, t1_5]) fun t2_6 =>
  K t2_6
def A79 : Ann := .s (.n) (.s (.n) (.n))
set_option maxRecDepth 100000 in
theorem c79 (arg0 : Value) (K : Value → WP) (w : World) (h : s79 Try.prog arg0 K w) : Runs Try.prog 79 [arg0] K w :=
  runs_of_E wide (fn := Try.f79) (c := Try.f79.body.getD .skip) 7 A79 [arg0] w K Try.func79 (by kernel_rfl) (by kernel_rfl) (by kernel_rfl) (by kernel_rfl)
    (Eq.mp (by kernel_rfl : s79 Try.prog arg0 K w = E Try.prog (Try.f79.body.getD .skip) A79 (topK Try.prog K Try.f79.results) (fun i => (([arg0] : List Value)[i]?).getD undef) w) h)
theorem ct79 {arg0 : Value} {h : Hp} {post : Hp → Value → Prop} (hg : ∀ w0, Gs w0 h h [] (s79 Try.prog arg0 (RetP w0 h post))) : Ct Try.prog 79 [arg0] h post := Ct.of (sf := s79 Try.prog arg0) (c79 arg0) hg
theorem in79 {arg0 : Value} {S : WP} {K : Value → WP} (hg : G S (s79 Try.prog arg0 K)) : G S (Do Try.prog (vCall (.func (.func 79) #[] ⟨[]⟩) [arg0]) K) := Gs.into (args := [arg0]) (caps := []) (sf := s79 Try.prog arg0) (c79 arg0) hg

/- (*strings.Builder).WriteByte : names 0 b, 1 c, 2 b, 3 c -/
def s62 (P : Program) (arg0 arg1 : Value) (K : Value → WP) : WP :=
  Do P (vCall (.func (.func 80) #[] ⟨[]⟩) [arg0]) fun t1_6 =>
  Do P (vNil arg0) fun t2_9 =>
  Do P (V (Instr.fieldAt 106 t2_9 1)) fun t3_10 =>
  Do P (V (Instr.loadAt 22 t3_10)) fun t4_11 =>
  Do P (vBuildSlice 22 1 [(0, arg1)]) fun t5_13 =>
  Do P (vBuiltin .append #[22, 22] 22 [t4_11, t5_13]) fun t6_14 =>
  Do P (vNil arg0) fun t7_15 =>
  Do P (V (Instr.fieldAt 106 t7_15 1)) fun t8_16 =>
  Do P (U (Instr.storeAt 22 t8_16 t6_14)) fun t9_x =>
  K .nilIface
def A62 : Ann := .s (.n) (.s (.n) (.s (.n) (.s (.n) (.n))))
set_option maxRecDepth 100000 in
theorem c62 (arg0 arg1 : Value) (K : Value → WP) (w : World) (h : s62 Try.prog arg0 arg1 K w) : Runs Try.prog 62 [arg0, arg1] K w :=
  runs_of_E wide (fn := Try.f62) (c := Try.f62.body.getD .skip) 17 A62 [arg0, arg1] w K Try.func62 (by kernel_rfl) (by kernel_rfl) (by kernel_rfl) (by kernel_rfl)
    (Eq.mp (by kernel_rfl : s62 Try.prog arg0 arg1 K w = E Try.prog (Try.f62.body.getD .skip) A62 (topK Try.prog K Try.f62.results) (fun i => (([arg0, arg1] : List Value)[i]?).getD undef) w) h)
theorem ct62 {arg0 arg1 : Value} {h : Hp} {post : Hp → Value → Prop} (hg : ∀ w0, Gs w0 h h [] (s62 Try.prog arg0 arg1 (RetP w0 h post))) : Ct Try.prog 62 [arg0, arg1] h post := Ct.of (sf := s62 Try.prog arg0 arg1) (c62 arg0 arg1) hg
theorem in62 {arg0 arg1 : Value} {S : WP} {K : Value → WP} (hg : G S (s62 Try.prog arg0 arg1 K)) : G S (Do Try.prog (vCall (.func (.func 62) #[] ⟨[]⟩) [arg0, arg1]) K) := Gs.into (args := [arg0, arg1]) (caps := []) (sf := s62 Try.prog arg0 arg1) (c62 arg0 arg1) hg

/- (*strings.Builder).WriteString : names 0 b, 1 s, 2 b, 3 s -/
def s63 (P : Program) (arg0 arg1 : Value) (K : Value → WP) : WP :=
  Do P (vCall (.func (.func 80) #[] ⟨[]⟩) [arg0]) fun t1_7 =>
  Do P (vNil arg0) fun t2_10 =>
  Do P (V (Instr.fieldAt 106 t2_10 1)) fun t3_11 =>
  Do P (V (Instr.loadAt 22 t3_11)) fun t4_12 =>
  Do P (vBuiltin .append #[22, 9] 22 [t4_12, arg1]) fun t5_14 =>
  Do P (vNil arg0) fun t6_15 =>
  Do P (V (Instr.fieldAt 106 t6_15 1)) fun t7_16 =>
  Do P (U (Instr.storeAt 22 t7_16 t5_14)) fun t8_x =>
  Do P (vBuiltin .len #[9] 3 [arg1]) fun t9_18 =>
  K (.tuple #[t9_18, .nilIface])
def A63 : Ann := .s (.n) (.s (.n) (.s (.n) (.s (.n) (.n))))
set_option maxRecDepth 100000 in
theorem c63 (arg0 arg1 : Value) (K : Value → WP) (w : World) (h : s63 Try.prog arg0 arg1 K w) : Runs Try.prog 63 [arg0, arg1] K w :=
  runs_of_E wide (fn := Try.f63) (c := Try.f63.body.getD .skip) 19 A63 [arg0, arg1] w K Try.func63 (by kernel_rfl) (by kernel_rfl) (by kernel_rfl) (by kernel_rfl)
    (Eq.mp (by kernel_rfl : s63 Try.prog arg0 arg1 K w = E Try.prog (Try.f63.body.getD .skip) A63 (topK Try.prog K Try.f63.results) (fun i => (([arg0, arg1] : List Value)[i]?).getD undef) w) h)
theorem ct63 {arg0 arg1 : Value} {h : Hp} {post : Hp → Value → Prop} (hg : ∀ w0, Gs w0 h h [] (s63 Try.prog arg0 arg1 (RetP w0 h post))) : Ct Try.prog 63 [arg0, arg1] h post := Ct.of (sf := s63 Try.prog arg0 arg1) (c63 arg0 arg1) hg
theorem in63 {arg0 arg1 : Value} {S : WP} {K : Value → WP} (hg : G S (s63 Try.prog arg0 arg1 K)) : G S (Do Try.prog (vCall (.func (.func 63) #[] ⟨[]⟩) [arg0, arg1]) K) := Gs.into (args := [arg0, arg1]) (caps := []) (sf := s63 Try.prog arg0 arg1) (c63 arg0 arg1) hg

/- (*strings.Builder).String : names 0 b, 1 b -/
def s64 (P : Program) (arg0 : Value) (K : Value → WP) : WP :=
  Dr <|
  Qk P (vNil arg0) fun C1 t1_4 =>
  Qk P (V (Instr.fieldAt 106 t1_4 1)) fun C2 t2_5 =>
  Qk P (V (Instr.loadAt 22 t2_5)) fun C3 t3_6 =>
  Qk P (vNil arg0) fun C4 t4_9 =>
  Qk P (V (Instr.fieldAt 106 t4_9 1)) fun C5 t5_10 =>
  Qk P (V (Instr.loadAt 22 t5_10)) fun C6 t6_11 =>
  Qk P (vBuiltin .len #[22] 3 [t6_11]) fun C7 t7_12 =>
  Do P (vBuiltin .unsafeSliceData #[22] 124 [t3_6]) fun t8_7 =>
  With C7 <|
  With C6 <|
  With C5 <|
  With C4 <|
  Do P (vBuiltin .unsafeString #[124, 3] 9 [t8_7, t7_12]) fun t9_13 =>
  K t9_13
def A64 : Ann := .s (.n) (.s (.plan [(0, 1, 8), (1, 8, 16), (2, 16, 32), (4, 32, 64), (8, 64, 128), (0, 1, 256), (32, 256, 512), (64, 512, 1024), (128, 1024, 2048), (256, 2048, 4096), (528, 4224, 8192), (2047, 8192, 4)] (.q 0 (.q 1 (.q 2 (.q 3 (.q 5 (.q 6 (.q 7 (.q 8 (.q 9 (.l 4 (.l 10 (.q 11 .done))))))))))))) (.n))
set_option maxRecDepth 100000 in
theorem c64 (arg0 : Value) (K : Value → WP) (w : World) (h : s64 Try.prog arg0 K w) : Runs Try.prog 64 [arg0] K w :=
  runs_of_E wide (fn := Try.f64) (c := Try.f64.body.getD .skip) 14 A64 [arg0] w K Try.func64 (by kernel_rfl) (by kernel_rfl) (by kernel_rfl) (by kernel_rfl)
    (Eq.mp (by kernel_rfl : s64 Try.prog arg0 K w = E Try.prog (Try.f64.body.getD .skip) A64 (topK Try.prog K Try.f64.results) (fun i => (([arg0] : List Value)[i]?).getD undef) w) h)
theorem ct64 {arg0 : Value} {h : Hp} {post : Hp → Value → Prop} (hg : ∀ w0, Gs w0 h h [] (s64 Try.prog arg0 (RetP w0 h post))) : Ct Try.prog 64 [arg0] h post := Ct.of (sf := s64 Try.prog arg0) (c64 arg0) hg
theorem in64 {arg0 : Value} {S : WP} {K : Value → WP} (hg : G S (s64 Try.prog arg0 K)) : G S (Do Try.prog (vCall (.func (.func 64) #[] ⟨[]⟩) [arg0]) K) := Gs.into (args := [arg0]) (caps := []) (sf := s64 Try.prog arg0) (c64 arg0) hg

/- (*strings.Builder).copyCheck : names 0 b, 1 b -/
def s80 (P : Program) (arg0 : Value) (K : Value → WP) : WP :=
  Do P (vNil arg0) fun t1_3 =>
  Do P (V (Instr.fieldAt 106 t1_3 0)) fun t2_4 =>
  Do P (V (Instr.loadAt 104 t2_4)) fun t3_5 =>
  Do P (V (EqG .eql 104 (.tmp 5) (.const (.pointer none)) t3_5 (.pointer none))) fun t4_6 =>
  If t4_6 (
   Do P (V (convert 104 132 arg0)) fun t5_9 =>
   Do P (vCall (.func (.func 86) #[] ⟨[]⟩) [t5_9]) fun t6_10 =>
   Do P (V (convert 132 104 t6_10)) fun t7_11 =>
   Do P (vNil arg0) fun t8_12 =>
   Do P (V (Instr.fieldAt 106 t8_12 0)) fun t9_13 =>
   Do P (U (Instr.storeAt 104 t9_13 t7_11)) fun t10_x =>
   K (.tuple #[])
  ) (
   Do P (vNil arg0) fun t11_15 =>
   Do P (V (Instr.fieldAt 106 t11_15 0)) fun t12_16 =>
   Do P (V (Instr.loadAt 104 t12_16)) fun t13_17 =>
   Do P (V (EqG .neq 104 (.tmp 17) (.tmp 18) t13_17 arg0)) fun t14_19 =>
   If t14_19 (
    fun _ => False
   ) (
    K (.tuple #[])
   )
  )
def A80 : Ann := .s (.n) (.s (.n) (.s (.n) (.s (.n) (.n))))
set_option maxRecDepth 100000 in
theorem c80 (arg0 : Value) (K : Value → WP) (w : World) (h : s80 Try.prog arg0 K w) : Runs Try.prog 80 [arg0] K w :=
  runs_of_E wide (fn := Try.f80) (c := Try.f80.body.getD .skip) 20 A80 [arg0] w K Try.func80 (by kernel_rfl) (by kernel_rfl) (by kernel_rfl) (by kernel_rfl)
    (Eq.mp (by kernel_rfl : s80 Try.prog arg0 K w = E Try.prog (Try.f80.body.getD .skip) A80 (topK Try.prog K Try.f80.results) (fun i => (([arg0] : List Value)[i]?).getD undef) w) h)
theorem ct80 {arg0 : Value} {h : Hp} {post : Hp → Value → Prop} (hg : ∀ w0, Gs w0 h h [] (s80 Try.prog arg0 (RetP w0 h post))) : Ct Try.prog 80 [arg0] h post := Ct.of (sf := s80 Try.prog arg0) (c80 arg0) hg
theorem in80 {arg0 : Value} {S : WP} {K : Value → WP} (hg : G S (s80 Try.prog arg0 K)) : G S (Do Try.prog (vCall (.func (.func 80) #[] ⟨[]⟩) [arg0]) K) := Gs.into (args := [arg0]) (caps := []) (sf := s80 Try.prog arg0) (c80 arg0) hg

/- slices.Grow[[]*skewer/value.node,*skewer/value.node] : names 0 s, 1 n, 2 s, 3 n -/
def s81 (P : Program) (arg0 arg1 : Value) (K : Value → WP) : WP :=
  Jn (α := Unit) (fun j1 => Jk fun _ => -- 
   Do P (vBuiltin .cap #[69] 3 [arg0]) fun t2_10 =>
   Do P (vBuiltin .len #[69] 3 [arg0]) fun t3_12 =>
   Do P (V (binOp .sub 3 t2_10 t3_12)) fun t4_13 =>
   Do P (V (binOp .sub 3 arg1 t4_13)) fun t5_14 =>
   Do P (V (binOp .gtr 3 t5_14 (.int .i64 0))) fun t6_16 =>
   If t6_16 (
    Do P (vBuiltin .cap #[69] 3 [arg0]) fun t7_19 =>
    Do P (V (Instr.sliceAt 69 arg0 none (some t7_19) none)) fun t8_20 =>
    Do P (vBuiltin .append #[69, 3] 69 [t8_20, t5_14]) fun t9_22 =>
    Do P (vBuiltin .len #[69] 3 [arg0]) fun t10_24 =>
    Do P (V (Instr.sliceAt 69 t9_22 none (some t10_24) none)) fun t11_25 =>
    K t11_25
   ) (
    K arg0
   )
  ) fun k1 =>
  Do P (V (binOp .lss 3 arg1 (.int .i64 0))) fun t12_6 =>
  If t12_6 (
   Do P (V (Instr.makeInterface 9 (.string ⟨#[99, 97, 110, 110, 111, 116, 32, 98, 101, 32, 110, 101, 103, 97, 116, 105, 118, 101]⟩))) fun t13_7 =>
   Do P (V (Instr.panic t13_7)) fun t14_x =>
   k1 ()
  ) (
   k1 ()
  )
def A81 : Ann := .s (.n) (.j [] 224 (.s (.n) (.s (.n) (.n))) (.s (.s (.n) (.s (.n) (.s (.n) (.n)))) (.s (.n) (.n))))
set_option maxRecDepth 100000 in
theorem c81 (arg0 arg1 : Value) (K : Value → WP) (w : World) (h : s81 Try.prog arg0 arg1 K w) : Runs Try.prog 81 [arg0, arg1] K w :=
  runs_of_E wide (fn := Try.f81) (c := Try.f81.body.getD .skip) 27 A81 [arg0, arg1] w K Try.func81 (by kernel_rfl) (by kernel_rfl) (by kernel_rfl) (by kernel_rfl)
    (Eq.mp (by kernel_rfl : s81 Try.prog arg0 arg1 K w = E Try.prog (Try.f81.body.getD .skip) A81 (topK Try.prog K Try.f81.results) (fun i => (([arg0, arg1] : List Value)[i]?).getD undef) w) h)
theorem ct81 {arg0 arg1 : Value} {h : Hp} {post : Hp → Value → Prop} (hg : ∀ w0, Gs w0 h h [] (s81 Try.prog arg0 arg1 (RetP w0 h post))) : Ct Try.prog 81 [arg0, arg1] h post := Ct.of (sf := s81 Try.prog arg0 arg1) (c81 arg0 arg1) hg
theorem in81 {arg0 arg1 : Value} {S : WP} {K : Value → WP} (hg : G S (s81 Try.prog arg0 arg1 K)) : G S (Do Try.prog (vCall (.func (.func 81) #[] ⟨[]⟩) [arg0, arg1]) K) := Gs.into (args := [arg0, arg1]) (caps := []) (sf := s81 Try.prog arg0 arg1) (c81 arg0 arg1) hg

end Go.Proofs.Ytgdochemlbjnlaa
