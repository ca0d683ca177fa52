/-
  The shallow forms of functions of the program, printed by a program of the prover; and what the types are.
-/
import Derived.Test.YtgdochemlbjnlaaGreatKz
import Derived.Test.YtgdochemlbjnlaaGreatProg
set_option linter.unusedVariables false
set_option maxRecDepth 100000
namespace Go.Proofs.YtgdochemlbjnlaaGreat
open Go Go.Sk
variable {M : Go.Sk.Mode}

theorem wide : Tryz.prog.follows .mixedOrders = true := by kernel_rfl
instance g73 : IsGo Tryz.prog 73 := ⟨by kernel_rfl⟩
instance g74 : IsGo Tryz.prog 74 := ⟨by kernel_rfl⟩
instance g87 : IsGo Tryz.prog 87 := ⟨by kernel_rfl⟩
instance g4 : IsGo Tryz.prog 4 := ⟨by kernel_rfl⟩
instance g5 : IsGo Tryz.prog 5 := ⟨by kernel_rfl⟩
instance g6 : IsGo Tryz.prog 6 := ⟨by kernel_rfl⟩
instance g7 : IsGo Tryz.prog 7 := ⟨by kernel_rfl⟩
instance g8 : IsGo Tryz.prog 8 := ⟨by kernel_rfl⟩
instance g9 : IsGo Tryz.prog 9 := ⟨by kernel_rfl⟩
instance g10 : IsGo Tryz.prog 10 := ⟨by kernel_rfl⟩
instance g11 : IsGo Tryz.prog 11 := ⟨by kernel_rfl⟩
instance g12 : IsGo Tryz.prog 12 := ⟨by kernel_rfl⟩
instance g13 : IsGo Tryz.prog 13 := ⟨by kernel_rfl⟩
instance g14 : IsGo Tryz.prog 14 := ⟨by kernel_rfl⟩
instance g15 : IsGo Tryz.prog 15 := ⟨by kernel_rfl⟩
instance g16 : IsGo Tryz.prog 16 := ⟨by kernel_rfl⟩
instance g17 : IsGo Tryz.prog 17 := ⟨by kernel_rfl⟩
instance g18 : IsGo Tryz.prog 18 := ⟨by kernel_rfl⟩
instance g19 : IsGo Tryz.prog 19 := ⟨by kernel_rfl⟩
instance g20 : IsGo Tryz.prog 20 := ⟨by kernel_rfl⟩
instance g21 : IsGo Tryz.prog 21 := ⟨by kernel_rfl⟩
instance g22 : IsGo Tryz.prog 22 := ⟨by kernel_rfl⟩
instance g23 : IsGo Tryz.prog 23 := ⟨by kernel_rfl⟩
instance g24 : IsGo Tryz.prog 24 := ⟨by kernel_rfl⟩
instance g25 : IsGo Tryz.prog 25 := ⟨by kernel_rfl⟩
instance g26 : IsGo Tryz.prog 26 := ⟨by kernel_rfl⟩
instance g27 : IsGo Tryz.prog 27 := ⟨by kernel_rfl⟩
instance g28 : IsGo Tryz.prog 28 := ⟨by kernel_rfl⟩
instance g29 : IsGo Tryz.prog 29 := ⟨by kernel_rfl⟩
instance g30 : IsGo Tryz.prog 30 := ⟨by kernel_rfl⟩
instance g31 : IsGo Tryz.prog 31 := ⟨by kernel_rfl⟩
instance g32 : IsGo Tryz.prog 32 := ⟨by kernel_rfl⟩
instance g33 : IsGo Tryz.prog 33 := ⟨by kernel_rfl⟩
instance g34 : IsGo Tryz.prog 34 := ⟨by kernel_rfl⟩
instance g35 : IsGo Tryz.prog 35 := ⟨by kernel_rfl⟩
instance g36 : IsGo Tryz.prog 36 := ⟨by kernel_rfl⟩
instance g37 : IsGo Tryz.prog 37 := ⟨by kernel_rfl⟩
instance g38 : IsGo Tryz.prog 38 := ⟨by kernel_rfl⟩
instance g39 : IsGo Tryz.prog 39 := ⟨by kernel_rfl⟩
instance g40 : IsGo Tryz.prog 40 := ⟨by kernel_rfl⟩
instance g41 : IsGo Tryz.prog 41 := ⟨by kernel_rfl⟩
instance g42 : IsGo Tryz.prog 42 := ⟨by kernel_rfl⟩
instance g43 : IsGo Tryz.prog 43 := ⟨by kernel_rfl⟩
instance g44 : IsGo Tryz.prog 44 := ⟨by kernel_rfl⟩
instance g45 : IsGo Tryz.prog 45 := ⟨by kernel_rfl⟩
instance g46 : IsGo Tryz.prog 46 := ⟨by kernel_rfl⟩
instance g47 : IsGo Tryz.prog 47 := ⟨by kernel_rfl⟩
instance g48 : IsGo Tryz.prog 48 := ⟨by kernel_rfl⟩
instance g49 : IsGo Tryz.prog 49 := ⟨by kernel_rfl⟩
instance g50 : IsGo Tryz.prog 50 := ⟨by kernel_rfl⟩
instance g51 : IsGo Tryz.prog 51 := ⟨by kernel_rfl⟩
instance g52 : IsGo Tryz.prog 52 := ⟨by kernel_rfl⟩
instance g53 : IsGo Tryz.prog 53 := ⟨by kernel_rfl⟩
instance g54 : IsGo Tryz.prog 54 := ⟨by kernel_rfl⟩
instance g55 : IsGo Tryz.prog 55 := ⟨by kernel_rfl⟩
instance g56 : IsGo Tryz.prog 56 := ⟨by kernel_rfl⟩
instance g57 : IsGo Tryz.prog 57 := ⟨by kernel_rfl⟩
instance g58 : IsGo Tryz.prog 58 := ⟨by kernel_rfl⟩
instance g59 : IsGo Tryz.prog 59 := ⟨by kernel_rfl⟩
instance g60 : IsGo Tryz.prog 60 := ⟨by kernel_rfl⟩
instance g61 : IsGo Tryz.prog 61 := ⟨by kernel_rfl⟩
instance g62 : IsGo Tryz.prog 62 := ⟨by kernel_rfl⟩
instance g63 : IsGo Tryz.prog 63 := ⟨by kernel_rfl⟩
instance g64 : IsGo Tryz.prog 64 := ⟨by kernel_rfl⟩
instance g65 : IsGo Tryz.prog 65 := ⟨by kernel_rfl⟩
instance g66 : IsGo Tryz.prog 66 := ⟨by kernel_rfl⟩
instance g67 : IsGo Tryz.prog 67 := ⟨by kernel_rfl⟩
instance g68 : IsGo Tryz.prog 68 := ⟨by kernel_rfl⟩
instance g69 : IsGo Tryz.prog 69 := ⟨by kernel_rfl⟩
instance g71 : IsGo Tryz.prog 71 := ⟨by kernel_rfl⟩
instance g75 : IsGo Tryz.prog 75 := ⟨by kernel_rfl⟩
instance g76 : IsGo Tryz.prog 76 := ⟨by kernel_rfl⟩
instance g77 : IsGo Tryz.prog 77 := ⟨by kernel_rfl⟩
instance g78 : IsGo Tryz.prog 78 := ⟨by kernel_rfl⟩
instance g79 : IsGo Tryz.prog 79 := ⟨by kernel_rfl⟩
instance g80 : IsGo Tryz.prog 80 := ⟨by kernel_rfl⟩
instance g81 : IsGo Tryz.prog 81 := ⟨by kernel_rfl⟩
instance g82 : IsGo Tryz.prog 82 := ⟨by kernel_rfl⟩
instance g83 : IsGo Tryz.prog 83 := ⟨by kernel_rfl⟩
instance g88 : IsGo Tryz.prog 88 := ⟨by kernel_rfl⟩
instance g89 : IsGo Tryz.prog 89 := ⟨by kernel_rfl⟩
instance g90 : IsGo Tryz.prog 90 := ⟨by kernel_rfl⟩
instance g91 : IsGo Tryz.prog 91 := ⟨by kernel_rfl⟩
instance g3 : IsGo Tryz.prog 3 := ⟨by kernel_rfl⟩
instance g70 : IsGo Tryz.prog 70 := ⟨by kernel_rfl⟩
instance g72 : IsGo Tryz.prog 72 := ⟨by kernel_rfl⟩
instance : TOne Tryz.prog 1 := ⟨by kernel_rfl⟩
instance : TSize Tryz.prog 1 1 := ⟨by kernel_rfl⟩
instance : TZero Tryz.prog 1 [.nilFunc] := ⟨by kernel_rfl⟩
instance : TOne Tryz.prog 2 := ⟨by kernel_rfl⟩
instance : TSize Tryz.prog 2 1 := ⟨by kernel_rfl⟩
instance : TZero Tryz.prog 2 [(.int .i64 0)] := ⟨by kernel_rfl⟩
instance : TInt Tryz.prog 2 .i64 := ⟨by kernel_rfl⟩
instance : TOne Tryz.prog 3 := ⟨by kernel_rfl⟩
instance : TSize Tryz.prog 3 1 := ⟨by kernel_rfl⟩
instance : TZero Tryz.prog 3 [(.int .i64 0)] := ⟨by kernel_rfl⟩
instance : TInt Tryz.prog 3 .i64 := ⟨by kernel_rfl⟩
instance : TOne Tryz.prog 4 := ⟨by kernel_rfl⟩
instance : TSize Tryz.prog 4 1 := ⟨by kernel_rfl⟩
instance : TZero Tryz.prog 4 [(.bool false)] := ⟨by kernel_rfl⟩
instance : TZv Tryz.prog 4 ((.bool false)) := ⟨by kernel_rfl⟩
instance : TBool Tryz.prog 4 := ⟨by kernel_rfl⟩
instance : TOne Tryz.prog 5 := ⟨by kernel_rfl⟩
instance : TSize Tryz.prog 5 1 := ⟨by kernel_rfl⟩
instance : TZero Tryz.prog 5 [(.int .u8 0)] := ⟨by kernel_rfl⟩
instance : TInt Tryz.prog 5 .u8 := ⟨by kernel_rfl⟩
instance : TOne Tryz.prog 9 := ⟨by kernel_rfl⟩
instance : TSize Tryz.prog 9 1 := ⟨by kernel_rfl⟩
instance : TZero Tryz.prog 9 [(.string ⟨#[]⟩)] := ⟨by kernel_rfl⟩
instance : TStr Tryz.prog 9 := ⟨by kernel_rfl⟩
instance : TOne Tryz.prog 22 := ⟨by kernel_rfl⟩
instance : TSize Tryz.prog 22 1 := ⟨by kernel_rfl⟩
instance : TZero Tryz.prog 22 [(.slice none 0 0)] := ⟨by kernel_rfl⟩
instance : TSlice Tryz.prog 22 5 1 1 := ⟨by kernel_rfl⟩
instance : TOne Tryz.prog 23 := ⟨by kernel_rfl⟩
instance : TSize Tryz.prog 23 1 := ⟨by kernel_rfl⟩
instance : TZero Tryz.prog 23 [(.int .i8 0)] := ⟨by kernel_rfl⟩
instance : TInt Tryz.prog 23 .i8 := ⟨by kernel_rfl⟩
instance : TAgg Tryz.prog 24 2 := ⟨by kernel_rfl⟩
instance : TSize Tryz.prog 24 2 := ⟨by kernel_rfl⟩
instance : TZero Tryz.prog 24 [(.int .i8 0), (.int .i8 0)] := ⟨by kernel_rfl⟩
instance : TArr Tryz.prog 24 2 23 1 := ⟨by kernel_rfl⟩
instance : TOne Tryz.prog 26 := ⟨by kernel_rfl⟩
instance : TSize Tryz.prog 26 1 := ⟨by kernel_rfl⟩
instance : TZero Tryz.prog 26 [(.slice none 0 0)] := ⟨by kernel_rfl⟩
instance : TSlice Tryz.prog 26 28 2 48 := ⟨by kernel_rfl⟩
instance : TAgg Tryz.prog 28 2 := ⟨by kernel_rfl⟩
instance : TSize Tryz.prog 28 2 := ⟨by kernel_rfl⟩
instance : TZero Tryz.prog 28 [(.slice none 0 0), (.slice none 0 0)] := ⟨by kernel_rfl⟩
instance : TStruct Tryz.prog 28 [(0, 1), (1, 1)] := ⟨by kernel_rfl⟩
instance : TField Tryz.prog 28 0 0 := ⟨by kernel_rfl⟩
instance : TField Tryz.prog 28 1 1 := ⟨by kernel_rfl⟩
instance : TFieldV Tryz.prog 28 0 0 1 false := ⟨by kernel_rfl⟩
instance : TFieldV Tryz.prog 28 1 1 1 false := ⟨by kernel_rfl⟩
instance : TAgg Tryz.prog 36 2 := ⟨by kernel_rfl⟩
instance : TSize Tryz.prog 36 2 := ⟨by kernel_rfl⟩
instance : TZero Tryz.prog 36 [(.int .i64 0), (.int .i64 0)] := ⟨by kernel_rfl⟩
instance : TStruct Tryz.prog 36 [(0, 1), (1, 1)] := ⟨by kernel_rfl⟩
instance : TField Tryz.prog 36 0 0 := ⟨by kernel_rfl⟩
instance : TField Tryz.prog 36 1 1 := ⟨by kernel_rfl⟩
instance : TFieldV Tryz.prog 36 0 0 1 false := ⟨by kernel_rfl⟩
instance : TFieldV Tryz.prog 36 1 1 1 false := ⟨by kernel_rfl⟩
instance : EqTy Tryz.prog 36 2 := EqTy.of (by kernel_rfl) (by kernel_rfl) (by kernel_rfl)
instance : TOne Tryz.prog 39 := ⟨by kernel_rfl⟩
instance : TSize Tryz.prog 39 1 := ⟨by kernel_rfl⟩
instance : TZero Tryz.prog 39 [(.int .i64 0)] := ⟨by kernel_rfl⟩
instance : TInt Tryz.prog 39 .i64 := ⟨by kernel_rfl⟩
instance : TAgg Tryz.prog 45 2 := ⟨by kernel_rfl⟩
instance : TSize Tryz.prog 45 2 := ⟨by kernel_rfl⟩
instance : TZero Tryz.prog 45 [(.slice none 0 0), (.slice none 0 0)] := ⟨by kernel_rfl⟩
instance : TArr Tryz.prog 45 2 26 1 := ⟨by kernel_rfl⟩
instance : TOne Tryz.prog 46 := ⟨by kernel_rfl⟩
instance : TSize Tryz.prog 46 1 := ⟨by kernel_rfl⟩
instance : TZero Tryz.prog 46 [(.pointer none)] := ⟨by kernel_rfl⟩
instance : TOne Tryz.prog 48 := ⟨by kernel_rfl⟩
instance : TSize Tryz.prog 48 1 := ⟨by kernel_rfl⟩
instance : TZero Tryz.prog 48 [.nilFunc] := ⟨by kernel_rfl⟩
instance : TOne Tryz.prog 49 := ⟨by kernel_rfl⟩
instance : TSize Tryz.prog 49 1 := ⟨by kernel_rfl⟩
instance : TZero Tryz.prog 49 [(.pointer none)] := ⟨by kernel_rfl⟩
instance : TZv Tryz.prog 49 ((.pointer none)) := ⟨by kernel_rfl⟩
instance : TOne Tryz.prog 51 := ⟨by kernel_rfl⟩
instance : TSize Tryz.prog 51 1 := ⟨by kernel_rfl⟩
instance : TZero Tryz.prog 51 [(.slice none 0 0)] := ⟨by kernel_rfl⟩
instance : TSlice Tryz.prog 51 49 1 8 := ⟨by kernel_rfl⟩
instance : TAgg Tryz.prog 53 3 := ⟨by kernel_rfl⟩
instance : TSize Tryz.prog 53 3 := ⟨by kernel_rfl⟩
instance : TZero Tryz.prog 53 [(.string ⟨#[]⟩), (.slice none 0 0), (.slice none 0 0)] := ⟨by kernel_rfl⟩
instance : TStruct Tryz.prog 53 [(0, 1), (1, 1), (2, 1)] := ⟨by kernel_rfl⟩
instance : TField Tryz.prog 53 0 0 := ⟨by kernel_rfl⟩
instance : TField Tryz.prog 53 1 1 := ⟨by kernel_rfl⟩
instance : TField Tryz.prog 53 2 2 := ⟨by kernel_rfl⟩
instance : TFieldV Tryz.prog 53 0 0 1 false := ⟨by kernel_rfl⟩
instance : TFieldV Tryz.prog 53 1 1 1 false := ⟨by kernel_rfl⟩
instance : TFieldV Tryz.prog 53 2 2 1 false := ⟨by kernel_rfl⟩
instance : TAgg Tryz.prog 59 3 := ⟨by kernel_rfl⟩
instance : TSize Tryz.prog 59 3 := ⟨by kernel_rfl⟩
instance : TZero Tryz.prog 59 [(.slice none 0 0), (.slice none 0 0), (.bool false)] := ⟨by kernel_rfl⟩
instance : TStruct Tryz.prog 59 [(0, 2), (2, 1)] := ⟨by kernel_rfl⟩
instance : TField Tryz.prog 59 0 0 := ⟨by kernel_rfl⟩
instance : TField Tryz.prog 59 1 2 := ⟨by kernel_rfl⟩
instance : TFieldV Tryz.prog 59 0 0 2 true := ⟨by kernel_rfl⟩
instance : TFieldV Tryz.prog 59 1 2 1 false := ⟨by kernel_rfl⟩
instance : TAgg Tryz.prog 63 3 := ⟨by kernel_rfl⟩
instance : TSize Tryz.prog 63 3 := ⟨by kernel_rfl⟩
instance : TZero Tryz.prog 63 [(.int .i64 0), (.int .i64 0), (.bool false)] := ⟨by kernel_rfl⟩
instance : TStruct Tryz.prog 63 [(0, 2), (2, 1)] := ⟨by kernel_rfl⟩
instance : TField Tryz.prog 63 0 0 := ⟨by kernel_rfl⟩
instance : TField Tryz.prog 63 1 2 := ⟨by kernel_rfl⟩
instance : TFieldV Tryz.prog 63 0 0 2 true := ⟨by kernel_rfl⟩
instance : TFieldV Tryz.prog 63 1 2 1 false := ⟨by kernel_rfl⟩
instance : TOne Tryz.prog 67 := ⟨by kernel_rfl⟩
instance : TSize Tryz.prog 67 1 := ⟨by kernel_rfl⟩
instance : TZero Tryz.prog 67 [(.pointer none)] := ⟨by kernel_rfl⟩
instance : TOne Tryz.prog 71 := ⟨by kernel_rfl⟩
instance : TSize Tryz.prog 71 1 := ⟨by kernel_rfl⟩
instance : TZero Tryz.prog 71 [(.map none)] := ⟨by kernel_rfl⟩
instance : TMap Tryz.prog 71 9 49 := ⟨by kernel_rfl⟩
instance : TOne Tryz.prog 72 := ⟨by kernel_rfl⟩
instance : TSize Tryz.prog 72 1 := ⟨by kernel_rfl⟩
instance : TZero Tryz.prog 72 [(.map none)] := ⟨by kernel_rfl⟩
instance : TMap Tryz.prog 72 76 4 := ⟨by kernel_rfl⟩
instance : TAgg Tryz.prog 74 3 := ⟨by kernel_rfl⟩
instance : TSize Tryz.prog 74 3 := ⟨by kernel_rfl⟩
instance : TZero Tryz.prog 74 [(.map none), (.map none), (.map none)] := ⟨by kernel_rfl⟩
instance : TStruct Tryz.prog 74 [(0, 1), (1, 1), (2, 1)] := ⟨by kernel_rfl⟩
instance : TField Tryz.prog 74 0 0 := ⟨by kernel_rfl⟩
instance : TField Tryz.prog 74 1 1 := ⟨by kernel_rfl⟩
instance : TField Tryz.prog 74 2 2 := ⟨by kernel_rfl⟩
instance : TFieldV Tryz.prog 74 0 0 1 false := ⟨by kernel_rfl⟩
instance : TFieldV Tryz.prog 74 1 1 1 false := ⟨by kernel_rfl⟩
instance : TFieldV Tryz.prog 74 2 2 1 false := ⟨by kernel_rfl⟩
instance : TAgg Tryz.prog 76 2 := ⟨by kernel_rfl⟩
instance : TSize Tryz.prog 76 2 := ⟨by kernel_rfl⟩
instance : TZero Tryz.prog 76 [(.string ⟨#[]⟩), (.string ⟨#[]⟩)] := ⟨by kernel_rfl⟩
instance : TStruct Tryz.prog 76 [(0, 1), (1, 1)] := ⟨by kernel_rfl⟩
instance : TField Tryz.prog 76 0 0 := ⟨by kernel_rfl⟩
instance : TField Tryz.prog 76 1 1 := ⟨by kernel_rfl⟩
instance : TFieldV Tryz.prog 76 0 0 1 false := ⟨by kernel_rfl⟩
instance : TFieldV Tryz.prog 76 1 1 1 false := ⟨by kernel_rfl⟩
instance : TOne Tryz.prog 78 := ⟨by kernel_rfl⟩
instance : TSize Tryz.prog 78 1 := ⟨by kernel_rfl⟩
instance : TZero Tryz.prog 78 [.nilFunc] := ⟨by kernel_rfl⟩
instance : TAgg Tryz.prog 86 4 := ⟨by kernel_rfl⟩
instance : TSize Tryz.prog 86 4 := ⟨by kernel_rfl⟩
instance : TZero Tryz.prog 86 [(.int .i64 0), (.int .i64 0), (.int .i64 0), (.int .i64 0)] := ⟨by kernel_rfl⟩
instance : TArr Tryz.prog 86 2 36 2 := ⟨by kernel_rfl⟩
instance : TAgg Tryz.prog 87 2 := ⟨by kernel_rfl⟩
instance : TSize Tryz.prog 87 2 := ⟨by kernel_rfl⟩
instance : TZero Tryz.prog 87 [(.slice none 0 0), (.slice none 0 0)] := ⟨by kernel_rfl⟩
instance : TArr Tryz.prog 87 2 51 1 := ⟨by kernel_rfl⟩
instance : TOne Tryz.prog 93 := ⟨by kernel_rfl⟩
instance : TSize Tryz.prog 93 1 := ⟨by kernel_rfl⟩
instance : TZero Tryz.prog 93 [(.slice none 0 0)] := ⟨by kernel_rfl⟩
instance : TSlice Tryz.prog 93 36 2 16 := ⟨by kernel_rfl⟩
instance : TOne Tryz.prog 97 := ⟨by kernel_rfl⟩
instance : TSize Tryz.prog 97 1 := ⟨by kernel_rfl⟩
instance : TZero Tryz.prog 97 [(.pointer none)] := ⟨by kernel_rfl⟩
instance : TAgg Tryz.prog 99 2 := ⟨by kernel_rfl⟩
instance : TSize Tryz.prog 99 2 := ⟨by kernel_rfl⟩
instance : TZero Tryz.prog 99 [(.pointer none), (.slice none 0 0)] := ⟨by kernel_rfl⟩
instance : TStruct Tryz.prog 99 [(0, 1), (1, 1)] := ⟨by kernel_rfl⟩
instance : TField Tryz.prog 99 0 0 := ⟨by kernel_rfl⟩
instance : TField Tryz.prog 99 1 1 := ⟨by kernel_rfl⟩
instance : TFieldV Tryz.prog 99 0 0 1 false := ⟨by kernel_rfl⟩
instance : TFieldV Tryz.prog 99 1 1 1 false := ⟨by kernel_rfl⟩
instance : TOne Tryz.prog 111 := ⟨by kernel_rfl⟩
instance : TSize Tryz.prog 111 1 := ⟨by kernel_rfl⟩
instance : TZero Tryz.prog 111 [.nilFunc] := ⟨by kernel_rfl⟩
instance : TAgg Tryz.prog 112 2 := ⟨by kernel_rfl⟩
instance : TSize Tryz.prog 112 2 := ⟨by kernel_rfl⟩
instance : TZero Tryz.prog 112 [(.int .i64 0), (.int .i64 0)] := ⟨by kernel_rfl⟩
instance : TStruct Tryz.prog 112 [(0, 1), (1, 1)] := ⟨by kernel_rfl⟩
instance : TField Tryz.prog 112 0 0 := ⟨by kernel_rfl⟩
instance : TField Tryz.prog 112 1 1 := ⟨by kernel_rfl⟩
instance : TFieldV Tryz.prog 112 0 0 1 false := ⟨by kernel_rfl⟩
instance : TFieldV Tryz.prog 112 1 1 1 false := ⟨by kernel_rfl⟩
instance : EqTy Tryz.prog 112 2 := EqTy.of (by kernel_rfl) (by kernel_rfl) (by kernel_rfl)
instance : TAgg Tryz.prog 118 3 := ⟨by kernel_rfl⟩
instance : TSize Tryz.prog 118 3 := ⟨by kernel_rfl⟩
instance : TZero Tryz.prog 118 [(.int .i64 0), (.int .i64 0), (.int .i64 0)] := ⟨by kernel_rfl⟩
instance : TArr Tryz.prog 118 3 3 1 := ⟨by kernel_rfl⟩
instance : TAgg Tryz.prog 122 3 := ⟨by kernel_rfl⟩
instance : TSize Tryz.prog 122 3 := ⟨by kernel_rfl⟩
instance : TZero Tryz.prog 122 [(.int .i64 0), (.int .i64 0), (.int .i64 0)] := ⟨by kernel_rfl⟩
instance : TStruct Tryz.prog 122 [(0, 2), (2, 1)] := ⟨by kernel_rfl⟩
instance : TField Tryz.prog 122 0 0 := ⟨by kernel_rfl⟩
instance : TField Tryz.prog 122 1 2 := ⟨by kernel_rfl⟩
instance : TFieldV Tryz.prog 122 0 0 2 true := ⟨by kernel_rfl⟩
instance : TFieldV Tryz.prog 122 1 2 1 false := ⟨by kernel_rfl⟩
instance : EqTy Tryz.prog 122 3 := EqTy.of (by kernel_rfl) (by kernel_rfl) (by kernel_rfl)
instance : TOne Tryz.prog 124 := ⟨by kernel_rfl⟩
instance : TSize Tryz.prog 124 1 := ⟨by kernel_rfl⟩
instance : TZero Tryz.prog 124 [(.pointer none)] := ⟨by kernel_rfl⟩
instance : TOne Tryz.prog 125 := ⟨by kernel_rfl⟩
instance : TSize Tryz.prog 125 1 := ⟨by kernel_rfl⟩
instance : TZero Tryz.prog 125 [(.slice none 0 0)] := ⟨by kernel_rfl⟩
instance : TSlice Tryz.prog 125 51 1 24 := ⟨by kernel_rfl⟩
instance : TOne Tryz.prog 130 := ⟨by kernel_rfl⟩
instance : TSize Tryz.prog 130 1 := ⟨by kernel_rfl⟩
instance : TZero Tryz.prog 130 [(.slice none 0 0)] := ⟨by kernel_rfl⟩
instance : TSlice Tryz.prog 130 3 1 8 := ⟨by kernel_rfl⟩
instance : TOne Tryz.prog 132 := ⟨by kernel_rfl⟩
instance : TSize Tryz.prog 132 1 := ⟨by kernel_rfl⟩
instance : TZero Tryz.prog 132 [(.pointer none)] := ⟨by kernel_rfl⟩

/- cmp.Or[int] : names 0 vals, 1 vals, 3 zero, 4 _, 5 val -/
def s73 (P : Program) (arg0 : Value) (K : Value → WP) : WP :=
  Do P (vBuiltin .len #[130] 3 [arg0]) fun t1_7 =>
  Lp (α := Value) (fun c2 s2 => Jk fun _ => -- t8
   Do P (V (binOp .lss 3 s2 t1_7)) fun t3_9 =>
   If t3_9 (
    Do P (V (Instr.indexAt 130 arg0 s2)) fun t4_10 =>
    Do P (V (Instr.loadAt 3 t4_10)) fun t5_11 =>
    Do P (V (EqG .neq 3 (.tmp 12) (.tmp 13) t5_11 (.int .i64 0))) fun t6_14 =>
    If t6_14 (
     K t5_11
    ) (
     Do P (V (binOp .add 3 s2 (.int .i64 1))) fun t7_16 =>
     c2 t7_16
    )
   ) (
    K (.int .i64 0)
   )
  ) (.int .i64 0)
def A73 : Ann := .s (.n) (.s (.n) (.s (.s (.n) (.lp [8] 130852 (.s (.n) (.s (.s (.n) (.n)) (.s (.s (.n) (.s (.n) (.s (.s (.n) (.n)) (.n)))) (.n)))))) (.s (.n) (.n))))
set_option maxRecDepth 100000 in
theorem c73 (arg0 : Value) (K : Value → WP) (w : World) (h : s73 Tryz.prog arg0 K w) : Runs Tryz.prog 73 [arg0] K w :=
  runs_of_E wide (fn := Tryz.f73) (c := Tryz.f73.body.getD .skip) 18 A73 [arg0] w K Tryz.func73 (by kernel_rfl) (by kernel_rfl) (by kernel_rfl) (by kernel_rfl)
    (Eq.mp (by kernel_rfl : s73 Tryz.prog arg0 K w = E Tryz.prog (Tryz.f73.body.getD .skip) A73 (topK Tryz.prog K Tryz.f73.results) (fun i => (([arg0] : List Value)[i]?).getD undef) w) h)
theorem ct73 {arg0 : Value} {h : Hp} {post : Hp → Value → Prop} (hg : ∀ w0, Gs w0 h h [] (s73 Tryz.prog arg0 (RetP w0 h post))) : Ct Tryz.prog 73 [arg0] h post := Ct.of (sf := s73 Tryz.prog arg0) (c73 arg0) hg
theorem in73 {arg0 : Value} {S : WP} {K : Value → WP} (hg : G S (s73 Tryz.prog arg0 K)) : G S (Do Tryz.prog (vCall (.func (.func 73) #[] ⟨[]⟩) [arg0]) K) := Gs.into (args := [arg0]) (caps := []) (sf := s73 Tryz.prog arg0) (c73 arg0) hg

/- cmp.Compare[int] : names 0 x, 1 y, 2 x, 3 y, 5 xNaN, 6 yNaN -/
def s74 (P : Program) (arg0 arg1 : Value) (K : Value → WP) : WP :=
  Do P (vCall (.func (.func 87) #[] ⟨[]⟩) [arg0]) fun t1_8 =>
  Do P (vCall (.func (.func 87) #[] ⟨[]⟩) [arg1]) fun t2_10 =>
  If t1_8 (
   If t2_10 (
    K (.int .i64 0)
   ) (
    K (.int .i64 (-1))
   )
  ) (
   If t2_10 (
    K (.int .i64 1)
   ) (
    Do P (V (binOp .lss 3 arg0 arg1)) fun t3_16 =>
    If t3_16 (
     K (.int .i64 (-1))
    ) (
     Do P (V (binOp .gtr 3 arg0 arg1)) fun t4_19 =>
     If t4_19 (
      K (.int .i64 1)
     ) (
      K (.int .i64 0)
     )
    )
   )
  )
def A74 : Ann := .s (.n) (.s (.n) (.s (.n) (.s (.s (.n) (.s (.s (.s (.n) (.s (.s (.n) (.n)) (.n))) (.s (.n) (.n))) (.n))) (.s (.s (.n) (.s (.s (.n) (.n)) (.n))) (.s (.s (.n) (.s (.s (.n) (.n)) (.n))) (.s (.s (.n) (.s (.s (.n) (.n)) (.n))) (.s (.n) (.n))))))))
set_option maxRecDepth 100000 in
theorem c74 (arg0 arg1 : Value) (K : Value → WP) (w : World) (h : s74 Tryz.prog arg0 arg1 K w) : Runs Tryz.prog 74 [arg0, arg1] K w :=
  runs_of_E wide (fn := Tryz.f74) (c := Tryz.f74.body.getD .skip) 20 A74 [arg0, arg1] w K Tryz.func74 (by kernel_rfl) (by kernel_rfl) (by kernel_rfl) (by kernel_rfl)
    (Eq.mp (by kernel_rfl : s74 Tryz.prog arg0 arg1 K w = E Tryz.prog (Tryz.f74.body.getD .skip) A74 (topK Tryz.prog K Tryz.f74.results) (fun i => (([arg0, arg1] : List Value)[i]?).getD undef) w) h)
theorem ct74 {arg0 arg1 : Value} {h : Hp} {post : Hp → Value → Prop} (hg : ∀ w0, Gs w0 h h [] (s74 Tryz.prog arg0 arg1 (RetP w0 h post))) : Ct Tryz.prog 74 [arg0, arg1] h post := Ct.of (sf := s74 Tryz.prog arg0 arg1) (c74 arg0 arg1) hg
theorem in74 {arg0 arg1 : Value} {S : WP} {K : Value → WP} (hg : G S (s74 Tryz.prog arg0 arg1 K)) : G S (Do Tryz.prog (vCall (.func (.func 74) #[] ⟨[]⟩) [arg0, arg1]) K) := Gs.into (args := [arg0, arg1]) (caps := []) (sf := s74 Tryz.prog arg0 arg1) (c74 arg0 arg1) hg

/- cmp.isNaN[int] : names 0 x, 1 x -/
def s87 (P : Program) (arg0 : Value) (K : Value → WP) : WP :=
  Do P (V (EqG .neq 3 (.tmp 3) (.tmp 4) arg0 arg0)) fun t1_5 =>
  K t1_5
def A87 : Ann := .s (.n) (.s (.n) (.n))
set_option maxRecDepth 100000 in
theorem c87 (arg0 : Value) (K : Value → WP) (w : World) (h : s87 Tryz.prog arg0 K w) : Runs Tryz.prog 87 [arg0] K w :=
  runs_of_E wide (fn := Tryz.f87) (c := Tryz.f87.body.getD .skip) 6 A87 [arg0] w K Tryz.func87 (by kernel_rfl) (by kernel_rfl) (by kernel_rfl) (by kernel_rfl)
    (Eq.mp (by kernel_rfl : s87 Tryz.prog arg0 K w = E Tryz.prog (Tryz.f87.body.getD .skip) A87 (topK Tryz.prog K Tryz.f87.results) (fun i => (([arg0] : List Value)[i]?).getD undef) w) h)
theorem ct87 {arg0 : Value} {h : Hp} {post : Hp → Value → Prop} (hg : ∀ w0, Gs w0 h h [] (s87 Tryz.prog arg0 (RetP w0 h post))) : Ct Tryz.prog 87 [arg0] h post := Ct.of (sf := s87 Tryz.prog arg0) (c87 arg0) hg
theorem in87 {arg0 : Value} {S : WP} {K : Value → WP} (hg : G S (s87 Tryz.prog arg0 K)) : G S (Do Tryz.prog (vCall (.func (.func 87) #[] ⟨[]⟩) [arg0]) K) := Gs.into (args := [arg0]) (caps := []) (sf := s87 Tryz.prog arg0) (c87 arg0) hg

/- skewer/skewerlaw20.sanity : names 1 zero, 2 one, 3 less, 4 star, 5 half, 6 hot, 7 x, 8 is, 9 _, 10 no, 11 five, 12 e, 13 y, 14 ok, 15 _, 16 f, 17 _, 18 g, 19 texts, 20 numbers, 21 order -/
def s4 (P : Program) (K : Value → WP) : WP :=
  Do P (vBuild 28 []) fun t1_22 =>
  Do P (V (Instr.alloc 28 true (.tuple #[]))) fun zero2 =>
  Do P (U (Instr.storeAt 28 zero2 t1_22)) fun t3_x =>
  Do P (V (Instr.loadAt 28 zero2)) fun t4_23 =>
  Do P (vBuildSlice 26 1 [(0, t4_23)]) fun t5_24 =>
  Do P (vCall (.func (.func 25) #[] ⟨[]⟩) [t5_24, (.slice none 0 0)]) fun t6_25 =>
  Do P (V (Instr.alloc 28 true (.tuple #[]))) fun one7 =>
  Do P (U (Instr.storeAt 28 one7 t6_25)) fun t8_x =>
  Do P (V (Instr.loadAt 28 zero2)) fun t9_26 =>
  Do P (vBuildSlice 26 1 [(0, t9_26)]) fun t10_27 =>
  Do P (vCall (.func (.func 25) #[] ⟨[]⟩) [(.slice none 0 0), t10_27]) fun t11_28 =>
  Do P (V (Instr.alloc 28 true (.tuple #[]))) fun less12 =>
  Do P (U (Instr.storeAt 28 less12 t11_28)) fun t13_x =>
  Dr <|
  AllO [
   ([], fun f14 K => Do P (V (Instr.loadAt 28 zero2)) K),
   ([0], fun f14 K => Do P (vBuildSlice 26 1 [(0, (f14 0))]) K),
   ([], fun f14 K => Do P (V (Instr.loadAt 28 zero2)) K),
   ([2], fun f14 K => Do P (vBuildSlice 26 1 [(0, (f14 2))]) K),
   ([1, 3], fun f14 K => Do P (vCall (.func (.func 25) #[] ⟨[]⟩) [(f14 1), (f14 3)]) K),
   ([], fun f14 K => Do P (V (Instr.loadAt 28 zero2)) K),
   ([5], fun f14 K => Do P (vBuildSlice 26 1 [(0, (f14 5))]) K),
   ([], fun f14 K => Do P (V (Instr.loadAt 28 one7)) K),
   ([7], fun f14 K => Do P (vBuildSlice 26 1 [(0, (f14 7))]) K),
   ([6, 8, 4], fun f14 K => Do P (vCall (.func (.func 25) #[] ⟨[]⟩) [(f14 6), (f14 8)]) K),
   ([], fun f14 K => Do P (V (Instr.loadAt 28 one7)) K),
   ([10], fun f14 K => Do P (vBuildSlice 26 1 [(0, (f14 10))]) K),
   ([], fun f14 K => Do P (V (Instr.loadAt 28 less12)) K),
   ([12], fun f14 K => Do P (vBuildSlice 26 1 [(0, (f14 12))]) K),
   ([11, 13, 9], fun f14 K => Do P (vCall (.func (.func 25) #[] ⟨[]⟩) [(f14 11), (f14 13)]) K),
   ([], fun f14 K => Do P (V (Instr.alloc 28 true (.tuple #[]))) K),
   ([], fun f14 K => Do P (V (Instr.alloc 28 true (.tuple #[]))) K),
   ([], fun f14 K => Do P (V (Instr.alloc 28 true (.tuple #[]))) K),
   ([15, 4, 14, 0, 1, 2, 3, 4, 15, 16, 17], fun f14 K => Do P (U (Instr.storeAt 28 (f14 15) (f14 4))) K),
   ([16, 9, 18, 0, 1, 2, 3, 4, 5, 6, 7, 8, 9, 15, 16, 17, 18], fun f14 K => Do P (U (Instr.storeAt 28 (f14 16) (f14 9))) K),
   ([17, 14, 19, 0, 1, 2, 3, 4, 5, 6, 7, 8, 9, 10, 11, 12, 13, 14, 15, 16, 17, 18, 19], fun f14 K => Do P (U (Instr.storeAt 28 (f14 17) (f14 14))) K)
  ] fun f14 =>
  Do P (V (Instr.loadAt 28 (f14 16))) fun t15_45 =>
  Do P (vCall (.func (.func 19) #[] ⟨[]⟩) [t15_45]) fun t16_46 =>
  Do P (V (Instr.extract t16_46 0)) fun t17_47 =>
  Do P (V (Instr.extract t16_46 1)) fun t18_48 =>
  Do P (V (Instr.alloc 36 true (.tuple #[]))) fun x19 =>
  Do P (U (Instr.storeAt 36 x19 t17_47)) fun t20_x =>
  Do P (V (Instr.loadAt 28 (f14 15))) fun t21_50 =>
  Do P (vCall (.func (.func 19) #[] ⟨[]⟩) [t21_50]) fun t22_51 =>
  Do P (V (Instr.extract t22_51 0)) fun t23_52 =>
  Do P (V (Instr.extract t22_51 1)) fun t24_53 =>
  Do P (V (Instr.alloc 36 true (.tuple #[]))) fun t25_9 =>
  Do P (U (Instr.storeAt 36 t25_9 t23_52)) fun t26_x =>
  Do P (vBuild 36 [(0, (.int .i64 5))]) fun t27_55 =>
  Do P (vCall (.func (.func 21) #[] ⟨[]⟩) [t27_55]) fun t28_56 =>
  Do P (V (Instr.extract t28_56 0)) fun t29_57 =>
  Do P (V (Instr.extract t28_56 1)) fun t30_58 =>
  Do P (V (Instr.alloc 28 true (.tuple #[]))) fun five31 =>
  Do P (U (Instr.storeAt 28 five31 t29_57)) fun t32_x =>
  Do P (V (Instr.loadAt 28 less12)) fun t33_60 =>
  Do P (vBuildSlice 26 1 [(0, t33_60)]) fun t34_61 =>
  Do P (V (Instr.loadAt 28 five31)) fun t35_62 =>
  Do P (vBuildSlice 26 1 [(0, t35_62)]) fun t36_63 =>
  Do P (vCall (.func (.func 25) #[] ⟨[]⟩) [t34_61, t36_63]) fun t37_64 =>
  Do P (vCall (.func (.func 19) #[] ⟨[]⟩) [t37_64]) fun t38_65 =>
  Do P (V (Instr.extract t38_65 0)) fun t39_66 =>
  Do P (V (Instr.extract t38_65 1)) fun t40_67 =>
  Do P (V (Instr.alloc 36 true (.tuple #[]))) fun y41 =>
  Do P (U (Instr.storeAt 36 y41 t39_66)) fun t42_x =>
  Do P (vBuild 36 [(0, (.int .i64 2000))]) fun t43_69 =>
  Do P (vCall (.func (.func 21) #[] ⟨[]⟩) [t43_69]) fun t44_70 =>
  Do P (V (Instr.extract t44_70 0)) fun t45_71 =>
  Do P (V (Instr.extract t44_70 1)) fun t46_72 =>
  Do P (V (Instr.alloc 28 true (.tuple #[]))) fun t47_15 =>
  Do P (U (Instr.storeAt 28 t47_15 t45_71)) fun t48_x =>
  Do P (vBuild 36 [(0, (.int .i64 2)), (1, (.int .i64 1))]) fun t49_74 =>
  Do P (vCall (.func (.func 21) #[] ⟨[]⟩) [t49_74]) fun t50_75 =>
  Do P (V (Instr.extract t50_75 0)) fun t51_76 =>
  Do P (V (Instr.extract t50_75 1)) fun t52_77 =>
  Do P (V (Instr.alloc 28 true (.tuple #[]))) fun t53_17 =>
  Do P (U (Instr.storeAt 28 t53_17 t51_76)) fun t54_x =>
  Jn (α := Value) (fun j55 => Jk fun _ => -- texts
   Jn (α := Value) (fun j56 => Jk fun _ => -- numbers
    Jn (α := Value) (fun j57 => Jk fun _ => -- order
     Dr <|
     Gd j55 true (
      Gd j56 true (
       Gd j57 true (
        Qk P (V (Instr.loadAt 28 one7)) fun C58 t58_194 =>
        Do P (vCall (.func (.func 23) #[] ⟨[]⟩) [t58_194, (.int .i64 0)]) fun t59_195 =>
        Qk P (V (EqG .eql 3 (.tmp 195) (.const (.int .i64 0)) t59_195 (.int .i64 0))) fun C60 t60_196 =>
        Gd t60_196 true (
         Qk P (V (Instr.loadAt 28 one7)) fun C61 t61_199 =>
         Do P (vCall (.func (.func 23) #[] ⟨[]⟩) [t61_199, (.int .i64 1)]) fun t62_200 =>
         Qk P (V (EqG .eql 3 (.tmp 200) (.const (.int .i64 0)) t62_200 (.int .i64 0))) fun C63 t63_201 =>
         Gd t63_201 true (
          Qk P (V (Instr.loadAt 28 (f14 15))) fun C64 t64_204 =>
          Do P (vCall (.func (.func 23) #[] ⟨[]⟩) [t64_204, (.int .i64 0)]) fun t65_205 =>
          Qk P (V (EqG .eql 3 (.tmp 205) (.const (.int .i64 0)) t65_205 (.int .i64 0))) fun C66 t66_206 =>
          Gd t66_206 true (
           Qk P (V (Instr.loadAt 28 (f14 15))) fun C67 t67_209 =>
           Do P (vCall (.func (.func 23) #[] ⟨[]⟩) [t67_209, (.int .i64 1)]) fun t68_210 =>
           Qk P (V (EqG .eql 3 (.tmp 210) (.const (.int .i64 1)) t68_210 (.int .i64 1))) fun C69 t69_211 =>
           Gd t69_211 true (
            Qk P (V (Instr.loadAt 28 zero2)) fun C70 t70_214 =>
            Do P (vCall (.func (.func 23) #[] ⟨[]⟩) [t70_214, (.int .i64 0)]) fun t71_215 =>
            Qk P (V (EqG .eql 3 (.tmp 215) (.const (.int .i64 1)) t71_215 (.int .i64 1))) fun C72 t72_216 =>
            Gd t72_216 true (
             Qk P (V (Instr.loadAt 28 one7)) fun C73 t73_219 =>
             Qk P (V (Instr.loadAt 28 less12)) fun C74 t74_221 =>
             Do P (vCall (.func (.func 13) #[] ⟨[]⟩) [t73_219]) fun t75_220 =>
             With C74 <|
             Do P (vCall (.func (.func 12) #[] ⟨[]⟩) [t75_220, t74_221]) fun t76_222 =>
             K t76_222
            ) (
             K (.bool false)
            )
           ) (
            K (.bool false)
           )
          ) (
           K (.bool false)
          )
         ) (
          K (.bool false)
         )
        ) (
         K (.bool false)
        )
       ) (
        K (.bool false)
       )
      ) (
       K (.bool false)
      )
     ) (
      K (.bool false)
     )
    ) fun k57 =>
    Dr <|
    Qk P (V (Instr.loadAt 28 zero2)) fun C77 t77_134 =>
    Qk P (V (Instr.loadAt 28 one7)) fun C78 t78_135 =>
    Do P (vCall (.func (.func 8) #[] ⟨[]⟩) [t77_134, t78_135]) fun t79_136 =>
    Gd t79_136 true (
     Qk P (V (Instr.loadAt 28 one7)) fun C80 t80_138 =>
     Qk P (V (Instr.loadAt 28 zero2)) fun C81 t81_139 =>
     Do P (vCall (.func (.func 8) #[] ⟨[]⟩) [t80_138, t81_139]) fun t82_140 =>
     Qk P (V (Op.unary .not t82_140)) fun C83 t83_141 =>
     Gd t83_141 true (
      Qk P (V (Instr.loadAt 28 (f14 15))) fun C84 t84_144 =>
      Qk P (V (Instr.loadAt 28 zero2)) fun C85 t85_145 =>
      Do P (vCall (.func (.func 8) #[] ⟨[]⟩) [t84_144, t85_145]) fun t86_146 =>
      Qk P (V (Op.unary .not t86_146)) fun C87 t87_147 =>
      Gd t87_147 true (
       Qk P (V (Instr.loadAt 28 zero2)) fun C88 t88_150 =>
       Qk P (V (Instr.loadAt 28 (f14 15))) fun C89 t89_151 =>
       Do P (vCall (.func (.func 8) #[] ⟨[]⟩) [t88_150, t89_151]) fun t90_152 =>
       Qk P (V (Op.unary .not t90_152)) fun C91 t91_153 =>
       Gd t91_153 true (
        Qk P (V (Instr.loadAt 28 (f14 17))) fun C92 t92_156 =>
        Qk P (V (Instr.loadAt 28 one7)) fun C93 t93_157 =>
        Do P (vCall (.func (.func 8) #[] ⟨[]⟩) [t92_156, t93_157]) fun t94_158 =>
        Qk P (V (Op.unary .not t94_158)) fun C95 t95_159 =>
        Gd t95_159 true (
         Qk P (V (Instr.loadAt 28 one7)) fun C96 t96_162 =>
         Qk P (V (Instr.loadAt 28 (f14 17))) fun C97 t97_163 =>
         Do P (vCall (.func (.func 8) #[] ⟨[]⟩) [t96_162, t97_163]) fun t98_164 =>
         Qk P (V (Op.unary .not t98_164)) fun C99 t99_165 =>
         Gd t99_165 true (
          Qk P (V (Instr.loadAt 28 (f14 17))) fun C100 t100_168 =>
          Qk P (V (Instr.loadAt 28 one7)) fun C101 t101_169 =>
          Do P (vBuildSlice 26 1 [(0, t101_169)]) fun t102_170 =>
          With C100 <|
          Do P (vCall (.func (.func 25) #[] ⟨[]⟩) [t102_170, (.slice none 0 0)]) fun t103_171 =>
          With C100 <|
          Do P (vCall (.func (.func 8) #[] ⟨[]⟩) [t100_168, t103_171]) fun t104_172 =>
          Gd t104_172 true (
           Qk P (V (Instr.loadAt 28 (f14 17))) fun C105 t105_175 =>
           Qk P (V (Instr.loadAt 28 zero2)) fun C106 t106_176 =>
           Do P (vCall (.func (.func 8) #[] ⟨[]⟩) [t105_175, t106_176]) fun t107_177 =>
           Qk P (V (Op.unary .not t107_177)) fun C108 t108_178 =>
           Gd t108_178 true (
            Qk P (V (Instr.loadAt 28 zero2)) fun C109 t109_181 =>
            Qk P (V (Instr.loadAt 28 (f14 17))) fun C110 t110_182 =>
            Do P (vCall (.func (.func 8) #[] ⟨[]⟩) [t109_181, t110_182]) fun t111_183 =>
            Qk P (V (Op.unary .not t111_183)) fun C112 t112_184 =>
            k57 t112_184
           ) (
            k57 (.bool false)
           )
          ) (
           k57 (.bool false)
          )
         ) (
          k57 (.bool false)
         )
        ) (
         k57 (.bool false)
        )
       ) (
        k57 (.bool false)
       )
      ) (
       k57 (.bool false)
      )
     ) (
      k57 (.bool false)
     )
    ) (
     k57 (.bool false)
    )
   ) fun k56 =>
   Gd t18_48 true (
    Do P (V (Instr.loadAt 36 x19)) fun t113_101 =>
    Do P (vBuild 36 [(0, (.int .i64 1)), (1, (.int .i64 1))]) fun t114_102 =>
    Do P (V (EqG .eql 36 (.tmp 101) (.tmp 102) t113_101 t114_102)) fun t115_103 =>
    Gd t115_103 true (
     Do P (V (Op.unary .not t24_53)) fun t116_107 =>
     Gd t116_107 true (
      Do P (V (EqG .eql 39 (.tmp 110) (.const (.int .i64 0)) t30_58 (.int .i64 0))) fun t117_111 =>
      Gd t117_111 true (
       Gd t40_67 true (
        Do P (V (Instr.loadAt 36 y41)) fun t118_117 =>
        Do P (vBuild 36 []) fun t119_118 =>
        Do P (V (EqG .eql 36 (.tmp 117) (.tmp 118) t118_117 t119_118)) fun t120_119 =>
        Gd t120_119 true (
         Do P (V (EqG .eql 39 (.tmp 122) (.const (.int .i64 2)) t46_72 (.int .i64 2))) fun t121_123 =>
         Gd t121_123 true (
          Do P (V (EqG .eql 39 (.tmp 126) (.const (.int .i64 190)) t52_77 (.int .i64 190))) fun t122_127 =>
          Gd t122_127 true (
           Do P (V (Instr.loadAt 28 five31)) fun t123_130 =>
           Do P (vCall (.func (.func 6) #[] ⟨[]⟩) [t123_130]) fun t124_131 =>
           Do P (V (EqG .eql 3 (.tmp 131) (.const (.int .i64 6)) t124_131 (.int .i64 6))) fun t125_132 =>
           k56 t125_132
          ) (
           k56 (.bool false)
          )
         ) (
          k56 (.bool false)
         )
        ) (
         k56 (.bool false)
        )
       ) (
        k56 (.bool false)
       )
      ) (
       k56 (.bool false)
      )
     ) (
      k56 (.bool false)
     )
    ) (
     k56 (.bool false)
    )
   ) (
    k56 (.bool false)
   )
  ) fun k55 =>
  Do P (V (Instr.loadAt 28 zero2)) fun t126_78 =>
  Do P (vCall (.func (.func 10) #[] ⟨[]⟩) [t126_78]) fun t127_79 =>
  Do P (V (EqG .eql 9 (.tmp 79) (.const (.string ⟨#[123, 124, 125]⟩)) t127_79 (.string ⟨#[123, 124, 125]⟩))) fun t128_80 =>
  Gd t128_80 true (
   Do P (V (Instr.loadAt 28 one7)) fun t129_82 =>
   Do P (vCall (.func (.func 10) #[] ⟨[]⟩) [t129_82]) fun t130_83 =>
   Do P (V (EqG .eql 9 (.tmp 83) (.const (.string ⟨#[123, 123, 124, 125, 124, 125]⟩)) t130_83 (.string ⟨#[123, 123, 124, 125, 124, 125]⟩))) fun t131_84 =>
   Gd t131_84 true (
    Do P (V (Instr.loadAt 28 (f14 16))) fun t132_87 =>
    Do P (vCall (.func (.func 10) #[] ⟨[]⟩) [t132_87]) fun t133_88 =>
    Do P (V (EqG .eql 9 (.tmp 88) (.const (.string ⟨#[123, 123, 124, 125, 124, 123, 123, 124, 125, 124, 125, 125]⟩)) t133_88 (.string ⟨#[123, 123, 124, 125, 124, 123, 123, 124, 125, 124, 125, 125]⟩))) fun t134_89 =>
    Gd t134_89 true (
     Do P (V (Instr.loadAt 28 (f14 15))) fun t135_92 =>
     Do P (V (Instr.loadAt 28 (f14 15))) fun t136_93 =>
     Do P (vCall (.func (.func 17) #[] ⟨[]⟩) [t135_92, t136_93]) fun t137_94 =>
     Do P (vCall (.func (.func 15) #[] ⟨[]⟩) [t137_94]) fun t138_95 =>
     Do P (vCall (.func (.func 10) #[] ⟨[]⟩) [t138_95]) fun t139_96 =>
     Do P (V (EqG .eql 9 (.tmp 96) (.const (.string ⟨#[123, 124, 125]⟩)) t139_96 (.string ⟨#[123, 124, 125]⟩))) fun t140_97 =>
     k55 t140_97
    ) (
     k55 (.bool false)
    )
   ) (
    k55 (.bool false)
   )
  ) (
   k55 (.bool false)
  )
def A4 : Ann := .s (.n) (.s (.n) (.s (.n) (.s (.n) (.s (.all [(29, 0), (30, 1), (31, 2), (32, 3), (33, 4), (34, 5), (35, 6), (36, 7), (37, 8), (38, 9), (39, 10), (40, 11), (41, 12), (42, 13), (43, 14), (4, 15), (5, 16), (6, 17)]) (.s (.n) (.s (.n) (.s (.n) (.s (.n) (.s (.n) (.s (.n) (.j [19] 633824997882659797091058450432 (.n) (.j [20] 21778071482306236361541860174884814979072 (.n) (.j [21] 98079714615416865156862726797558126095624428186587103232 (.plan [(0, 2, 21778071482940061661655974875633165533184), (0, 4, 43556142965880123323311949751266331066368), (3, 65334214448820184984967924626899496599552, 87112285931760246646623899502532662132736), (4, 87112285931760246646623899502532662132736, 174224571863520493293247799005065324265472), (8, 174224571863520493293247799005065324265476, 348449143727040986586495598010130648530944), (8, 174224571863520493293247799005065324265474, 696898287454081973172991196020261297061888), (56, 1219572003044643453052734593035457269858304, 1393796574908163946345982392040522594123776), (72, 1568021146771684439639230191045587918389248, 2787593149816327892691964784081045188247552), (136, 2961817721679848385985212583086110512513024, 5575186299632655785383929568162090376495104), (320, 5575186299632655785383929568162090376495104, 11150372599265311570767859136324180752990208), (512, 11150372599265311570767859136324180752990224, 22300745198530623141535718272648361505980416), (512, 11150372599265311570767859136324180752990210, 44601490397061246283071436545296723011960832), (3584, 78052608194857180995375013954269265270931456, 89202980794122492566142873090593446023921664), (4608, 100353353393387804136910732226917626776911872, 178405961588244985132285746181186892047843328), (8704, 189556334187510296703053605317511072800833536, 356811923176489970264571492362373784095686656), (20480, 356811923176489970264571492362373784095686656, 713623846352979940529142984724747568191373312), (32768, 713623846352979940529142984724747568191373314, 1427247692705959881058285969449495136382746624), (32768, 713623846352979940529142984724747568191373328, 2854495385411919762116571938898990272765493248), (229376, 4995366924470859583704000893073232977339613184, 5708990770823839524233143877797980545530986496), (294912, 6422614617176819464762286862522728113722359808, 11417981541647679048466287755595961091061972992), (557056, 12131605388000658988995430740320708659253346304, 22835963083295358096932575511191922182123945984), (1310720, 22835963083295358096932575511191922182123945984, 45671926166590716193865151022383844364247891968), (2097152, 45671926166590716193865151022383844364247892032, 91343852333181432387730302044767688728495783936), (2097152, 45671926166590716193865151022383844364247891972, 182687704666362864775460604089535377456991567872), (14680064, 319703483166135013357056057156686910549735243776, 365375409332725729550921208179070754913983135744), (18874368, 411047335499316445744786359201454599278231027712, 730750818665451459101842416358141509827966271488), (35651584, 776422744832042175295707567380525354192214163456, 1461501637330902918203684832716283019655932542976), (83886080, 1461501637330902918203684832716283019655932542976, 2923003274661805836407369665432566039311865085952), (134217728, 2923003274661805836407369665432566039311865085956, 5846006549323611672814739330865132078623730171904), (134217728, 2923003274661805836407369665432566039311865086016, 11692013098647223345629478661730264157247460343808), (939524096, 20461022922632640854851587658027962275183055601664, 23384026197294446691258957323460528314494920687616), (1207959552, 26307029471956252527666326988893094353806785773568, 46768052394588893382517914646921056628989841375232), (2281701376, 49691055669250699218925284312353622668301706461184, 93536104789177786765035829293842113257979682750464), (5368709120, 93536104789177786765035829293842113257979682750464, 187072209578355573530071658587684226515959365500928), (8589934592, 187072209578355573530071658587684226515959365500992, 374144419156711147060143317175368453031918731001856), (8589934592, 187072209578355573530071658587684226515959365500932, 748288838313422294120286634350736906063837462003712), (42949672960, 935361047891777867650358292938421132579796827504640, 1496577676626844588240573268701473812127674924007424), (77309411328, 1683649886205200161770644927289158038643634289508352, 2993155353253689176481146537402947624255349848014848), (163208757248, 3554371981988755897071361513166000303803227944517632, 5986310706507378352962293074805895248510699696029696), (283467841536, 6173382916085733926492364733393579475026659061530624, 11972621413014756705924586149611790497021399392059392), (824633720832, 11972621413014756705924586149611790497021399392059392, 23945242826029513411849172299223580994042798784118784), (1099511627776, 23945242826029513411849172299223580994042798784118848, 47890485652059026823698344598447161988085597568237568), (1099511627776, 23945242826029513411849172299223580994042798784118786, 95780971304118053647396689196894323976171195136475136), (7696581394432, 167616699782206593882944206094565066958299591488831488, 191561942608236107294793378393788647952342390272950272), (9895604649984, 215507185434265620706642550693012228946385189057069056, 383123885216472214589586756787577295904684780545900544), (18691697672192, 407069128042501728001435929086800876898727579330019328, 766247770432944429179173513575154591809369561091801088), (43980465111040, 766247770432944429179173513575154591809369561091801088, 1532495540865888858358347027150309183618739122183602176), (70368744177664, 1532495540865888858358347027150309183618739122183602178, 3064991081731777716716694054300618367237478244367204352), (70368744177664, 1532495540865888858358347027150309183618739122183602240, 6129982163463555433433388108601236734474956488734408704), (492581209243648, 10727468786061222008508429190052164285331173855285215232, 12259964326927110866866776217202473468949912977468817408), (633318697598976, 13792459867792999725225123244352782652568652099652419584, 24519928653854221733733552434404946937899825954937634816), (1196268651020288, 26052424194720110592091899461555256121518565077121236992, 49039857307708443467467104868809893875799651909875269632), (4503599627370495, 49039857307708443467467104868809893875799651909875269632, 2097152)] (.q 0 (.q 1 (.l 2 (.q 3 (.q 4 (.q 5 (.l 6 (.q 7 (.q 8 (.q 9 (.q 10 (.q 11 (.l 12 (.q 13 (.q 14 (.q 15 (.q 16 (.q 17 (.l 18 (.q 19 (.q 20 (.q 21 (.q 22 (.q 23 (.l 24 (.q 25 (.q 26 (.q 27 (.q 28 (.q 29 (.l 30 (.q 31 (.q 32 (.q 33 (.q 34 (.q 35 (.l 36 (.l 37 (.l 38 (.q 39 (.q 40 (.q 41 (.q 42 (.l 43 (.q 44 (.q 45 (.q 46 (.q 47 (.q 48 (.l 49 (.q 50 (.q 51 (.q 52 .done)))))))))))))))))))))))))))))))))))))))))))))))))))))) (.s (.plan [(0, 524288, 98079714615416886934934209737619787751599303819750539264), (1, 98079714615416886934934209737619787751599303819750539264, 196159429230833773869868419475239575503198607639501078528), (2, 196159429230833773869868419475239575503198607639502127104, 392318858461667547739736838950479151006397215279002157056), (6, 588478287692501321609605258425718726509595822918503235584, 784637716923335095479473677900958302012794430558004314112), (10, 784637716923335095479473677900958302012794430558004314112, 1569275433846670190958947355801916604025588861116008628224), (16, 1569275433846670190958947355801916604025588861116010725376, 3138550867693340381917894711603833208051177722232017256448), (48, 4707826301540010572876842067405749812076766583348025884672, 6277101735386680763835789423207666416102355444464034512896), (80, 6277101735386680763835789423207666416102355444464034512896, 12554203470773361527671578846415332832204710888928069025792), (128, 12554203470773361527671578846415332832204710888928069025796, 25108406941546723055343157692830665664409421777856138051584), (384, 37662610412320084583014736539245998496614132666784207077376, 50216813883093446110686315385661331328818843555712276103168), (640, 62771017353866807638357894232076664161023554444640345128960, 100433627766186892221372630771322662657637687111424552206336), (1152, 112987831236960253749044209617737995489842398000352621232128, 200867255532373784442745261542645325315275374222849104412672), (2560, 200867255532373784442745261542645325315275374222849104412672, 401734511064747568885490523085290650630550748445698208825344), (4096, 401734511064747568885490523085290650630550748445698208825348, 803469022129495137770981046170581301261101496891396417650688), (12288, 1205203533194242706656471569255871951891652245337094626476032, 1606938044258990275541962092341162602522202993782792835301376), (20480, 2008672555323737844427452615426453253152753742228491044126720, 3213876088517980551083924184682325205044405987565585670602752), (36864, 3615610599582728119969414707767615855674956736011283879428096, 6427752177035961102167848369364650410088811975131171341205504), (81920, 6427752177035961102167848369364650410088811975131171341205504, 12855504354071922204335696738729300820177623950262342682411008), (131072, 12855504354071922204335696738729300820177623950262342682411024, 25711008708143844408671393477458601640355247900524685364822016), (393216, 38566513062215766613007090216187902460532871850787028047233024, 51422017416287688817342786954917203280710495801049370729644032), (655360, 64277521770359611021678483693646504100888119751311713412055040, 102844034832575377634685573909834406561420991602098741459288064), (1179648, 115699539186647299839021270648563707381598615552361084141699072, 205688069665150755269371147819668813122841983204197482918576128), (2621440, 205688069665150755269371147819668813122841983204197482918576128, 411376139330301510538742295639337626245683966408394965837152256), (4194304, 411376139330301510538742295639337626245683966408394965837152272, 822752278660603021077484591278675252491367932816789931674304512), (12582912, 1234128417990904531616226886918012878737051899225184897511456768, 1645504557321206042154969182557350504982735865633579863348609024), (20971520, 2056880696651507552693711478196688131228419832041974829185761280, 3291009114642412084309938365114701009965471731267159726697218048), (37748736, 3702385253972713594848680660754038636211155697675554692534370304, 6582018229284824168619876730229402019930943462534319453394436096), (83886080, 6582018229284824168619876730229402019930943462534319453394436096, 13164036458569648337239753460458804039861886925068638906788872192), (134217728, 13164036458569648337239753460458804039861886925068638906788872194, 26328072917139296674479506920917608079723773850137277813577744384), (402653184, 39492109375708945011719260381376412119585660775205916720366616576, 52656145834278593348959013841835216159447547700274555627155488768), (671088640, 65820182292848241686198767302294020199309434625343194533944360960, 105312291668557186697918027683670432318895095400549111254310977536), (1207959552, 118476328127126835035157781144129236358756982325617750161099849728, 210624583337114373395836055367340864637790190801098222508621955072), (2684354560, 210624583337114373395836055367340864637790190801098222508621955072, 421249166674228746791672110734681729275580381602196445017243910144), (4294967296, 421249166674228746791672110734681729275580381602196445017243910148, 842498333348457493583344221469363458551160763204392890034487820288), (12884901888, 1263747500022686240375016332204045187826741144806589335051731730432, 1684996666696914987166688442938726917102321526408785780068975640576), (4294967296, 421249166674228746791672110734681729275580381602196445017243910152, 3369993333393829974333376885877453834204643052817571560137951281152), (55834574848, 5476239166764973708291737439550862480582544960828553785224170831872, 6739986666787659948666753771754907668409286105635143120275902562304), (73014444032, 7161235833461888695458425882489589397684866487237339565293146472448, 13479973333575319897333507543509815336818572211270286240551805124608), (274877906943, 13479973333575319897333507543509815336818572211270286240551805124608, 1)] (.q 0 (.q 1 (.q 2 (.q 3 (.q 4 (.q 5 (.q 6 (.q 7 (.q 8 (.l 9 (.q 10 (.q 11 (.q 12 (.q 13 (.l 14 (.q 15 (.q 16 (.q 17 (.q 18 (.l 19 (.q 20 (.q 21 (.q 22 (.q 23 (.l 24 (.q 25 (.q 26 (.q 27 (.q 28 (.l 29 (.q 30 (.q 31 (.q 32 (.q 33 (.q 35 (.l 34 (.l 36 (.q 37 (.q 38 .done)))))))))))))))))))))))))))))))))))))))) (.n)))))))))))))))
set_option maxRecDepth 100000 in
theorem c4 (K : Value → WP) (w : World) (h : s4 Tryz.prog  K w) : Runs Tryz.prog 4 [] K w :=
  runs_of_E wide (fn := Tryz.f4) (c := Tryz.f4.body.getD .skip) 224 A4 [] w K Tryz.func4 (by kernel_rfl) (by kernel_rfl) (by kernel_rfl) (by kernel_rfl)
    (Eq.mp (by kernel_rfl : s4 Tryz.prog  K w = E Tryz.prog (Tryz.f4.body.getD .skip) A4 (topK Tryz.prog K Tryz.f4.results) (fun i => (([] : List Value)[i]?).getD undef) w) h)
theorem ct4 {h : Hp} {post : Hp → Value → Prop} (hg : ∀ w0, Gs w0 h h [] (s4 Tryz.prog  (RetP w0 h post))) : Ct Tryz.prog 4 [] h post := Ct.of (sf := s4 Tryz.prog ) (c4 ) hg
theorem in4 {S : WP} {K : Value → WP} (hg : G S (s4 Tryz.prog  K)) : G S (Do Tryz.prog (vCall (.func (.func 4) #[] ⟨[]⟩) []) K) := Gs.into (args := []) (caps := []) (sf := s4 Tryz.prog ) (c4 ) hg

/- skewer/skewerref20.Made : names 0 l, 1 size, 2 l, 3 size, 5 forms, 6 i, 7 a, 8 b, 9 c, 10 f -/
def s5 (P : Program) (arg0 arg1 : Value) (K : Value → WP) : WP :=
  Do P (V (Instr.alloc 28 true (.tuple #[]))) fun t1_4 =>
  Do P (vBuild 28 []) fun t2_11 =>
  Do P (vBuildSlice 26 1 [(0, t2_11)]) fun t3_12 =>
  Lp (α := Value × Value) (fun c4 s4 => Jk fun _ => -- forms i
   Jn (α := Value) (fun j5 => Jk fun _ => -- t20
    If j5 (
     Jn (α := Value) (fun j6 => Jk fun _ => -- forms
      Do P (V (binOp .add 3 s4.2 (.int .i64 1))) fun t7_22 =>
      c4 (j6, t7_22)
     ) fun k6 =>
     Jn (α := Value × Value × Value) (fun j8 => Jk fun _ => -- a b c
      Do P (V (Instr.loadAt 28 j8.1)) fun t9_52 =>
      Do P (vBuildSlice 26 1 [(0, t9_52)]) fun t10_53 =>
      Do P (V (Instr.loadAt 28 j8.2.1)) fun t11_54 =>
      Do P (vBuildSlice 26 1 [(0, t11_54)]) fun t12_55 =>
      Do P (vBuild 28 [(0, t10_53), (1, t12_55)]) fun t13_56 =>
      Do P (V (Instr.alloc 28 true (.tuple #[]))) fun f14 =>
      Do P (U (Instr.storeAt 28 f14 t13_56)) fun t15_x =>
      Jn (α := Unit) (fun j16 => Jk fun _ => -- 
       Do P (V (Instr.loadAt 28 f14)) fun t17_90 =>
       Do P (vCall (.func (.func 7) #[] ⟨[]⟩) [t17_90]) fun t18_91 =>
       Do P (V (binOp .leq 3 t18_91 arg1)) fun t19_93 =>
       If t19_93 (
        Do P (V (Instr.loadAt 28 f14)) fun t20_95 =>
        Do P (vBuildSlice 26 1 [(0, t20_95)]) fun t21_96 =>
        Do P (vBuiltin .append #[26, 26] 26 [s4.1, t21_96]) fun t22_97 =>
        k6 t22_97
       ) (
        k6 s4.1
       )
      ) fun k16 =>
      Do P (V (Instr.indexAt 22 arg0 s4.2)) fun t23_59 =>
      Do P (V (Instr.loadAt 5 t23_59)) fun t24_60 =>
      Do P (V (binOp .quo 5 t24_60 (.int .u8 32))) fun t25_61 =>
      Jn (α := Value) (fun j26 => Jk fun _ => -- t62
       If j26 (
        Do P (V (Instr.loadAt 28 j8.2.2)) fun t27_65 =>
        Do P (vBuildSlice 26 1 [(0, t27_65)]) fun t28_66 =>
        Do P (vBuild 28 [(0, t28_66)]) fun t29_67 =>
        Do P (U (Instr.storeAt 28 f14 t29_67)) fun t30_x =>
        k16 ()
       ) (
        Jn (α := Value) (fun j31 => Jk fun _ => -- t68
         If j31 (
          Do P (V (Instr.loadAt 28 j8.2.2)) fun t32_71 =>
          Do P (vBuildSlice 26 1 [(0, t32_71)]) fun t33_72 =>
          Do P (vBuild 28 [(1, t33_72)]) fun t34_73 =>
          Do P (U (Instr.storeAt 28 f14 t34_73)) fun t35_x =>
          k16 ()
         ) (
          Do P (V (EqG .eql 5 (.tmp 61) (.const (.int .u8 4)) t25_61 (.int .u8 4))) fun t36_75 =>
          If t36_75 (
           Do P (V (Instr.loadAt 28 j8.1)) fun t37_76 =>
           Do P (V (Instr.loadAt 28 j8.2.2)) fun t38_77 =>
           Do P (vBuildSlice 26 2 [(0, t37_76), (1, t38_77)]) fun t39_78 =>
           Do P (V (Instr.loadAt 28 j8.2.1)) fun t40_79 =>
           Do P (vBuildSlice 26 1 [(0, t40_79)]) fun t41_80 =>
           Do P (vBuild 28 [(0, t39_78), (1, t41_80)]) fun t42_81 =>
           Do P (U (Instr.storeAt 28 f14 t42_81)) fun t43_x =>
           k16 ()
          ) (
           Do P (V (EqG .eql 5 (.tmp 61) (.const (.int .u8 5)) t25_61 (.int .u8 5))) fun t44_83 =>
           If t44_83 (
            Do P (V (Instr.loadAt 28 j8.1)) fun t45_84 =>
            Do P (vBuildSlice 26 1 [(0, t45_84)]) fun t46_85 =>
            Do P (V (Instr.loadAt 28 j8.2.2)) fun t47_86 =>
            Do P (V (Instr.loadAt 28 j8.2.1)) fun t48_87 =>
            Do P (vBuildSlice 26 2 [(0, t47_86), (1, t48_87)]) fun t49_88 =>
            Do P (vBuild 28 [(0, t46_85), (1, t49_88)]) fun t50_89 =>
            Do P (U (Instr.storeAt 28 f14 t50_89)) fun t51_x =>
            k16 ()
           ) (
            k16 ()
           )
          )
         )
        ) fun k31 =>
        Do P (V (EqG .eql 5 (.tmp 61) (.const (.int .u8 2)) t25_61 (.int .u8 2))) fun t52_69 =>
        If t52_69 (
         k31 t52_69
        ) (
         Do P (V (EqG .eql 5 (.tmp 61) (.const (.int .u8 3)) t25_61 (.int .u8 3))) fun t53_70 =>
         k31 t53_70
        )
       )
      ) fun k26 =>
      Do P (V (EqG .eql 5 (.tmp 61) (.const (.int .u8 0)) t25_61 (.int .u8 0))) fun t54_63 =>
      If t54_63 (
       k26 t54_63
      ) (
       Do P (V (EqG .eql 5 (.tmp 61) (.const (.int .u8 1)) t25_61 (.int .u8 1))) fun t55_64 =>
       k26 t55_64
      )
     ) fun k8 =>
     Dr <|
     Qk P (V (Instr.indexAt 22 arg0 s4.2)) fun C56 t56_26 =>
     Qk P (V (Instr.loadAt 5 t56_26)) fun C57 t57_27 =>
     Qk P (V (convert 5 3 t57_27)) fun C58 t58_28 =>
     Qk P (vBuiltin .len #[26] 3 [s4.1]) fun C59 t59_30 =>
     Qk P (V (binOp .rem 3 t58_28 t59_30)) fun C60 t60_31 =>
     Qk P (V (Instr.indexAt 26 s4.1 t60_31)) fun C61 t61_32 =>
     Qk P (V (Instr.loadAt 28 t61_32)) fun C62 t62_33 =>
     Qk P (V (Instr.indexAt 22 arg0 s4.2)) fun C63 t63_37 =>
     Qk P (V (Instr.loadAt 5 t63_37)) fun C64 t64_38 =>
     Qk P (V (binOp .quo 5 t64_38 (.int .u8 4))) fun C65 t65_39 =>
     Qk P (V (convert 5 3 t65_39)) fun C66 t66_40 =>
     Qk P (vBuiltin .len #[26] 3 [s4.1]) fun C67 t67_42 =>
     Qk P (V (binOp .rem 3 t66_40 t67_42)) fun C68 t68_43 =>
     Qk P (V (Instr.indexAt 26 s4.1 t68_43)) fun C69 t69_44 =>
     Qk P (V (Instr.loadAt 28 t69_44)) fun C70 t70_45 =>
     Qk P (vBuiltin .len #[26] 3 [s4.1]) fun C71 t71_48 =>
     Qk P (V (binOp .sub 3 t71_48 (.int .i64 1))) fun C72 t72_49 =>
     Qk P (V (Instr.indexAt 26 s4.1 t72_49)) fun C73 t73_50 =>
     Qk P (V (Instr.loadAt 28 t73_50)) fun C74 t74_51 =>
     Or2 (
      Do P (V (Instr.alloc 28 true (.tuple #[]))) fun a75 =>
      With C74 <|
      With C73 <|
      With C72 <|
      With C71 <|
      With C70 <|
      With C69 <|
      With C68 <|
      With C67 <|
      With C66 <|
      With C65 <|
      With C64 <|
      With C63 <|
      With C62 <|
      With C61 <|
      With C60 <|
      With C59 <|
      With C58 <|
      With C57 <|
      With C56 <|
      Or2 (
       Do P (V (Instr.alloc 28 true (.tuple #[]))) fun b76 =>
       With C74 <|
       With C73 <|
       With C72 <|
       With C71 <|
       With C70 <|
       With C69 <|
       With C68 <|
       With C67 <|
       With C66 <|
       With C65 <|
       With C64 <|
       With C63 <|
       With C62 <|
       With C61 <|
       With C60 <|
       With C59 <|
       With C58 <|
       With C57 <|
       With C56 <|
       Do P (V (Instr.alloc 28 true (.tuple #[]))) fun c77 =>
       With C74 <|
       With C73 <|
       With C72 <|
       With C71 <|
       With C70 <|
       With C69 <|
       With C68 <|
       With C67 <|
       With C66 <|
       With C65 <|
       With C64 <|
       With C63 <|
       With C62 <|
       With C61 <|
       With C60 <|
       With C59 <|
       With C58 <|
       With C57 <|
       With C56 <|
       Do P (U (Instr.storeAt 28 a75 t62_33)) fun t78_x =>
       With C74 <|
       With C73 <|
       With C72 <|
       With C71 <|
       With C70 <|
       With C69 <|
       With C68 <|
       With C67 <|
       With C66 <|
       With C65 <|
       With C64 <|
       With C63 <|
       Do P (U (Instr.storeAt 28 b76 t70_45)) fun t79_x =>
       With C74 <|
       With C73 <|
       With C72 <|
       With C71 <|
       Do P (U (Instr.storeAt 28 c77 t74_51)) fun t80_x =>
       k8 (a75, b76, c77)
      ) (
       Do P (V (Instr.alloc 28 true (.tuple #[]))) fun c81 =>
       With C74 <|
       With C73 <|
       With C72 <|
       With C71 <|
       With C70 <|
       With C69 <|
       With C68 <|
       With C67 <|
       With C66 <|
       With C65 <|
       With C64 <|
       With C63 <|
       With C62 <|
       With C61 <|
       With C60 <|
       With C59 <|
       With C58 <|
       With C57 <|
       With C56 <|
       Do P (V (Instr.alloc 28 true (.tuple #[]))) fun b82 =>
       With C74 <|
       With C73 <|
       With C72 <|
       With C71 <|
       With C70 <|
       With C69 <|
       With C68 <|
       With C67 <|
       With C66 <|
       With C65 <|
       With C64 <|
       With C63 <|
       With C62 <|
       With C61 <|
       With C60 <|
       With C59 <|
       With C58 <|
       With C57 <|
       With C56 <|
       Do P (U (Instr.storeAt 28 a75 t62_33)) fun t83_x =>
       With C74 <|
       With C73 <|
       With C72 <|
       With C71 <|
       With C70 <|
       With C69 <|
       With C68 <|
       With C67 <|
       With C66 <|
       With C65 <|
       With C64 <|
       With C63 <|
       Do P (U (Instr.storeAt 28 b82 t70_45)) fun t84_x =>
       With C74 <|
       With C73 <|
       With C72 <|
       With C71 <|
       Do P (U (Instr.storeAt 28 c81 t74_51)) fun t85_x =>
       k8 (a75, b82, c81)
      )
     ) (
      Or2 (
       Do P (V (Instr.alloc 28 true (.tuple #[]))) fun b86 =>
       With C74 <|
       With C73 <|
       With C72 <|
       With C71 <|
       With C70 <|
       With C69 <|
       With C68 <|
       With C67 <|
       With C66 <|
       With C65 <|
       With C64 <|
       With C63 <|
       With C62 <|
       With C61 <|
       With C60 <|
       With C59 <|
       With C58 <|
       With C57 <|
       With C56 <|
       Or2 (
        Do P (V (Instr.alloc 28 true (.tuple #[]))) fun a87 =>
        With C74 <|
        With C73 <|
        With C72 <|
        With C71 <|
        With C70 <|
        With C69 <|
        With C68 <|
        With C67 <|
        With C66 <|
        With C65 <|
        With C64 <|
        With C63 <|
        With C62 <|
        With C61 <|
        With C60 <|
        With C59 <|
        With C58 <|
        With C57 <|
        With C56 <|
        Do P (V (Instr.alloc 28 true (.tuple #[]))) fun c88 =>
        With C74 <|
        With C73 <|
        With C72 <|
        With C71 <|
        With C70 <|
        With C69 <|
        With C68 <|
        With C67 <|
        With C66 <|
        With C65 <|
        With C64 <|
        With C63 <|
        With C62 <|
        With C61 <|
        With C60 <|
        With C59 <|
        With C58 <|
        With C57 <|
        With C56 <|
        Do P (U (Instr.storeAt 28 a87 t62_33)) fun t89_x =>
        With C74 <|
        With C73 <|
        With C72 <|
        With C71 <|
        With C70 <|
        With C69 <|
        With C68 <|
        With C67 <|
        With C66 <|
        With C65 <|
        With C64 <|
        With C63 <|
        Do P (U (Instr.storeAt 28 b86 t70_45)) fun t90_x =>
        With C74 <|
        With C73 <|
        With C72 <|
        With C71 <|
        Do P (U (Instr.storeAt 28 c88 t74_51)) fun t91_x =>
        k8 (a87, b86, c88)
       ) (
        Do P (V (Instr.alloc 28 true (.tuple #[]))) fun c92 =>
        With C74 <|
        With C73 <|
        With C72 <|
        With C71 <|
        With C70 <|
        With C69 <|
        With C68 <|
        With C67 <|
        With C66 <|
        With C65 <|
        With C64 <|
        With C63 <|
        With C62 <|
        With C61 <|
        With C60 <|
        With C59 <|
        With C58 <|
        With C57 <|
        With C56 <|
        Do P (V (Instr.alloc 28 true (.tuple #[]))) fun a93 =>
        With C74 <|
        With C73 <|
        With C72 <|
        With C71 <|
        With C70 <|
        With C69 <|
        With C68 <|
        With C67 <|
        With C66 <|
        With C65 <|
        With C64 <|
        With C63 <|
        With C62 <|
        With C61 <|
        With C60 <|
        With C59 <|
        With C58 <|
        With C57 <|
        With C56 <|
        Do P (U (Instr.storeAt 28 a93 t62_33)) fun t94_x =>
        With C74 <|
        With C73 <|
        With C72 <|
        With C71 <|
        With C70 <|
        With C69 <|
        With C68 <|
        With C67 <|
        With C66 <|
        With C65 <|
        With C64 <|
        With C63 <|
        Do P (U (Instr.storeAt 28 b86 t70_45)) fun t95_x =>
        With C74 <|
        With C73 <|
        With C72 <|
        With C71 <|
        Do P (U (Instr.storeAt 28 c92 t74_51)) fun t96_x =>
        k8 (a93, b86, c92)
       )
      ) (
       Do P (V (Instr.alloc 28 true (.tuple #[]))) fun c97 =>
       With C74 <|
       With C73 <|
       With C72 <|
       With C71 <|
       With C70 <|
       With C69 <|
       With C68 <|
       With C67 <|
       With C66 <|
       With C65 <|
       With C64 <|
       With C63 <|
       With C62 <|
       With C61 <|
       With C60 <|
       With C59 <|
       With C58 <|
       With C57 <|
       With C56 <|
       Or2 (
        Do P (V (Instr.alloc 28 true (.tuple #[]))) fun a98 =>
        With C74 <|
        With C73 <|
        With C72 <|
        With C71 <|
        With C70 <|
        With C69 <|
        With C68 <|
        With C67 <|
        With C66 <|
        With C65 <|
        With C64 <|
        With C63 <|
        With C62 <|
        With C61 <|
        With C60 <|
        With C59 <|
        With C58 <|
        With C57 <|
        With C56 <|
        Do P (V (Instr.alloc 28 true (.tuple #[]))) fun b99 =>
        With C74 <|
        With C73 <|
        With C72 <|
        With C71 <|
        With C70 <|
        With C69 <|
        With C68 <|
        With C67 <|
        With C66 <|
        With C65 <|
        With C64 <|
        With C63 <|
        With C62 <|
        With C61 <|
        With C60 <|
        With C59 <|
        With C58 <|
        With C57 <|
        With C56 <|
        Do P (U (Instr.storeAt 28 a98 t62_33)) fun t100_x =>
        With C74 <|
        With C73 <|
        With C72 <|
        With C71 <|
        With C70 <|
        With C69 <|
        With C68 <|
        With C67 <|
        With C66 <|
        With C65 <|
        With C64 <|
        With C63 <|
        Do P (U (Instr.storeAt 28 b99 t70_45)) fun t101_x =>
        With C74 <|
        With C73 <|
        With C72 <|
        With C71 <|
        Do P (U (Instr.storeAt 28 c97 t74_51)) fun t102_x =>
        k8 (a98, b99, c97)
       ) (
        Do P (V (Instr.alloc 28 true (.tuple #[]))) fun b103 =>
        With C74 <|
        With C73 <|
        With C72 <|
        With C71 <|
        With C70 <|
        With C69 <|
        With C68 <|
        With C67 <|
        With C66 <|
        With C65 <|
        With C64 <|
        With C63 <|
        With C62 <|
        With C61 <|
        With C60 <|
        With C59 <|
        With C58 <|
        With C57 <|
        With C56 <|
        Do P (V (Instr.alloc 28 true (.tuple #[]))) fun a104 =>
        With C74 <|
        With C73 <|
        With C72 <|
        With C71 <|
        With C70 <|
        With C69 <|
        With C68 <|
        With C67 <|
        With C66 <|
        With C65 <|
        With C64 <|
        With C63 <|
        With C62 <|
        With C61 <|
        With C60 <|
        With C59 <|
        With C58 <|
        With C57 <|
        With C56 <|
        Do P (U (Instr.storeAt 28 a104 t62_33)) fun t105_x =>
        With C74 <|
        With C73 <|
        With C72 <|
        With C71 <|
        With C70 <|
        With C69 <|
        With C68 <|
        With C67 <|
        With C66 <|
        With C65 <|
        With C64 <|
        With C63 <|
        Do P (U (Instr.storeAt 28 b103 t70_45)) fun t106_x =>
        With C74 <|
        With C73 <|
        With C72 <|
        With C71 <|
        Do P (U (Instr.storeAt 28 c97 t74_51)) fun t107_x =>
        k8 (a104, b103, c97)
       )
      )
     )
    ) (
     Do P (vBuiltin .len #[26] 3 [s4.1]) fun t108_100 =>
     Do P (V (binOp .sub 3 t108_100 (.int .i64 1))) fun t109_101 =>
     Do P (V (Instr.indexAt 26 s4.1 t109_101)) fun t110_102 =>
     Do P (V (Instr.loadAt 28 t110_102)) fun t111_103 =>
     Do P (U (Instr.storeAt 28 t1_4 t111_103)) fun t112_x =>
     RetC P 28 t1_4 K
    )
   ) fun k5 =>
   Do P (vBuiltin .len #[22] 3 [arg0]) fun t113_15 =>
   Do P (V (binOp .lss 3 s4.2 t113_15)) fun t114_16 =>
   Gd t114_16 true (
    Do P (V (binOp .lss 3 s4.2 (.int .i64 12))) fun t115_19 =>
    k5 t115_19
   ) (
    k5 (.bool false)
   )
  ) (t3_12, (.int .i64 0))
def A5 : Ann := .s (.n) (.s (.n) (.s (.s (.n) (.lp [5, 6] 316912650057057350374175795168 (.s (.j [20] 2088960 (.n) (.s (.n) (.n))) (.j [5] 316912650057057350374167414688 (.j [7, 8, 9] 4503599618982784 (.plan [(0, 32, 8388608), (0, 1, 16777216), (0, 64, 33554432), (6, 50331648, 67108864), (8, 67108864, 134217728), (16, 134217728, 268435456), (0, 32, 536870912), (64, 536870912, 1073741824), (160, 1342177280, 2147483648), (257, 2155872256, 4294967296), (512, 4294967296, 8589934592), (0, 32, 17179869184), (0, 1, 34359738368), (0, 64, 68719476736), (12288, 103079215104, 137438953472), (16384, 137438953472, 274877906944), (32768, 274877906944, 549755813888), (65536, 549755813888, 1099511627776), (0, 32, 2199023255552), (262144, 2199023255552, 4398046511104), (655360, 5497558138880, 8796093022208), (1050624, 8813272891392, 17592186044416), (2097152, 17592186044416, 35184372088832), (0, 32, 70368744177664), (0, 32, 140737488355328), (16777216, 140737488355328, 281474976710656), (33554432, 281474976710656, 562949953421312), (75497472, 633318697598976, 1125899906842624), (134217728, 1125899906842624, 2251799813685248), (0, 0, 128), (0, 0, 256), (0, 0, 512), (3758098431, 8589934720, 0), (8061452287, 35184372089088, 0), (17179869183, 2251799813685760, 0)] (.q 0 (.q 1 (.q 2 (.q 3 (.q 4 (.q 5 (.q 6 (.q 7 (.q 8 (.q 9 (.q 10 (.q 11 (.q 12 (.q 13 (.q 14 (.q 15 (.q 16 (.q 17 (.q 18 (.q 19 (.q 20 (.q 21 (.q 22 (.q 23 (.q 24 (.q 25 (.q 26 (.q 27 (.q 28 (.or (.l 29 (.or (.l 30 (.l 31 (.l 32 (.l 33 (.l 34 .done))))) (.l 31 (.l 30 (.l 32 (.l 33 (.l 34 .done))))))) (.or (.l 30 (.or (.l 29 (.l 31 (.l 32 (.l 33 (.l 34 .done))))) (.l 31 (.l 29 (.l 32 (.l 33 (.l 34 .done))))))) (.l 31 (.or (.l 29 (.l 30 (.l 32 (.l 33 (.l 34 .done))))) (.l 30 (.l 29 (.l 32 (.l 33 (.l 34 .done))))))))))))))))))))))))))))))))))))))) (.s (.n) (.j [] 1237940039141265086823268352 (.s (.n) (.j [62] 32281802128991715328 (.s (.n) (.s (.n) (.n))) (.s (.n) (.j [68] 2066035336255469780992 (.s (.n) (.s (.n) (.n))) (.s (.n) (.s (.n) (.s (.n) (.s (.n) (.s (.n) (.n)))))))))) (.s (.n) (.s (.n) (.n)))))) (.n))))) (.s (.n) (.n))))
set_option maxRecDepth 100000 in
theorem c5 (arg0 arg1 : Value) (K : Value → WP) (w : World) (h : s5 Tryz.prog arg0 arg1 K w) : Runs Tryz.prog 5 [arg0, arg1] K w :=
  runs_of_E wide (fn := Tryz.f5) (c := Tryz.f5.body.getD .skip) 104 A5 [arg0, arg1] w K Tryz.func5 (by kernel_rfl) (by kernel_rfl) (by kernel_rfl) (by kernel_rfl)
    (Eq.mp (by kernel_rfl : s5 Tryz.prog arg0 arg1 K w = E Tryz.prog (Tryz.f5.body.getD .skip) A5 (topK Tryz.prog K Tryz.f5.results) (fun i => (([arg0, arg1] : List Value)[i]?).getD undef) w) h)
theorem ct5 {arg0 arg1 : Value} {h : Hp} {post : Hp → Value → Prop} (hg : ∀ w0, Gs w0 h h [] (s5 Tryz.prog arg0 arg1 (RetP w0 h post))) : Ct Tryz.prog 5 [arg0, arg1] h post := Ct.of (sf := s5 Tryz.prog arg0 arg1) (c5 arg0 arg1) hg
theorem in5 {arg0 arg1 : Value} {S : WP} {K : Value → WP} (hg : G S (s5 Tryz.prog arg0 arg1 K)) : G S (Do Tryz.prog (vCall (.func (.func 5) #[] ⟨[]⟩) [arg0, arg1]) K) := Gs.into (args := [arg0, arg1]) (caps := []) (sf := s5 Tryz.prog arg0 arg1) (c5 arg0 arg1) hg

/- skewer/value.Size : names 0 f, 1 f, 3 n, 4 _, 5 l, 6 _, 7 x -/
def s6 (P : Program) (arg0 : Value) (K : Value → WP) : WP :=
  Do P (V (Instr.box 28 arg0)) fun f1 =>
  Do P (V (Instr.fieldAt 28 f1 0)) fun t2_8 =>
  Do P (V (Instr.loadAt 26 t2_8)) fun t3_9 =>
  Do P (V (Instr.fieldAt 28 f1 1)) fun t4_10 =>
  Do P (V (Instr.loadAt 26 t4_10)) fun t5_11 =>
  Do P (vBuild 45 [(0, t3_9), (1, t5_11)]) fun t6_12 =>
  Lp (α := Value × Value) (fun c7 s7 => Jk fun _ => -- n t13
   Do P (V (binOp .lss 3 s7.2 (.int .i64 2))) fun t8_14 =>
   If t8_14 (
    Do P (V (Instr.index 45 t6_12 s7.2)) fun t9_15 =>
    Do P (vBuiltin .len #[26] 3 [t9_15]) fun t10_17 =>
    Lp (α := Value × Value) (fun c11 s11 => Jk fun _ => -- n t18
     Do P (V (binOp .lss 3 s11.2 t10_17)) fun t12_19 =>
     If t12_19 (
      Do P (V (Instr.indexAt 26 t9_15 s11.2)) fun t13_20 =>
      Do P (V (Instr.loadAt 28 t13_20)) fun t14_21 =>
      Do P (V (Instr.alloc 28 true (.tuple #[]))) fun x15 =>
      Do P (U (Instr.storeAt 28 x15 t14_21)) fun t16_x =>
      Do P (V (Instr.loadAt 28 x15)) fun t17_23 =>
      Do P (vCall (.func (.func 6) #[] ⟨[]⟩) [t17_23]) fun t18_24 =>
      Do P (V (binOp .add 3 s11.1 t18_24)) fun t19_25 =>
      Do P (V (binOp .add 3 s11.2 (.int .i64 1))) fun t20_26 =>
      c11 (t19_25, t20_26)
     ) (
      Do P (V (binOp .add 3 s7.2 (.int .i64 1))) fun t21_27 =>
      c7 (s11.1, t21_27)
     )
    ) (s7.1, (.int .i64 0))
   ) (
    K s7.1
   )
  ) ((.int .i64 1), (.int .i64 0))
def A6 : Ann := .s (.n) (.s (.n) (.s (.s (.n) (.lp [3, 13] 268427432 (.s (.n) (.s (.s (.n) (.n)) (.s (.s (.n) (.s (.n) (.lp [3, 18] 133955720 (.s (.n) (.s (.s (.n) (.n)) (.s (.s (.n) (.n)) (.n))))))) (.n)))))) (.s (.n) (.n))))
set_option maxRecDepth 100000 in
theorem c6 (arg0 : Value) (K : Value → WP) (w : World) (h : s6 Tryz.prog arg0 K w) : Runs Tryz.prog 6 [arg0] K w :=
  runs_of_E wide (fn := Tryz.f6) (c := Tryz.f6.body.getD .skip) 29 A6 [arg0] w K Tryz.func6 (by kernel_rfl) (by kernel_rfl) (by kernel_rfl) (by kernel_rfl)
    (Eq.mp (by kernel_rfl : s6 Tryz.prog arg0 K w = E Tryz.prog (Tryz.f6.body.getD .skip) A6 (topK Tryz.prog K Tryz.f6.results) (fun i => (([arg0] : List Value)[i]?).getD undef) w) h)
theorem ct6 {arg0 : Value} {h : Hp} {post : Hp → Value → Prop} (hg : ∀ w0, Gs w0 h h [] (s6 Tryz.prog arg0 (RetP w0 h post))) : Ct Tryz.prog 6 [arg0] h post := Ct.of (sf := s6 Tryz.prog arg0) (c6 arg0) hg
theorem in6 {arg0 : Value} {S : WP} {K : Value → WP} (hg : G S (s6 Tryz.prog arg0 K)) : G S (Do Tryz.prog (vCall (.func (.func 6) #[] ⟨[]⟩) [arg0]) K) := Gs.into (args := [arg0]) (caps := []) (sf := s6 Tryz.prog arg0) (c6 arg0) hg

/- skewer/skewerref20.Size : names 0 f, 1 f, 3 n, 4 i, 5 i -/
def s7 (P : Program) (arg0 : Value) (K : Value → WP) : WP :=
  Do P (V (Instr.box 28 arg0)) fun f1 =>
  Lp (α := Value × Value) (fun c2 s2 => Jk fun _ => -- n i
   Do P (V (Instr.fieldAt 28 f1 0)) fun t3_7 =>
   Do P (V (Instr.loadAt 26 t3_7)) fun t4_8 =>
   Do P (vBuiltin .len #[26] 3 [t4_8]) fun t5_9 =>
   Do P (V (binOp .lss 3 s2.2 t5_9)) fun t6_10 =>
   If t6_10 (
    Do P (V (Instr.fieldAt 28 f1 0)) fun t7_14 =>
    Do P (V (Instr.loadAt 26 t7_14)) fun t8_15 =>
    Do P (V (Instr.indexAt 26 t8_15 s2.2)) fun t9_17 =>
    Do P (V (Instr.loadAt 28 t9_17)) fun t10_18 =>
    Do P (vCall (.func (.func 7) #[] ⟨[]⟩) [t10_18]) fun t11_19 =>
    Do P (V (binOp .add 3 s2.1 t11_19)) fun t12_20 =>
    Do P (V (binOp .add 3 s2.2 (.int .i64 1))) fun t13_12 =>
    c2 (t12_20, t13_12)
   ) (
    Lp (α := Value × Value) (fun c14 s14 => Jk fun _ => -- n i
     Do P (V (Instr.fieldAt 28 f1 1)) fun t15_22 =>
     Do P (V (Instr.loadAt 26 t15_22)) fun t16_23 =>
     Do P (vBuiltin .len #[26] 3 [t16_23]) fun t17_24 =>
     Do P (V (binOp .lss 3 s14.2 t17_24)) fun t18_25 =>
     If t18_25 (
      Do P (V (Instr.fieldAt 28 f1 1)) fun t19_29 =>
      Do P (V (Instr.loadAt 26 t19_29)) fun t20_30 =>
      Do P (V (Instr.indexAt 26 t20_30 s14.2)) fun t21_32 =>
      Do P (V (Instr.loadAt 28 t21_32)) fun t22_33 =>
      Do P (vCall (.func (.func 7) #[] ⟨[]⟩) [t22_33]) fun t23_34 =>
      Do P (V (binOp .add 3 s14.1 t23_34)) fun t24_35 =>
      Do P (V (binOp .add 3 s14.2 (.int .i64 1))) fun t25_27 =>
      c14 (t24_35, t25_27)
     ) (
      K s14.1
     )
    ) (s2.1, (.int .i64 0))
   )
  ) ((.int .i64 1), (.int .i64 0))
def A7 : Ann := .s (.n) (.s (.n) (.s (.s (.n) (.lp [3, 4] 2097112 (.s (.s (.n) (.s (.n) (.n))) (.s (.n) (.n))))) (.s (.s (.n) (.lp [3, 5] 68717379624 (.s (.s (.n) (.s (.n) (.n))) (.s (.n) (.n))))) (.s (.n) (.n)))))
set_option maxRecDepth 100000 in
theorem c7 (arg0 : Value) (K : Value → WP) (w : World) (h : s7 Tryz.prog arg0 K w) : Runs Tryz.prog 7 [arg0] K w :=
  runs_of_E wide (fn := Tryz.f7) (c := Tryz.f7.body.getD .skip) 37 A7 [arg0] w K Tryz.func7 (by kernel_rfl) (by kernel_rfl) (by kernel_rfl) (by kernel_rfl)
    (Eq.mp (by kernel_rfl : s7 Tryz.prog arg0 K w = E Tryz.prog (Tryz.f7.body.getD .skip) A7 (topK Tryz.prog K Tryz.f7.results) (fun i => (([arg0] : List Value)[i]?).getD undef) w) h)
theorem ct7 {arg0 : Value} {h : Hp} {post : Hp → Value → Prop} (hg : ∀ w0, Gs w0 h h [] (s7 Tryz.prog arg0 (RetP w0 h post))) : Ct Tryz.prog 7 [arg0] h post := Ct.of (sf := s7 Tryz.prog arg0) (c7 arg0) hg
theorem in7 {arg0 : Value} {S : WP} {K : Value → WP} (hg : G S (s7 Tryz.prog arg0 K)) : G S (Do Tryz.prog (vCall (.func (.func 7) #[] ⟨[]⟩) [arg0]) K) := Gs.into (args := [arg0]) (caps := []) (sf := s7 Tryz.prog arg0) (c7 arg0) hg

/- skewer/value.Leq : names 0 a, 1 b, 2 a, 3 b, 5 k -/
def s8 (P : Program) (arg0 arg1 : Value) (K : Value → WP) : WP :=
  Do P (V (Instr.box 28 arg0)) fun a1 =>
  Do P (V (Instr.box 28 arg1)) fun b2 =>
  Do P (vCall (.func (.func 26) #[] ⟨[]⟩) []) fun t3_6 =>
  Dr <|
  Qk P (V (Instr.loadAt 28 a1)) fun C4 t4_9 =>
  Qk P (V (Instr.loadAt 28 b2)) fun C5 t5_12 =>
  Do P (vCall (.func (.func 28) #[] ⟨[]⟩) [t3_6, t4_9]) fun t6_10 =>
  With C5 <|
  Do P (vCall (.func (.func 28) #[] ⟨[]⟩) [t3_6, t5_12]) fun t7_13 =>
  Do P (vCall (.func (.func 27) #[] ⟨[]⟩) [t3_6, t6_10, t7_13]) fun t8_14 =>
  K t8_14
def A8 : Ann := .s (.n) (.s (.n) (.s (.plan [(0, 32, 128), (0, 32, 256), (0, 4, 512), (6, 768, 1024), (0, 32, 2048), (0, 8, 4096), (56, 6144, 8192), (73, 9344, 16384), (255, 16384, 16)] (.q 0 (.q 1 (.q 2 (.q 4 (.q 5 (.l 3 (.l 6 (.l 7 (.q 8 .done)))))))))) (.n)))
set_option maxRecDepth 100000 in
theorem c8 (arg0 arg1 : Value) (K : Value → WP) (w : World) (h : s8 Tryz.prog arg0 arg1 K w) : Runs Tryz.prog 8 [arg0, arg1] K w :=
  runs_of_E wide (fn := Tryz.f8) (c := Tryz.f8.body.getD .skip) 15 A8 [arg0, arg1] w K Tryz.func8 (by kernel_rfl) (by kernel_rfl) (by kernel_rfl) (by kernel_rfl)
    (Eq.mp (by kernel_rfl : s8 Tryz.prog arg0 arg1 K w = E Tryz.prog (Tryz.f8.body.getD .skip) A8 (topK Tryz.prog K Tryz.f8.results) (fun i => (([arg0, arg1] : List Value)[i]?).getD undef) w) h)
theorem ct8 {arg0 arg1 : Value} {h : Hp} {post : Hp → Value → Prop} (hg : ∀ w0, Gs w0 h h [] (s8 Tryz.prog arg0 arg1 (RetP w0 h post))) : Ct Tryz.prog 8 [arg0, arg1] h post := Ct.of (sf := s8 Tryz.prog arg0 arg1) (c8 arg0 arg1) hg
theorem in8 {arg0 arg1 : Value} {S : WP} {K : Value → WP} (hg : G S (s8 Tryz.prog arg0 arg1 K)) : G S (Do Tryz.prog (vCall (.func (.func 8) #[] ⟨[]⟩) [arg0, arg1]) K) := Gs.into (args := [arg0, arg1]) (caps := []) (sf := s8 Tryz.prog arg0 arg1) (c8 arg0 arg1) hg

/- skewer/skewerref20.Leq : names 0 a, 1 b, 2 a, 3 b, 5 i, 6 i -/
def s9 (P : Program) (arg0 arg1 : Value) (K : Value → WP) : WP :=
  Do P (V (Instr.box 28 arg0)) fun a1 =>
  Do P (V (Instr.box 28 arg1)) fun b2 =>
  Lp (α := Value) (fun c3 s3 => Jk fun _ => -- i
   Do P (V (Instr.fieldAt 28 a1 0)) fun t4_8 =>
   Do P (V (Instr.loadAt 26 t4_8)) fun t5_9 =>
   Do P (vBuiltin .len #[26] 3 [t5_9]) fun t6_10 =>
   Do P (V (binOp .lss 3 s3 t6_10)) fun t7_11 =>
   If t7_11 (
    Dr <|
    Qk P (V (Instr.loadAt 28 b2)) fun C8 t8_14 =>
    Qk P (V (Instr.fieldAt 28 a1 0)) fun C9 t9_15 =>
    Qk P (V (Instr.loadAt 26 t9_15)) fun C10 t10_16 =>
    Qk P (V (Instr.indexAt 26 t10_16 s3)) fun C11 t11_18 =>
    Qk P (V (Instr.loadAt 28 t11_18)) fun C12 t12_19 =>
    Do P (vCall (.func (.func 9) #[] ⟨[]⟩) [t8_14, t12_19]) fun t13_20 =>
    If t13_20 (
     K (.bool false)
    ) (
     Do P (V (binOp .add 3 s3 (.int .i64 1))) fun t14_13 =>
     c3 t14_13
    )
   ) (
    Lp (α := Value) (fun c15 s15 => Jk fun _ => -- i
     Do P (V (Instr.fieldAt 28 b2 1)) fun t16_22 =>
     Do P (V (Instr.loadAt 26 t16_22)) fun t17_23 =>
     Do P (vBuiltin .len #[26] 3 [t17_23]) fun t18_24 =>
     Do P (V (binOp .lss 3 s15 t18_24)) fun t19_25 =>
     If t19_25 (
      Dr <|
      Qk P (V (Instr.fieldAt 28 b2 1)) fun C20 t20_28 =>
      Qk P (V (Instr.loadAt 26 t20_28)) fun C21 t21_29 =>
      Qk P (V (Instr.indexAt 26 t21_29 s15)) fun C22 t22_31 =>
      Qk P (V (Instr.loadAt 28 t22_31)) fun C23 t23_32 =>
      Qk P (V (Instr.loadAt 28 a1)) fun C24 t24_33 =>
      Do P (vCall (.func (.func 9) #[] ⟨[]⟩) [t23_32, t24_33]) fun t25_34 =>
      If t25_34 (
       K (.bool false)
      ) (
       Do P (V (binOp .add 3 s15 (.int .i64 1))) fun t26_27 =>
       c15 t26_27
      )
     ) (
      K (.bool true)
     )
    ) (.int .i64 0)
   )
  ) (.int .i64 0)
def A9 : Ann := .s (.n) (.s (.s (.n) (.lp [5] 2097072 (.s (.s (.n) (.s (.n) (.n))) (.s (.s (.plan [(0, 8, 16384), (0, 4, 32768), (2, 32768, 65536), (0, 32, 131072), (12, 196608, 262144), (16, 262144, 524288), (33, 540672, 1048576)] (.q 0 (.q 1 (.q 2 (.q 3 (.q 4 (.q 5 (.l 6 .done)))))))) (.s (.s (.n) (.n)) (.n))) (.n))))) (.s (.s (.n) (.lp [6] 34357641296 (.s (.s (.n) (.s (.n) (.n))) (.s (.s (.plan [(0, 8, 268435456), (1, 268435456, 536870912), (0, 64, 1073741824), (6, 1610612736, 2147483648), (8, 2147483648, 4294967296), (0, 4, 8589934592), (48, 12884901888, 17179869184)] (.q 0 (.q 1 (.q 2 (.q 3 (.q 4 (.q 5 (.l 6 .done)))))))) (.s (.s (.n) (.n)) (.n))) (.n))))) (.s (.n) (.n))))
set_option maxRecDepth 100000 in
theorem c9 (arg0 arg1 : Value) (K : Value → WP) (w : World) (h : s9 Tryz.prog arg0 arg1 K w) : Runs Tryz.prog 9 [arg0, arg1] K w :=
  runs_of_E wide (fn := Tryz.f9) (c := Tryz.f9.body.getD .skip) 35 A9 [arg0, arg1] w K Tryz.func9 (by kernel_rfl) (by kernel_rfl) (by kernel_rfl) (by kernel_rfl)
    (Eq.mp (by kernel_rfl : s9 Tryz.prog arg0 arg1 K w = E Tryz.prog (Tryz.f9.body.getD .skip) A9 (topK Tryz.prog K Tryz.f9.results) (fun i => (([arg0, arg1] : List Value)[i]?).getD undef) w) h)
theorem ct9 {arg0 arg1 : Value} {h : Hp} {post : Hp → Value → Prop} (hg : ∀ w0, Gs w0 h h [] (s9 Tryz.prog arg0 arg1 (RetP w0 h post))) : Ct Tryz.prog 9 [arg0, arg1] h post := Ct.of (sf := s9 Tryz.prog arg0 arg1) (c9 arg0 arg1) hg
theorem in9 {arg0 arg1 : Value} {S : WP} {K : Value → WP} (hg : G S (s9 Tryz.prog arg0 arg1 K)) : G S (Do Tryz.prog (vCall (.func (.func 9) #[] ⟨[]⟩) [arg0, arg1]) K) := Gs.into (args := [arg0, arg1]) (caps := []) (sf := s9 Tryz.prog arg0 arg1) (c9 arg0 arg1) hg

/- skewer/value.Print : names 0 f, 1 f -/
def s10 (P : Program) (arg0 : Value) (K : Value → WP) : WP :=
  Do P (V (Instr.box 28 arg0)) fun f1 =>
  Dr <|
  Qk P (V (Instr.loadAt 28 f1)) fun C2 t2_4 =>
  Do P (vCall (.func (.func 26) #[] ⟨[]⟩) []) fun t3_3 =>
  With C2 <|
  Do P (vCall (.func (.func 28) #[] ⟨[]⟩) [t3_3, t2_4]) fun t4_5 =>
  Qk P (vNil t4_5) fun C5 t5_6 =>
  Qk P (V (Instr.fieldAt 53 t5_6 0)) fun C6 t6_7 =>
  Qk P (V (Instr.loadAt 9 t6_7)) fun C7 t7_8 =>
  K t7_8
def A10 : Ann := .s (.n) (.s (.plan [(0, 0, 8), (0, 2, 16), (3, 24, 32), (4, 32, 64), (8, 64, 128), (16, 128, 256), (63, 256, 4)] (.q 1 (.l 0 (.l 2 (.q 3 (.q 4 (.q 5 (.q 6 .done)))))))) (.n))
set_option maxRecDepth 100000 in
theorem c10 (arg0 : Value) (K : Value → WP) (w : World) (h : s10 Tryz.prog arg0 K w) : Runs Tryz.prog 10 [arg0] K w :=
  runs_of_E wide (fn := Tryz.f10) (c := Tryz.f10.body.getD .skip) 9 A10 [arg0] w K Tryz.func10 (by kernel_rfl) (by kernel_rfl) (by kernel_rfl) (by kernel_rfl)
    (Eq.mp (by kernel_rfl : s10 Tryz.prog arg0 K w = E Tryz.prog (Tryz.f10.body.getD .skip) A10 (topK Tryz.prog K Tryz.f10.results) (fun i => (([arg0] : List Value)[i]?).getD undef) w) h)
theorem ct10 {arg0 : Value} {h : Hp} {post : Hp → Value → Prop} (hg : ∀ w0, Gs w0 h h [] (s10 Tryz.prog arg0 (RetP w0 h post))) : Ct Tryz.prog 10 [arg0] h post := Ct.of (sf := s10 Tryz.prog arg0) (c10 arg0) hg
theorem in10 {arg0 : Value} {S : WP} {K : Value → WP} (hg : G S (s10 Tryz.prog arg0 K)) : G S (Do Tryz.prog (vCall (.func (.func 10) #[] ⟨[]⟩) [arg0]) K) := Gs.into (args := [arg0]) (caps := []) (sf := s10 Tryz.prog arg0) (c10 arg0) hg

/- skewer/skewerref20.Print : names 0 f, 1 f -/
def s11 (P : Program) (arg0 : Value) (K : Value → WP) : WP :=
  Do P (V (Instr.box 28 arg0)) fun f1 =>
  Dr <|
  Qk P (V (Instr.fieldAt 28 f1 0)) fun C2 t2_3 =>
  Qk P (V (Instr.loadAt 26 t2_3)) fun C3 t3_4 =>
  Qk P (V (Instr.fieldAt 28 f1 1)) fun C4 t4_8 =>
  Qk P (V (Instr.loadAt 26 t4_8)) fun C5 t5_9 =>
  Do P (vCall (.func (.func 29) #[] ⟨[]⟩) [t3_4]) fun t6_5 =>
  With C5 <|
  With C4 <|
  Qk P (V (binOp .add 9 (.string ⟨#[123]⟩) t6_5)) fun C7 t7_6 =>
  Qk P (V (binOp .add 9 t7_6 (.string ⟨#[124]⟩))) fun C8 t8_7 =>
  Do P (vCall (.func (.func 29) #[] ⟨[]⟩) [t5_9]) fun t9_10 =>
  With C8 <|
  With C7 <|
  Qk P (V (binOp .add 9 t8_7 t9_10)) fun C10 t10_11 =>
  Qk P (V (binOp .add 9 t10_11 (.string ⟨#[125]⟩))) fun C11 t11_12 =>
  K t11_12
def A11 : Ann := .s (.n) (.s (.plan [(0, 2, 8), (1, 8, 16), (2, 16, 32), (4, 32, 64), (8, 64, 128), (0, 2, 256), (32, 256, 512), (68, 512, 1024), (144, 1152, 2048), (256, 2048, 4096), (1023, 4096, 4)] (.q 0 (.q 1 (.q 5 (.q 6 (.l 2 (.q 3 (.q 4 (.l 7 (.q 8 (.q 9 (.q 10 .done)))))))))))) (.n))
set_option maxRecDepth 100000 in
theorem c11 (arg0 : Value) (K : Value → WP) (w : World) (h : s11 Tryz.prog arg0 K w) : Runs Tryz.prog 11 [arg0] K w :=
  runs_of_E wide (fn := Tryz.f11) (c := Tryz.f11.body.getD .skip) 13 A11 [arg0] w K Tryz.func11 (by kernel_rfl) (by kernel_rfl) (by kernel_rfl) (by kernel_rfl)
    (Eq.mp (by kernel_rfl : s11 Tryz.prog arg0 K w = E Tryz.prog (Tryz.f11.body.getD .skip) A11 (topK Tryz.prog K Tryz.f11.results) (fun i => (([arg0] : List Value)[i]?).getD undef) w) h)
theorem ct11 {arg0 : Value} {h : Hp} {post : Hp → Value → Prop} (hg : ∀ w0, Gs w0 h h [] (s11 Tryz.prog arg0 (RetP w0 h post))) : Ct Tryz.prog 11 [arg0] h post := Ct.of (sf := s11 Tryz.prog arg0) (c11 arg0) hg
theorem in11 {arg0 : Value} {S : WP} {K : Value → WP} (hg : G S (s11 Tryz.prog arg0 K)) : G S (Do Tryz.prog (vCall (.func (.func 11) #[] ⟨[]⟩) [arg0]) K) := Gs.into (args := [arg0]) (caps := []) (sf := s11 Tryz.prog arg0) (c11 arg0) hg

/- skewer/skewerref20.Same : names 0 a, 1 b, 2 a, 3 b -/
def s12 (P : Program) (arg0 arg1 : Value) (K : Value → WP) : WP :=
  Do P (V (Instr.box 28 arg0)) fun a1 =>
  Do P (V (Instr.box 28 arg1)) fun b2 =>
  Dr <|
  Qk P (V (Instr.loadAt 28 a1)) fun C3 t3_5 =>
  Qk P (V (Instr.loadAt 28 b2)) fun C4 t4_7 =>
  Do P (vCall (.func (.func 11) #[] ⟨[]⟩) [t3_5]) fun t5_6 =>
  With C4 <|
  Do P (vCall (.func (.func 11) #[] ⟨[]⟩) [t4_7]) fun t6_8 =>
  Qk P (V (EqG .eql 9 (.tmp 6) (.tmp 8) t5_6 t6_8)) fun C7 t7_9 =>
  K t7_9
def A12 : Ann := .s (.n) (.s (.plan [(0, 4, 32), (1, 32, 64), (0, 8, 128), (6, 128, 256), (10, 320, 512), (31, 512, 16)] (.q 0 (.q 2 (.l 1 (.l 3 (.q 4 (.q 5 .done))))))) (.n))
set_option maxRecDepth 100000 in
theorem c12 (arg0 arg1 : Value) (K : Value → WP) (w : World) (h : s12 Tryz.prog arg0 arg1 K w) : Runs Tryz.prog 12 [arg0, arg1] K w :=
  runs_of_E wide (fn := Tryz.f12) (c := Tryz.f12.body.getD .skip) 10 A12 [arg0, arg1] w K Tryz.func12 (by kernel_rfl) (by kernel_rfl) (by kernel_rfl) (by kernel_rfl)
    (Eq.mp (by kernel_rfl : s12 Tryz.prog arg0 arg1 K w = E Tryz.prog (Tryz.f12.body.getD .skip) A12 (topK Tryz.prog K Tryz.f12.results) (fun i => (([arg0, arg1] : List Value)[i]?).getD undef) w) h)
theorem ct12 {arg0 arg1 : Value} {h : Hp} {post : Hp → Value → Prop} (hg : ∀ w0, Gs w0 h h [] (s12 Tryz.prog arg0 arg1 (RetP w0 h post))) : Ct Tryz.prog 12 [arg0, arg1] h post := Ct.of (sf := s12 Tryz.prog arg0 arg1) (c12 arg0 arg1) hg
theorem in12 {arg0 arg1 : Value} {S : WP} {K : Value → WP} (hg : G S (s12 Tryz.prog arg0 arg1 K)) : G S (Do Tryz.prog (vCall (.func (.func 12) #[] ⟨[]⟩) [arg0, arg1]) K) := Gs.into (args := [arg0, arg1]) (caps := []) (sf := s12 Tryz.prog arg0 arg1) (c12 arg0 arg1) hg

/- skewer/value.Neg : names 0 f, 1 f, 3 negate -/
def s13 (P : Program) (arg0 : Value) (K : Value → WP) : WP :=
  Do P (V (Instr.box 28 arg0)) fun f1 =>
  Do P (V (Instr.alloc 28 true (.tuple #[]))) fun t2_2 =>
  Dr <|
  Qk P (V (Instr.fieldAt 28 f1 1)) fun C3 t3_5 =>
  Qk P (V (Instr.loadAt 26 t3_5)) fun C4 t4_6 =>
  Qk P (V (Instr.fieldAt 28 f1 0)) fun C5 t5_9 =>
  Qk P (V (Instr.loadAt 26 t5_9)) fun C6 t6_10 =>
  Do P (vCall (.func (.func 30) #[] ⟨[]⟩) [t4_6]) fun t7_7 =>
  With C6 <|
  With C5 <|
  Do P (vCall (.func (.func 30) #[] ⟨[]⟩) [t6_10]) fun t8_11 =>
  Qk P (vBuild 28 [(0, t7_7), (1, t8_11)]) fun C9 t9_12 =>
  Do P (U (Instr.storeAt 28 t2_2 t9_12)) fun t10_x =>
  RetC P 28 t2_2 K
def A13 : Ann := .s (.n) (.s (.n) (.s (.plan [(0, 8, 16), (0, 2, 32), (2, 32, 64), (5, 80, 128), (0, 8, 256), (0, 2, 512), (32, 512, 1024), (88, 1280, 2048), (136, 2176, 4096), (511, 4100, 0)] (.q 0 (.q 1 (.q 2 (.q 4 (.q 5 (.q 6 (.l 3 (.l 7 (.q 8 (.l 9 .done))))))))))) (.n)))
set_option maxRecDepth 100000 in
theorem c13 (arg0 : Value) (K : Value → WP) (w : World) (h : s13 Tryz.prog arg0 K w) : Runs Tryz.prog 13 [arg0] K w :=
  runs_of_E wide (fn := Tryz.f13) (c := Tryz.f13.body.getD .skip) 13 A13 [arg0] w K Tryz.func13 (by kernel_rfl) (by kernel_rfl) (by kernel_rfl) (by kernel_rfl)
    (Eq.mp (by kernel_rfl : s13 Tryz.prog arg0 K w = E Tryz.prog (Tryz.f13.body.getD .skip) A13 (topK Tryz.prog K Tryz.f13.results) (fun i => (([arg0] : List Value)[i]?).getD undef) w) h)
theorem ct13 {arg0 : Value} {h : Hp} {post : Hp → Value → Prop} (hg : ∀ w0, Gs w0 h h [] (s13 Tryz.prog arg0 (RetP w0 h post))) : Ct Tryz.prog 13 [arg0] h post := Ct.of (sf := s13 Tryz.prog arg0) (c13 arg0) hg
theorem in13 {arg0 : Value} {S : WP} {K : Value → WP} (hg : G S (s13 Tryz.prog arg0 K)) : G S (Do Tryz.prog (vCall (.func (.func 13) #[] ⟨[]⟩) [arg0]) K) := Gs.into (args := [arg0]) (caps := []) (sf := s13 Tryz.prog arg0) (c13 arg0) hg

/- skewer/skewerref20.Neg : names 0 f, 1 f, 3 out, 4 i, 5 i -/
def s14 (P : Program) (arg0 : Value) (K : Value → WP) : WP :=
  Do P (V (Instr.box 28 arg0)) fun f1 =>
  Do P (V (Instr.alloc 28 true (.tuple #[]))) fun t2_2 =>
  Do P (vBuild 28 []) fun t3_6 =>
  Do P (V (Instr.alloc 28 true (.tuple #[]))) fun out4 =>
  Do P (U (Instr.storeAt 28 out4 t3_6)) fun t5_x =>
  Lp (α := Value) (fun c6 s6 => Jk fun _ => -- i
   Do P (V (Instr.fieldAt 28 f1 1)) fun t7_8 =>
   Do P (V (Instr.loadAt 26 t7_8)) fun t8_9 =>
   Do P (vBuiltin .len #[26] 3 [t8_9]) fun t9_10 =>
   Do P (V (binOp .lss 3 s6 t9_10)) fun t10_11 =>
   If t10_11 (
    Dr <|
    Qk P (V (Instr.fieldAt 28 out4 0)) fun C11 t11_14 =>
    Qk P (V (Instr.loadAt 26 t11_14)) fun C12 t12_15 =>
    Qk P (V (Instr.fieldAt 28 f1 1)) fun C13 t13_16 =>
    Qk P (V (Instr.loadAt 26 t13_16)) fun C14 t14_17 =>
    Qk P (V (Instr.indexAt 26 t14_17 s6)) fun C15 t15_19 =>
    Qk P (V (Instr.loadAt 28 t15_19)) fun C16 t16_20 =>
    Do P (vCall (.func (.func 14) #[] ⟨[]⟩) [t16_20]) fun t17_21 =>
    With C12 <|
    With C11 <|
    Do P (vBuildSlice 26 1 [(0, t17_21)]) fun t18_22 =>
    With C12 <|
    With C11 <|
    Do P (vBuiltin .append #[26, 26] 26 [t12_15, t18_22]) fun t19_23 =>
    Qk P (V (Instr.fieldAt 28 out4 0)) fun C20 t20_24 =>
    Do P (U (Instr.storeAt 26 t20_24 t19_23)) fun t21_x =>
    Do P (V (binOp .add 3 s6 (.int .i64 1))) fun t22_13 =>
    c6 t22_13
   ) (
    Lp (α := Value) (fun c23 s23 => Jk fun _ => -- i
     Do P (V (Instr.fieldAt 28 f1 0)) fun t24_26 =>
     Do P (V (Instr.loadAt 26 t24_26)) fun t25_27 =>
     Do P (vBuiltin .len #[26] 3 [t25_27]) fun t26_28 =>
     Do P (V (binOp .lss 3 s23 t26_28)) fun t27_29 =>
     If t27_29 (
      Dr <|
      Qk P (V (Instr.fieldAt 28 out4 1)) fun C28 t28_32 =>
      Qk P (V (Instr.loadAt 26 t28_32)) fun C29 t29_33 =>
      Qk P (V (Instr.fieldAt 28 f1 0)) fun C30 t30_34 =>
      Qk P (V (Instr.loadAt 26 t30_34)) fun C31 t31_35 =>
      Qk P (V (Instr.indexAt 26 t31_35 s23)) fun C32 t32_37 =>
      Qk P (V (Instr.loadAt 28 t32_37)) fun C33 t33_38 =>
      Do P (vCall (.func (.func 14) #[] ⟨[]⟩) [t33_38]) fun t34_39 =>
      With C29 <|
      With C28 <|
      Do P (vBuildSlice 26 1 [(0, t34_39)]) fun t35_40 =>
      With C29 <|
      With C28 <|
      Do P (vBuiltin .append #[26, 26] 26 [t29_33, t35_40]) fun t36_41 =>
      Qk P (V (Instr.fieldAt 28 out4 1)) fun C37 t37_42 =>
      Do P (U (Instr.storeAt 26 t37_42 t36_41)) fun t38_x =>
      Do P (V (binOp .add 3 s23 (.int .i64 1))) fun t39_31 =>
      c23 t39_31
     ) (
      Do P (V (Instr.loadAt 28 out4)) fun t40_43 =>
      Do P (U (Instr.storeAt 28 t2_2 t40_43)) fun t41_x =>
      RetC P 28 t2_2 K
     )
    ) (.int .i64 0)
   )
  ) (.int .i64 0)
def A14 : Ann := .s (.n) (.s (.n) (.s (.s (.n) (.lp [4] 33554320 (.s (.s (.n) (.s (.n) (.n))) (.s (.plan [(0, 8, 16384), (1, 16384, 32768), (0, 2, 65536), (4, 65536, 131072), (0, 16, 262144), (24, 393216, 524288), (32, 524288, 1048576), (64, 1048576, 2097152), (128, 2097152, 4194304), (386, 4227072, 8388608), (1023, 8, 16777216), (2047, 25165824, 0)] (.q 0 (.q 1 (.q 2 (.q 3 (.q 4 (.q 5 (.q 6 (.l 7 (.l 8 (.l 9 (.q 10 (.l 11 .done))))))))))))) (.n))))) (.s (.s (.n) (.lp [5] 8796059467808 (.s (.s (.n) (.s (.n) (.n))) (.s (.plan [(0, 8, 4294967296), (1, 4294967296, 8589934592), (0, 2, 17179869184), (4, 17179869184, 34359738368), (0, 32, 68719476736), (24, 103079215104, 137438953472), (32, 137438953472, 274877906944), (64, 274877906944, 549755813888), (128, 549755813888, 1099511627776), (386, 1108101562368, 2199023255552), (1023, 8, 4398046511104), (2047, 6597069766656, 0)] (.q 0 (.q 1 (.q 2 (.q 3 (.q 4 (.q 5 (.q 6 (.l 7 (.l 8 (.l 9 (.q 10 (.l 11 .done))))))))))))) (.n))))) (.s (.n) (.n)))))
set_option maxRecDepth 100000 in
theorem c14 (arg0 : Value) (K : Value → WP) (w : World) (h : s14 Tryz.prog arg0 K w) : Runs Tryz.prog 14 [arg0] K w :=
  runs_of_E wide (fn := Tryz.f14) (c := Tryz.f14.body.getD .skip) 44 A14 [arg0] w K Tryz.func14 (by kernel_rfl) (by kernel_rfl) (by kernel_rfl) (by kernel_rfl)
    (Eq.mp (by kernel_rfl : s14 Tryz.prog arg0 K w = E Tryz.prog (Tryz.f14.body.getD .skip) A14 (topK Tryz.prog K Tryz.f14.results) (fun i => (([arg0] : List Value)[i]?).getD undef) w) h)
theorem ct14 {arg0 : Value} {h : Hp} {post : Hp → Value → Prop} (hg : ∀ w0, Gs w0 h h [] (s14 Tryz.prog arg0 (RetP w0 h post))) : Ct Tryz.prog 14 [arg0] h post := Ct.of (sf := s14 Tryz.prog arg0) (c14 arg0) hg
theorem in14 {arg0 : Value} {S : WP} {K : Value → WP} (hg : G S (s14 Tryz.prog arg0 K)) : G S (Do Tryz.prog (vCall (.func (.func 14) #[] ⟨[]⟩) [arg0]) K) := Gs.into (args := [arg0]) (caps := []) (sf := s14 Tryz.prog arg0) (c14 arg0) hg

/- skewer/value.Canon : names 0 f, 1 f, 3 b -/
def s15 (P : Program) (arg0 : Value) (K : Value → WP) : WP :=
  Do P (V (Instr.box 28 arg0)) fun f1 =>
  Do P (V (Instr.alloc 28 true (.tuple #[]))) fun t2_2 =>
  Do P (vCall (.func (.func 26) #[] ⟨[]⟩) []) fun t3_4 =>
  Do P (V (Instr.loadAt 28 f1)) fun t4_7 =>
  Do P (vCall (.func (.func 28) #[] ⟨[]⟩) [t3_4, t4_7]) fun t5_8 =>
  Do P (vCall (.func (.func 31) #[] ⟨[]⟩) [t3_4, t5_8]) fun t6_9 =>
  Do P (vCall (.func (.func 32) #[] ⟨[]⟩) [t6_9]) fun t7_10 =>
  Do P (U (Instr.storeAt 28 t2_2 t7_10)) fun t8_x =>
  RetC P 28 t2_2 K
def A15 : Ann := .s (.n) (.s (.n) (.s (.n) (.n)))
set_option maxRecDepth 100000 in
theorem c15 (arg0 : Value) (K : Value → WP) (w : World) (h : s15 Tryz.prog arg0 K w) : Runs Tryz.prog 15 [arg0] K w :=
  runs_of_E wide (fn := Tryz.f15) (c := Tryz.f15.body.getD .skip) 11 A15 [arg0] w K Tryz.func15 (by kernel_rfl) (by kernel_rfl) (by kernel_rfl) (by kernel_rfl)
    (Eq.mp (by kernel_rfl : s15 Tryz.prog arg0 K w = E Tryz.prog (Tryz.f15.body.getD .skip) A15 (topK Tryz.prog K Tryz.f15.results) (fun i => (([arg0] : List Value)[i]?).getD undef) w) h)
theorem ct15 {arg0 : Value} {h : Hp} {post : Hp → Value → Prop} (hg : ∀ w0, Gs w0 h h [] (s15 Tryz.prog arg0 (RetP w0 h post))) : Ct Tryz.prog 15 [arg0] h post := Ct.of (sf := s15 Tryz.prog arg0) (c15 arg0) hg
theorem in15 {arg0 : Value} {S : WP} {K : Value → WP} (hg : G S (s15 Tryz.prog arg0 K)) : G S (Do Tryz.prog (vCall (.func (.func 15) #[] ⟨[]⟩) [arg0]) K) := Gs.into (args := [arg0]) (caps := []) (sf := s15 Tryz.prog arg0) (c15 arg0) hg

/- skewer/skewerref20.Canon : names 0 f, 1 f, 3 now, 4 right -/
def s16 (P : Program) (arg0 : Value) (K : Value → WP) : WP :=
  Do P (V (Instr.box 28 arg0)) fun f1 =>
  Do P (V (Instr.alloc 28 true (.tuple #[]))) fun t2_2 =>
  Jn (α := Value) (fun j3 => Jk fun _ => -- now
   Lp (α := Unit) (fun c4 s4 => Jk fun _ => -- 
    Do P (V (Instr.fieldAt 59 j3 1)) fun t5_13 =>
    Do P (V (Instr.loadAt 4 t5_13)) fun t6_14 =>
    If t6_14 (
     Do P (V (Instr.fieldAt 59 j3 0)) fun t7_15 =>
     Do P (V (Instr.loadAt 28 t7_15)) fun t8_16 =>
     Do P (vCall (.func (.func 34) #[] ⟨[]⟩) [t8_16]) fun t9_17 =>
     Do P (U (Instr.storeAt 59 j3 t9_17)) fun t10_x =>
     Do P (V (Instr.fieldAt 59 j3 1)) fun t11_18 =>
     Do P (V (Instr.loadAt 4 t11_18)) fun t12_19 =>
     Do P (V (Op.unary .not t12_19)) fun t13_20 =>
     If t13_20 (
      Do P (V (Instr.fieldAt 59 j3 0)) fun t14_21 =>
      Do P (V (Instr.loadAt 28 t14_21)) fun t15_22 =>
      Do P (vCall (.func (.func 14) #[] ⟨[]⟩) [t15_22]) fun t16_23 =>
      Do P (vCall (.func (.func 34) #[] ⟨[]⟩) [t16_23]) fun t17_24 =>
      Do P (U (Instr.storeAt 59 j3 t17_24)) fun t18_x =>
      Do P (V (Instr.fieldAt 59 j3 0)) fun t19_25 =>
      Do P (V (Instr.loadAt 28 t19_25)) fun t20_26 =>
      Do P (vCall (.func (.func 14) #[] ⟨[]⟩) [t20_26]) fun t21_27 =>
      Do P (V (Instr.fieldAt 59 j3 0)) fun t22_28 =>
      Do P (U (Instr.storeAt 28 t22_28 t21_27)) fun t23_x =>
      c4 ()
     ) (
      c4 ()
     )
    ) (
     Do P (V (Instr.fieldAt 59 j3 0)) fun t24_29 =>
     Do P (V (Instr.loadAt 28 t24_29)) fun t25_30 =>
     Do P (vCall (.func (.func 14) #[] ⟨[]⟩) [t25_30]) fun t26_31 =>
     Do P (V (Instr.field 28 t26_31 0)) fun t27_32 =>
     Do P (vCall (.func (.func 35) #[] ⟨[]⟩) [t27_32]) fun t28_33 =>
     Do P (V (Instr.fieldAt 59 j3 0)) fun t29_34 =>
     Do P (V (Instr.fieldAt 28 t29_34 0)) fun t30_35 =>
     Do P (V (Instr.loadAt 26 t30_35)) fun t31_36 =>
     Do P (vCall (.func (.func 35) #[] ⟨[]⟩) [t31_36]) fun t32_37 =>
     Do P (vBuild 28 [(0, t28_33)]) fun t33_39 =>
     Do P (vCall (.func (.func 14) #[] ⟨[]⟩) [t33_39]) fun t34_40 =>
     Do P (V (Instr.field 28 t34_40 1)) fun t35_41 =>
     Do P (vCall (.func (.func 36) #[] ⟨[]⟩) [t35_41]) fun t36_42 =>
     Do P (vBuild 28 [(0, t32_37), (1, t36_42)]) fun t37_43 =>
     Do P (U (Instr.storeAt 28 t2_2 t37_43)) fun t38_x =>
     RetC P 28 t2_2 K
    )
   ) ()
  ) fun k3 =>
  Dr <|
  Qk P (V (Instr.fieldAt 28 f1 0)) fun C39 t39_5 =>
  Qk P (V (Instr.loadAt 26 t39_5)) fun C40 t40_6 =>
  Qk P (V (Instr.fieldAt 28 f1 1)) fun C41 t41_8 =>
  Qk P (V (Instr.loadAt 26 t41_8)) fun C42 t42_9 =>
  Or2 (
   Do P (vCall (.func (.func 33) #[] ⟨[]⟩) [t40_6]) fun t43_7 =>
   With C42 <|
   With C41 <|
   Or2 (
    Do P (vCall (.func (.func 33) #[] ⟨[]⟩) [t42_9]) fun t44_10 =>
    Qk P (vBuild 28 [(0, t43_7), (1, t44_10)]) fun C45 t45_11 =>
    Qk P (vBuild 59 [(0, t45_11), (1, (.bool true))]) fun C46 t46_12 =>
    Do P (V (Instr.alloc 59 true (.tuple #[]))) fun now47 =>
    With C46 <|
    With C45 <|
    With C42 <|
    With C41 <|
    With C40 <|
    With C39 <|
    Do P (U (Instr.storeAt 59 now47 t46_12)) fun t48_x =>
    k3 now47
   ) (
    Do P (V (Instr.alloc 59 true (.tuple #[]))) fun now49 =>
    With C42 <|
    With C41 <|
    With C40 <|
    With C39 <|
    Do P (vCall (.func (.func 33) #[] ⟨[]⟩) [t42_9]) fun t50_10 =>
    Qk P (vBuild 28 [(0, t43_7), (1, t50_10)]) fun C51 t51_11 =>
    Qk P (vBuild 59 [(0, t51_11), (1, (.bool true))]) fun C52 t52_12 =>
    Do P (U (Instr.storeAt 59 now49 t52_12)) fun t53_x =>
    k3 now49
   )
  ) (
   Do P (V (Instr.alloc 59 true (.tuple #[]))) fun now54 =>
   With C42 <|
   With C41 <|
   With C40 <|
   With C39 <|
   Do P (vCall (.func (.func 33) #[] ⟨[]⟩) [t40_6]) fun t55_7 =>
   With C42 <|
   With C41 <|
   Do P (vCall (.func (.func 33) #[] ⟨[]⟩) [t42_9]) fun t56_10 =>
   Qk P (vBuild 28 [(0, t55_7), (1, t56_10)]) fun C57 t57_11 =>
   Qk P (vBuild 59 [(0, t57_11), (1, (.bool true))]) fun C58 t58_12 =>
   Do P (U (Instr.storeAt 59 now54 t58_12)) fun t59_x =>
   k3 now54
  )
def A16 : Ann := .s (.n) (.j [3] 8168 (.plan [(0, 2, 32), (1, 32, 64), (2, 64, 128), (0, 2, 256), (8, 256, 512), (20, 512, 1024), (36, 1152, 2048), (64, 2048, 4096), (0, 0, 8), (511, 4104, 0)] (.q 0 (.q 1 (.q 3 (.q 4 (.or (.l 2 (.or (.l 5 (.q 6 (.q 7 (.l 8 (.l 9 .done))))) (.l 8 (.l 5 (.q 6 (.q 7 (.l 9 .done))))))) (.l 8 (.l 2 (.l 5 (.q 6 (.q 7 (.l 9 .done)))))))))))) (.s (.lp [] 536862720 (.s (.s (.n) (.s (.n) (.n))) (.s (.n) (.s (.n) (.s (.s (.n) (.n)) (.n)))))) (.s (.n) (.s (.n) (.n)))))
set_option maxRecDepth 100000 in
theorem c16 (arg0 : Value) (K : Value → WP) (w : World) (h : s16 Tryz.prog arg0 K w) : Runs Tryz.prog 16 [arg0] K w :=
  runs_of_E wide (fn := Tryz.f16) (c := Tryz.f16.body.getD .skip) 44 A16 [arg0] w K Tryz.func16 (by kernel_rfl) (by kernel_rfl) (by kernel_rfl) (by kernel_rfl)
    (Eq.mp (by kernel_rfl : s16 Tryz.prog arg0 K w = E Tryz.prog (Tryz.f16.body.getD .skip) A16 (topK Tryz.prog K Tryz.f16.results) (fun i => (([arg0] : List Value)[i]?).getD undef) w) h)
theorem ct16 {arg0 : Value} {h : Hp} {post : Hp → Value → Prop} (hg : ∀ w0, Gs w0 h h [] (s16 Tryz.prog arg0 (RetP w0 h post))) : Ct Tryz.prog 16 [arg0] h post := Ct.of (sf := s16 Tryz.prog arg0) (c16 arg0) hg
theorem in16 {arg0 : Value} {S : WP} {K : Value → WP} (hg : G S (s16 Tryz.prog arg0 K)) : G S (Do Tryz.prog (vCall (.func (.func 16) #[] ⟨[]⟩) [arg0]) K) := Gs.into (args := [arg0]) (caps := []) (sf := s16 Tryz.prog arg0) (c16 arg0) hg

/- skewer/value.Add : names 0 a, 1 b, 2 a, 3 b, 5 f, 6 _, 7 x, 8 _, 9 x, 10 _, 11 x, 12 _, 13 x -/
def s17 (P : Program) (arg0 arg1 : Value) (K : Value → WP) : WP :=
  Do P (V (Instr.box 28 arg0)) fun a1 =>
  Do P (V (Instr.box 28 arg1)) fun b2 =>
  Do P (V (Instr.alloc 28 true (.tuple #[]))) fun t3_4 =>
  Do P (V (Instr.alloc 28 true (.tuple #[]))) fun f4 =>
  Do P (V (Instr.fieldAt 28 a1 0)) fun t5_14 =>
  Do P (V (Instr.loadAt 26 t5_14)) fun t6_15 =>
  Do P (vBuiltin .len #[26] 3 [t6_15]) fun t7_16 =>
  Lp (α := Value) (fun c8 s8 => Jk fun _ => -- t17
   Do P (V (binOp .lss 3 s8 t7_16)) fun t9_18 =>
   If t9_18 (
    Do P (V (Instr.indexAt 26 t6_15 s8)) fun t10_19 =>
    Do P (V (Instr.loadAt 28 t10_19)) fun t11_20 =>
    Do P (V (Instr.alloc 28 true (.tuple #[]))) fun x12 =>
    Do P (U (Instr.storeAt 28 x12 t11_20)) fun t13_x =>
    Dr <|
    Qk P (V (Instr.fieldAt 28 f4 0)) fun C14 t14_21 =>
    Qk P (V (Instr.loadAt 26 t14_21)) fun C15 t15_22 =>
    Qk P (V (Instr.loadAt 28 x12)) fun C16 t16_23 =>
    Qk P (V (Instr.loadAt 28 b2)) fun C17 t17_24 =>
    Do P (vCall (.func (.func 17) #[] ⟨[]⟩) [t16_23, t17_24]) fun t18_25 =>
    With C15 <|
    With C14 <|
    Do P (vBuildSlice 26 1 [(0, t18_25)]) fun t19_26 =>
    With C15 <|
    With C14 <|
    Do P (vBuiltin .append #[26, 26] 26 [t15_22, t19_26]) fun t20_27 =>
    Qk P (V (Instr.fieldAt 28 f4 0)) fun C21 t21_28 =>
    Do P (U (Instr.storeAt 26 t21_28 t20_27)) fun t22_x =>
    Do P (V (binOp .add 3 s8 (.int .i64 1))) fun t23_29 =>
    c8 t23_29
   ) (
    Do P (V (Instr.fieldAt 28 b2 0)) fun t24_30 =>
    Do P (V (Instr.loadAt 26 t24_30)) fun t25_31 =>
    Do P (vBuiltin .len #[26] 3 [t25_31]) fun t26_32 =>
    Lp (α := Value) (fun c27 s27 => Jk fun _ => -- t33
     Do P (V (binOp .lss 3 s27 t26_32)) fun t28_34 =>
     If t28_34 (
      Do P (V (Instr.indexAt 26 t25_31 s27)) fun t29_35 =>
      Do P (V (Instr.loadAt 28 t29_35)) fun t30_36 =>
      Do P (V (Instr.alloc 28 true (.tuple #[]))) fun x31 =>
      Do P (U (Instr.storeAt 28 x31 t30_36)) fun t32_x =>
      Dr <|
      Qk P (V (Instr.fieldAt 28 f4 0)) fun C33 t33_37 =>
      Qk P (V (Instr.loadAt 26 t33_37)) fun C34 t34_38 =>
      Qk P (V (Instr.loadAt 28 a1)) fun C35 t35_39 =>
      Qk P (V (Instr.loadAt 28 x31)) fun C36 t36_40 =>
      Do P (vCall (.func (.func 17) #[] ⟨[]⟩) [t35_39, t36_40]) fun t37_41 =>
      With C34 <|
      With C33 <|
      Do P (vBuildSlice 26 1 [(0, t37_41)]) fun t38_42 =>
      With C34 <|
      With C33 <|
      Do P (vBuiltin .append #[26, 26] 26 [t34_38, t38_42]) fun t39_43 =>
      Qk P (V (Instr.fieldAt 28 f4 0)) fun C40 t40_44 =>
      Do P (U (Instr.storeAt 26 t40_44 t39_43)) fun t41_x =>
      Do P (V (binOp .add 3 s27 (.int .i64 1))) fun t42_45 =>
      c27 t42_45
     ) (
      Do P (V (Instr.fieldAt 28 a1 1)) fun t43_46 =>
      Do P (V (Instr.loadAt 26 t43_46)) fun t44_47 =>
      Do P (vBuiltin .len #[26] 3 [t44_47]) fun t45_48 =>
      Lp (α := Value) (fun c46 s46 => Jk fun _ => -- t49
       Do P (V (binOp .lss 3 s46 t45_48)) fun t47_50 =>
       If t47_50 (
        Do P (V (Instr.indexAt 26 t44_47 s46)) fun t48_51 =>
        Do P (V (Instr.loadAt 28 t48_51)) fun t49_52 =>
        Do P (V (Instr.alloc 28 true (.tuple #[]))) fun x50 =>
        Do P (U (Instr.storeAt 28 x50 t49_52)) fun t51_x =>
        Dr <|
        Qk P (V (Instr.fieldAt 28 f4 1)) fun C52 t52_53 =>
        Qk P (V (Instr.loadAt 26 t52_53)) fun C53 t53_54 =>
        Qk P (V (Instr.loadAt 28 x50)) fun C54 t54_55 =>
        Qk P (V (Instr.loadAt 28 b2)) fun C55 t55_56 =>
        Do P (vCall (.func (.func 17) #[] ⟨[]⟩) [t54_55, t55_56]) fun t56_57 =>
        With C53 <|
        With C52 <|
        Do P (vBuildSlice 26 1 [(0, t56_57)]) fun t57_58 =>
        With C53 <|
        With C52 <|
        Do P (vBuiltin .append #[26, 26] 26 [t53_54, t57_58]) fun t58_59 =>
        Qk P (V (Instr.fieldAt 28 f4 1)) fun C59 t59_60 =>
        Do P (U (Instr.storeAt 26 t59_60 t58_59)) fun t60_x =>
        Do P (V (binOp .add 3 s46 (.int .i64 1))) fun t61_61 =>
        c46 t61_61
       ) (
        Do P (V (Instr.fieldAt 28 b2 1)) fun t62_62 =>
        Do P (V (Instr.loadAt 26 t62_62)) fun t63_63 =>
        Do P (vBuiltin .len #[26] 3 [t63_63]) fun t64_64 =>
        Lp (α := Value) (fun c65 s65 => Jk fun _ => -- t65
         Do P (V (binOp .lss 3 s65 t64_64)) fun t66_66 =>
         If t66_66 (
          Do P (V (Instr.indexAt 26 t63_63 s65)) fun t67_67 =>
          Do P (V (Instr.loadAt 28 t67_67)) fun t68_68 =>
          Do P (V (Instr.alloc 28 true (.tuple #[]))) fun x69 =>
          Do P (U (Instr.storeAt 28 x69 t68_68)) fun t70_x =>
          Dr <|
          Qk P (V (Instr.fieldAt 28 f4 1)) fun C71 t71_69 =>
          Qk P (V (Instr.loadAt 26 t71_69)) fun C72 t72_70 =>
          Qk P (V (Instr.loadAt 28 a1)) fun C73 t73_71 =>
          Qk P (V (Instr.loadAt 28 x69)) fun C74 t74_72 =>
          Do P (vCall (.func (.func 17) #[] ⟨[]⟩) [t73_71, t74_72]) fun t75_73 =>
          With C72 <|
          With C71 <|
          Do P (vBuildSlice 26 1 [(0, t75_73)]) fun t76_74 =>
          With C72 <|
          With C71 <|
          Do P (vBuiltin .append #[26, 26] 26 [t72_70, t76_74]) fun t77_75 =>
          Qk P (V (Instr.fieldAt 28 f4 1)) fun C78 t78_76 =>
          Do P (U (Instr.storeAt 26 t78_76 t77_75)) fun t79_x =>
          Do P (V (binOp .add 3 s65 (.int .i64 1))) fun t80_77 =>
          c65 t80_77
         ) (
          Do P (V (Instr.loadAt 28 f4)) fun t81_78 =>
          Do P (U (Instr.storeAt 28 t3_4 t81_78)) fun t82_x =>
          RetC P 28 t3_4 K
         )
        ) (.int .i64 0)
       )
      ) (.int .i64 0)
     )
    ) (.int .i64 0)
   )
  ) (.int .i64 0)
def A17 : Ann := .s (.n) (.s (.n) (.s (.s (.n) (.lp [17] 1073610880 (.s (.n) (.s (.s (.n) (.n)) (.s (.s (.n) (.plan [(0, 32, 2097152), (1, 2097152, 4194304), (0, 128, 8388608), (0, 8, 16777216), (12, 25165824, 33554432), (16, 33554432, 67108864), (50, 71303168, 134217728), (127, 32, 268435456), (255, 402653184, 0)] (.q 0 (.q 1 (.q 2 (.q 3 (.l 4 (.l 5 (.l 6 (.q 7 (.l 8 .done))))))))))) (.n)))))) (.s (.s (.n) (.lp [33] 70360154243584 (.s (.n) (.s (.s (.n) (.n)) (.s (.s (.n) (.plan [(0, 32, 137438953472), (1, 137438953472, 274877906944), (0, 4, 549755813888), (0, 512, 1099511627776), (12, 1649267441664, 2199023255552), (16, 2199023255552, 4398046511104), (50, 4672924418048, 8796093022208), (127, 32, 17592186044416), (255, 26388279066624, 0)] (.q 0 (.q 1 (.q 2 (.q 3 (.l 4 (.l 5 (.l 6 (.q 7 (.l 8 .done))))))))))) (.n)))))) (.s (.s (.n) (.lp [49] 4611123068473968640 (.s (.n) (.s (.s (.n) (.n)) (.s (.s (.n) (.plan [(0, 32, 9007199254740992), (1, 9007199254740992, 18014398509481984), (0, 2048, 36028797018963968), (0, 8, 72057594037927936), (12, 108086391056891904, 144115188075855872), (16, 144115188075855872, 288230376151711744), (50, 306244774661193728, 576460752303423488), (127, 32, 1152921504606846976), (255, 1729382256910270464, 0)] (.q 0 (.q 1 (.q 2 (.q 3 (.l 4 (.l 5 (.l 6 (.q 7 (.l 8 .done))))))))))) (.n)))))) (.s (.s (.n) (.lp [65] 302194561415509874581504 (.s (.n) (.s (.s (.n) (.n)) (.s (.s (.n) (.plan [(0, 32, 590295810358705651712), (1, 590295810358705651712, 1180591620717411303424), (0, 4, 2361183241434822606848), (0, 8192, 4722366482869645213696), (12, 7083549724304467820544, 9444732965739290427392), (16, 9444732965739290427392, 18889465931478580854784), (50, 20070057552195992158208, 37778931862957161709568), (127, 32, 75557863725914323419136), (255, 113336795588871485128704, 0)] (.q 0 (.q 1 (.q 2 (.q 3 (.l 4 (.l 5 (.l 6 (.q 7 (.l 8 .done))))))))))) (.n)))))) (.s (.n) (.n)))))))
set_option maxRecDepth 100000 in
theorem c17 (arg0 arg1 : Value) (K : Value → WP) (w : World) (h : s17 Tryz.prog arg0 arg1 K w) : Runs Tryz.prog 17 [arg0, arg1] K w :=
  runs_of_E wide (fn := Tryz.f17) (c := Tryz.f17.body.getD .skip) 79 A17 [arg0, arg1] w K Tryz.func17 (by kernel_rfl) (by kernel_rfl) (by kernel_rfl) (by kernel_rfl)
    (Eq.mp (by kernel_rfl : s17 Tryz.prog arg0 arg1 K w = E Tryz.prog (Tryz.f17.body.getD .skip) A17 (topK Tryz.prog K Tryz.f17.results) (fun i => (([arg0, arg1] : List Value)[i]?).getD undef) w) h)
theorem ct17 {arg0 arg1 : Value} {h : Hp} {post : Hp → Value → Prop} (hg : ∀ w0, Gs w0 h h [] (s17 Tryz.prog arg0 arg1 (RetP w0 h post))) : Ct Tryz.prog 17 [arg0, arg1] h post := Ct.of (sf := s17 Tryz.prog arg0 arg1) (c17 arg0 arg1) hg
theorem in17 {arg0 arg1 : Value} {S : WP} {K : Value → WP} (hg : G S (s17 Tryz.prog arg0 arg1 K)) : G S (Do Tryz.prog (vCall (.func (.func 17) #[] ⟨[]⟩) [arg0, arg1]) K) := Gs.into (args := [arg0, arg1]) (caps := []) (sf := s17 Tryz.prog arg0 arg1) (c17 arg0 arg1) hg

/- skewer/skewerref20.Add : names 0 a, 1 b, 2 a, 3 b, 5 out, 6 i, 7 i, 8 i, 9 i -/
def s18 (P : Program) (arg0 arg1 : Value) (K : Value → WP) : WP :=
  Do P (V (Instr.box 28 arg0)) fun a1 =>
  Do P (V (Instr.box 28 arg1)) fun b2 =>
  Do P (V (Instr.alloc 28 true (.tuple #[]))) fun t3_4 =>
  Do P (vBuild 28 []) fun t4_10 =>
  Do P (V (Instr.alloc 28 true (.tuple #[]))) fun out5 =>
  Do P (U (Instr.storeAt 28 out5 t4_10)) fun t6_x =>
  Lp (α := Value) (fun c7 s7 => Jk fun _ => -- i
   Do P (V (Instr.fieldAt 28 a1 0)) fun t8_12 =>
   Do P (V (Instr.loadAt 26 t8_12)) fun t9_13 =>
   Do P (vBuiltin .len #[26] 3 [t9_13]) fun t10_14 =>
   Do P (V (binOp .lss 3 s7 t10_14)) fun t11_15 =>
   If t11_15 (
    Dr <|
    Qk P (V (Instr.fieldAt 28 out5 0)) fun C12 t12_18 =>
    Qk P (V (Instr.loadAt 26 t12_18)) fun C13 t13_19 =>
    Qk P (V (Instr.fieldAt 28 a1 0)) fun C14 t14_20 =>
    Qk P (V (Instr.loadAt 26 t14_20)) fun C15 t15_21 =>
    Qk P (V (Instr.indexAt 26 t15_21 s7)) fun C16 t16_23 =>
    Qk P (V (Instr.loadAt 28 t16_23)) fun C17 t17_24 =>
    Qk P (V (Instr.loadAt 28 b2)) fun C18 t18_25 =>
    Do P (vCall (.func (.func 18) #[] ⟨[]⟩) [t17_24, t18_25]) fun t19_26 =>
    With C13 <|
    With C12 <|
    Do P (vBuildSlice 26 1 [(0, t19_26)]) fun t20_27 =>
    With C13 <|
    With C12 <|
    Do P (vBuiltin .append #[26, 26] 26 [t13_19, t20_27]) fun t21_28 =>
    Qk P (V (Instr.fieldAt 28 out5 0)) fun C22 t22_29 =>
    Do P (U (Instr.storeAt 26 t22_29 t21_28)) fun t23_x =>
    Do P (V (binOp .add 3 s7 (.int .i64 1))) fun t24_17 =>
    c7 t24_17
   ) (
    Lp (α := Value) (fun c25 s25 => Jk fun _ => -- i
     Do P (V (Instr.fieldAt 28 b2 0)) fun t26_31 =>
     Do P (V (Instr.loadAt 26 t26_31)) fun t27_32 =>
     Do P (vBuiltin .len #[26] 3 [t27_32]) fun t28_33 =>
     Do P (V (binOp .lss 3 s25 t28_33)) fun t29_34 =>
     If t29_34 (
      Dr <|
      Qk P (V (Instr.fieldAt 28 out5 0)) fun C30 t30_37 =>
      Qk P (V (Instr.loadAt 26 t30_37)) fun C31 t31_38 =>
      Qk P (V (Instr.loadAt 28 a1)) fun C32 t32_39 =>
      Qk P (V (Instr.fieldAt 28 b2 0)) fun C33 t33_40 =>
      Qk P (V (Instr.loadAt 26 t33_40)) fun C34 t34_41 =>
      Qk P (V (Instr.indexAt 26 t34_41 s25)) fun C35 t35_43 =>
      Qk P (V (Instr.loadAt 28 t35_43)) fun C36 t36_44 =>
      Do P (vCall (.func (.func 18) #[] ⟨[]⟩) [t32_39, t36_44]) fun t37_45 =>
      With C31 <|
      With C30 <|
      Do P (vBuildSlice 26 1 [(0, t37_45)]) fun t38_46 =>
      With C31 <|
      With C30 <|
      Do P (vBuiltin .append #[26, 26] 26 [t31_38, t38_46]) fun t39_47 =>
      Qk P (V (Instr.fieldAt 28 out5 0)) fun C40 t40_48 =>
      Do P (U (Instr.storeAt 26 t40_48 t39_47)) fun t41_x =>
      Do P (V (binOp .add 3 s25 (.int .i64 1))) fun t42_36 =>
      c25 t42_36
     ) (
      Lp (α := Value) (fun c43 s43 => Jk fun _ => -- i
       Do P (V (Instr.fieldAt 28 a1 1)) fun t44_50 =>
       Do P (V (Instr.loadAt 26 t44_50)) fun t45_51 =>
       Do P (vBuiltin .len #[26] 3 [t45_51]) fun t46_52 =>
       Do P (V (binOp .lss 3 s43 t46_52)) fun t47_53 =>
       If t47_53 (
        Dr <|
        Qk P (V (Instr.fieldAt 28 out5 1)) fun C48 t48_56 =>
        Qk P (V (Instr.loadAt 26 t48_56)) fun C49 t49_57 =>
        Qk P (V (Instr.fieldAt 28 a1 1)) fun C50 t50_58 =>
        Qk P (V (Instr.loadAt 26 t50_58)) fun C51 t51_59 =>
        Qk P (V (Instr.indexAt 26 t51_59 s43)) fun C52 t52_61 =>
        Qk P (V (Instr.loadAt 28 t52_61)) fun C53 t53_62 =>
        Qk P (V (Instr.loadAt 28 b2)) fun C54 t54_63 =>
        Do P (vCall (.func (.func 18) #[] ⟨[]⟩) [t53_62, t54_63]) fun t55_64 =>
        With C49 <|
        With C48 <|
        Do P (vBuildSlice 26 1 [(0, t55_64)]) fun t56_65 =>
        With C49 <|
        With C48 <|
        Do P (vBuiltin .append #[26, 26] 26 [t49_57, t56_65]) fun t57_66 =>
        Qk P (V (Instr.fieldAt 28 out5 1)) fun C58 t58_67 =>
        Do P (U (Instr.storeAt 26 t58_67 t57_66)) fun t59_x =>
        Do P (V (binOp .add 3 s43 (.int .i64 1))) fun t60_55 =>
        c43 t60_55
       ) (
        Lp (α := Value) (fun c61 s61 => Jk fun _ => -- i
         Do P (V (Instr.fieldAt 28 b2 1)) fun t62_69 =>
         Do P (V (Instr.loadAt 26 t62_69)) fun t63_70 =>
         Do P (vBuiltin .len #[26] 3 [t63_70]) fun t64_71 =>
         Do P (V (binOp .lss 3 s61 t64_71)) fun t65_72 =>
         If t65_72 (
          Dr <|
          Qk P (V (Instr.fieldAt 28 out5 1)) fun C66 t66_75 =>
          Qk P (V (Instr.loadAt 26 t66_75)) fun C67 t67_76 =>
          Qk P (V (Instr.loadAt 28 a1)) fun C68 t68_77 =>
          Qk P (V (Instr.fieldAt 28 b2 1)) fun C69 t69_78 =>
          Qk P (V (Instr.loadAt 26 t69_78)) fun C70 t70_79 =>
          Qk P (V (Instr.indexAt 26 t70_79 s61)) fun C71 t71_81 =>
          Qk P (V (Instr.loadAt 28 t71_81)) fun C72 t72_82 =>
          Do P (vCall (.func (.func 18) #[] ⟨[]⟩) [t68_77, t72_82]) fun t73_83 =>
          With C67 <|
          With C66 <|
          Do P (vBuildSlice 26 1 [(0, t73_83)]) fun t74_84 =>
          With C67 <|
          With C66 <|
          Do P (vBuiltin .append #[26, 26] 26 [t67_76, t74_84]) fun t75_85 =>
          Qk P (V (Instr.fieldAt 28 out5 1)) fun C76 t76_86 =>
          Do P (U (Instr.storeAt 26 t76_86 t75_85)) fun t77_x =>
          Do P (V (binOp .add 3 s61 (.int .i64 1))) fun t78_74 =>
          c61 t78_74
         ) (
          Do P (V (Instr.loadAt 28 out5)) fun t79_87 =>
          Do P (U (Instr.storeAt 28 t3_4 t79_87)) fun t80_x =>
          RetC P 28 t3_4 K
         )
        ) (.int .i64 0)
       )
      ) (.int .i64 0)
     )
    ) (.int .i64 0)
   )
  ) (.int .i64 0)
def A18 : Ann := .s (.n) (.s (.n) (.s (.s (.n) (.lp [6] 1073739840 (.s (.s (.n) (.s (.n) (.n))) (.s (.plan [(0, 32, 262144), (1, 262144, 524288), (0, 4, 1048576), (4, 1048576, 2097152), (0, 64, 4194304), (24, 6291456, 8388608), (32, 8388608, 16777216), (0, 8, 33554432), (192, 50331648, 67108864), (256, 67108864, 134217728), (770, 134742016, 268435456), (2047, 32, 536870912), (4095, 805306368, 0)] (.q 0 (.q 1 (.q 2 (.q 3 (.q 4 (.q 5 (.q 6 (.q 7 (.l 8 (.l 9 (.l 10 (.q 11 (.l 12 .done)))))))))))))) (.n))))) (.s (.s (.n) (.lp [7] 562948879679616 (.s (.s (.n) (.s (.n) (.n))) (.s (.plan [(0, 32, 137438953472), (1, 137438953472, 274877906944), (0, 4, 549755813888), (0, 8, 1099511627776), (8, 1099511627776, 2199023255552), (0, 128, 4398046511104), (48, 6597069766656, 8796093022208), (64, 8796093022208, 17592186044416), (132, 18141941858304, 35184372088832), (256, 35184372088832, 70368744177664), (770, 70643622084608, 140737488355328), (2047, 32, 281474976710656), (4095, 422212465065984, 0)] (.q 0 (.q 1 (.q 2 (.q 3 (.q 4 (.q 5 (.q 6 (.q 7 (.l 8 (.l 9 (.l 10 (.q 11 (.l 12 .done)))))))))))))) (.n))))) (.s (.s (.n) (.lp [8] 295147342229399404800 (.s (.s (.n) (.s (.n) (.n))) (.s (.plan [(0, 32, 72057594037927936), (1, 72057594037927936, 144115188075855872), (0, 4, 288230376151711744), (4, 288230376151711744, 576460752303423488), (0, 256, 1152921504606846976), (24, 1729382256910270464, 2305843009213693952), (32, 2305843009213693952, 4611686018427387904), (0, 8, 9223372036854775808), (192, 13835058055282163712, 18446744073709551616), (256, 18446744073709551616, 36893488147419103232), (770, 37037603335494959104, 73786976294838206464), (2047, 32, 147573952589676412928), (4095, 221360928884514619392, 0)] (.q 0 (.q 1 (.q 2 (.q 3 (.q 4 (.q 5 (.q 6 (.q 7 (.l 8 (.l 9 (.l 10 (.q 11 (.l 12 .done)))))))))))))) (.n))))) (.s (.s (.n) (.lp [9] 154742209762767355009565184 (.s (.s (.n) (.s (.n) (.n))) (.s (.plan [(0, 32, 37778931862957161709568), (1, 37778931862957161709568, 75557863725914323419136), (0, 4, 151115727451828646838272), (0, 8, 302231454903657293676544), (8, 302231454903657293676544, 604462909807314587353088), (0, 512, 1208925819614629174706176), (48, 1813388729421943762059264, 2417851639229258349412352), (64, 2417851639229258349412352, 4835703278458516698824704), (132, 4986819005910345345662976, 9671406556917033397649408), (256, 9671406556917033397649408, 19342813113834066795298816), (770, 19418370977559981118717952, 38685626227668133590597632), (2047, 32, 77371252455336267181195264), (4095, 116056878683004400771792896, 0)] (.q 0 (.q 1 (.q 2 (.q 3 (.q 4 (.q 5 (.q 6 (.q 7 (.l 8 (.l 9 (.l 10 (.q 11 (.l 12 .done)))))))))))))) (.n))))) (.s (.n) (.n)))))))
set_option maxRecDepth 100000 in
theorem c18 (arg0 arg1 : Value) (K : Value → WP) (w : World) (h : s18 Tryz.prog arg0 arg1 K w) : Runs Tryz.prog 18 [arg0, arg1] K w :=
  runs_of_E wide (fn := Tryz.f18) (c := Tryz.f18.body.getD .skip) 88 A18 [arg0, arg1] w K Tryz.func18 (by kernel_rfl) (by kernel_rfl) (by kernel_rfl) (by kernel_rfl)
    (Eq.mp (by kernel_rfl : s18 Tryz.prog arg0 arg1 K w = E Tryz.prog (Tryz.f18.body.getD .skip) A18 (topK Tryz.prog K Tryz.f18.results) (fun i => (([arg0, arg1] : List Value)[i]?).getD undef) w) h)
theorem ct18 {arg0 arg1 : Value} {h : Hp} {post : Hp → Value → Prop} (hg : ∀ w0, Gs w0 h h [] (s18 Tryz.prog arg0 arg1 (RetP w0 h post))) : Ct Tryz.prog 18 [arg0, arg1] h post := Ct.of (sf := s18 Tryz.prog arg0 arg1) (c18 arg0 arg1) hg
theorem in18 {arg0 arg1 : Value} {S : WP} {K : Value → WP} (hg : G S (s18 Tryz.prog arg0 arg1 K)) : G S (Do Tryz.prog (vCall (.func (.func 18) #[] ⟨[]⟩) [arg0, arg1]) K) := Gs.into (args := [arg0, arg1]) (caps := []) (sf := s18 Tryz.prog arg0 arg1) (c18 arg0 arg1) hg

/- skewer/value.Number : names 0 f, 1 f, 4 b, 5 x, 6 ok -/
def s19 (P : Program) (arg0 : Value) (K : Value → WP) : WP :=
  Do P (V (Instr.box 28 arg0)) fun f1 =>
  Do P (V (Instr.alloc 36 true (.tuple #[]))) fun t2_2 =>
  Do P (vCall (.func (.func 26) #[] ⟨[]⟩) []) fun t3_7 =>
  Do P (V (Instr.loadAt 28 f1)) fun t4_11 =>
  Do P (vCall (.func (.func 28) #[] ⟨[]⟩) [t3_7, t4_11]) fun t5_12 =>
  Do P (vCall (.func (.func 31) #[] ⟨[]⟩) [t3_7, t5_12]) fun t6_13 =>
  Do P (vCall (.func (.func 37) #[] ⟨[]⟩) [t6_13]) fun t7_14 =>
  Do P (V (Instr.extract t7_14 0)) fun t8_15 =>
  Do P (V (Instr.extract t7_14 1)) fun t9_16 =>
  Do P (V (Instr.alloc 36 true (.tuple #[]))) fun x10 =>
  Do P (U (Instr.storeAt 36 x10 t8_15)) fun t11_x =>
  If t9_16 (
   Do P (V (Instr.loadAt 36 x10)) fun t12_18 =>
   Do P (U (Instr.storeAt 36 t2_2 t12_18)) fun t13_x =>
   RetC P 36 t2_2 fun r => K (.tuple #[r, (.bool true)])
  ) (
   Do P (vBuild 36 []) fun t14_19 =>
   Do P (U (Instr.storeAt 36 t2_2 t14_19)) fun t15_x =>
   RetC P 36 t2_2 fun r => K (.tuple #[r, (.bool false)])
  )
def A19 : Ann := .s (.n) (.s (.n) (.s (.s (.n) (.s (.n) (.s (.s (.n) (.n)) (.n)))) (.s (.n) (.n))))
set_option maxRecDepth 100000 in
theorem c19 (arg0 : Value) (K : Value → WP) (w : World) (h : s19 Tryz.prog arg0 K w) : Runs Tryz.prog 19 [arg0] K w :=
  runs_of_E wide (fn := Tryz.f19) (c := Tryz.f19.body.getD .skip) 20 A19 [arg0] w K Tryz.func19 (by kernel_rfl) (by kernel_rfl) (by kernel_rfl) (by kernel_rfl)
    (Eq.mp (by kernel_rfl : s19 Tryz.prog arg0 K w = E Tryz.prog (Tryz.f19.body.getD .skip) A19 (topK Tryz.prog K Tryz.f19.results) (fun i => (([arg0] : List Value)[i]?).getD undef) w) h)
theorem ct19 {arg0 : Value} {h : Hp} {post : Hp → Value → Prop} (hg : ∀ w0, Gs w0 h h [] (s19 Tryz.prog arg0 (RetP w0 h post))) : Ct Tryz.prog 19 [arg0] h post := Ct.of (sf := s19 Tryz.prog arg0) (c19 arg0) hg
theorem in19 {arg0 : Value} {S : WP} {K : Value → WP} (hg : G S (s19 Tryz.prog arg0 K)) : G S (Do Tryz.prog (vCall (.func (.func 19) #[] ⟨[]⟩) [arg0]) K) := Gs.into (args := [arg0]) (caps := []) (sf := s19 Tryz.prog arg0) (c19 arg0) hg

/- skewer/skewerref20.Number : names 0 f, 1 f, 4 r -/
def s20 (P : Program) (arg0 : Value) (K : Value → WP) : WP :=
  Do P (V (Instr.box 28 arg0)) fun f1 =>
  Do P (V (Instr.alloc 36 true (.tuple #[]))) fun t2_2 =>
  Do P (V (Instr.loadAt 28 f1)) fun t3_5 =>
  Do P (vCall (.func (.func 16) #[] ⟨[]⟩) [t3_5]) fun t4_6 =>
  Do P (vCall (.func (.func 38) #[] ⟨[]⟩) [t4_6]) fun t5_7 =>
  Do P (V (Instr.alloc 63 true (.tuple #[]))) fun r6 =>
  Do P (U (Instr.storeAt 63 r6 t5_7)) fun t7_x =>
  Dr <|
  Qk P (V (Instr.fieldAt 63 r6 0)) fun C8 t8_8 =>
  Qk P (V (Instr.loadAt 36 t8_8)) fun C9 t9_9 =>
  Qk P (V (Instr.fieldAt 63 r6 1)) fun C10 t10_10 =>
  Qk P (V (Instr.loadAt 4 t10_10)) fun C11 t11_11 =>
  Do P (U (Instr.storeAt 36 t2_2 t9_9)) fun t12_x =>
  With C11 <|
  With C10 <|
  RetC P 36 t2_2 fun r => K (.tuple #[r, t11_11])
def A20 : Ann := .s (.n) (.s (.n) (.s (.plan [(0, 16, 256), (1, 256, 512), (0, 16, 1024), (4, 1024, 2048), (3, 516, 0), (31, 2048, 8)] (.q 0 (.q 1 (.q 2 (.q 3 (.l 4 (.q 5 .done))))))) (.n)))
set_option maxRecDepth 100000 in
theorem c20 (arg0 : Value) (K : Value → WP) (w : World) (h : s20 Tryz.prog arg0 K w) : Runs Tryz.prog 20 [arg0] K w :=
  runs_of_E wide (fn := Tryz.f20) (c := Tryz.f20.body.getD .skip) 12 A20 [arg0] w K Tryz.func20 (by kernel_rfl) (by kernel_rfl) (by kernel_rfl) (by kernel_rfl)
    (Eq.mp (by kernel_rfl : s20 Tryz.prog arg0 K w = E Tryz.prog (Tryz.f20.body.getD .skip) A20 (topK Tryz.prog K Tryz.f20.results) (fun i => (([arg0] : List Value)[i]?).getD undef) w) h)
theorem ct20 {arg0 : Value} {h : Hp} {post : Hp → Value → Prop} (hg : ∀ w0, Gs w0 h h [] (s20 Tryz.prog arg0 (RetP w0 h post))) : Ct Tryz.prog 20 [arg0] h post := Ct.of (sf := s20 Tryz.prog arg0) (c20 arg0) hg
theorem in20 {arg0 : Value} {S : WP} {K : Value → WP} (hg : G S (s20 Tryz.prog arg0 K)) : G S (Do Tryz.prog (vCall (.func (.func 20) #[] ⟨[]⟩) [arg0]) K) := Gs.into (args := [arg0]) (caps := []) (sf := s20 Tryz.prog arg0) (c20 arg0) hg

/- skewer/value.Of : names 0 x, 1 x, 4 room, 5 f -/
def s21 (P : Program) (arg0 : Value) (K : Value → WP) : WP :=
  Do P (V (Instr.box 36 arg0)) fun x1 =>
  Do P (V (Instr.alloc 28 true (.tuple #[]))) fun t2_2 =>
  Do P (V (Instr.loadAt 36 x1)) fun t3_6 =>
  Do P (vCall (.func (.func 39) #[] ⟨[]⟩) [t3_6]) fun t4_7 =>
  Do P (V (Op.unary .not t4_7)) fun t5_8 =>
  If t5_8 (
   Do P (vBuild 28 []) fun t6_9 =>
   Do P (U (Instr.storeAt 28 t2_2 t6_9)) fun t7_x =>
   RetC P 28 t2_2 fun r => K (.tuple #[r, (.int .i64 190)])
  ) (
   Do P (V (Instr.alloc 3 true (.tuple #[]))) fun room8 =>
   Do P (U (Instr.storeAt 3 room8 (.int .i64 2000))) fun t9_x =>
   Do P (V (Instr.loadAt 36 x1)) fun t10_10 =>
   Do P (vCall (.func (.func 40) #[] ⟨[]⟩) [t10_10, room8]) fun t11_11 =>
   Do P (V (Instr.alloc 28 true (.tuple #[]))) fun f12 =>
   Do P (U (Instr.storeAt 28 f12 t11_11)) fun t13_x =>
   Do P (V (Instr.loadAt 3 room8)) fun t14_12 =>
   Do P (V (binOp .lss 3 t14_12 (.int .i64 0))) fun t15_13 =>
   If t15_13 (
    Do P (vBuild 28 []) fun t16_14 =>
    Do P (U (Instr.storeAt 28 t2_2 t16_14)) fun t17_x =>
    RetC P 28 t2_2 fun r => K (.tuple #[r, (.int .i64 2)])
   ) (
    Do P (V (Instr.loadAt 28 f12)) fun t18_15 =>
    Do P (U (Instr.storeAt 28 t2_2 t18_15)) fun t19_x =>
    RetC P 28 t2_2 fun r => K (.tuple #[r, (.int .i64 0)])
   )
  )
def A21 : Ann := .s (.n) (.s (.s (.n) (.s (.s (.n) (.n)) (.n))) (.s (.n) (.s (.n) (.s (.s (.n) (.s (.s (.n) (.n)) (.n))) (.s (.n) (.n))))))
set_option maxRecDepth 100000 in
theorem c21 (arg0 : Value) (K : Value → WP) (w : World) (h : s21 Tryz.prog arg0 K w) : Runs Tryz.prog 21 [arg0] K w :=
  runs_of_E wide (fn := Tryz.f21) (c := Tryz.f21.body.getD .skip) 16 A21 [arg0] w K Tryz.func21 (by kernel_rfl) (by kernel_rfl) (by kernel_rfl) (by kernel_rfl)
    (Eq.mp (by kernel_rfl : s21 Tryz.prog arg0 K w = E Tryz.prog (Tryz.f21.body.getD .skip) A21 (topK Tryz.prog K Tryz.f21.results) (fun i => (([arg0] : List Value)[i]?).getD undef) w) h)
theorem ct21 {arg0 : Value} {h : Hp} {post : Hp → Value → Prop} (hg : ∀ w0, Gs w0 h h [] (s21 Tryz.prog arg0 (RetP w0 h post))) : Ct Tryz.prog 21 [arg0] h post := Ct.of (sf := s21 Tryz.prog arg0) (c21 arg0) hg
theorem in21 {arg0 : Value} {S : WP} {K : Value → WP} (hg : G S (s21 Tryz.prog arg0 K)) : G S (Do Tryz.prog (vCall (.func (.func 21) #[] ⟨[]⟩) [arg0]) K) := Gs.into (args := [arg0]) (caps := []) (sf := s21 Tryz.prog arg0) (c21 arg0) hg

/- skewer/skewerref20.Of : names 0 x, 1 x -/
def s22 (P : Program) (arg0 : Value) (K : Value → WP) : WP :=
  Do P (V (Instr.box 36 arg0)) fun x1 =>
  Do P (V (Instr.alloc 28 true (.tuple #[]))) fun t2_2 =>
  Do P (V (Instr.loadAt 36 x1)) fun t3_4 =>
  Do P (vCall (.func (.func 41) #[] ⟨[]⟩) [t3_4]) fun t4_5 =>
  Do P (V (Op.unary .not t4_5)) fun t5_6 =>
  If t5_6 (
   Do P (vBuild 28 []) fun t6_7 =>
   Do P (U (Instr.storeAt 28 t2_2 t6_7)) fun t7_x =>
   RetC P 28 t2_2 fun r => K (.tuple #[r, (.int .i64 190)])
  ) (
   Do P (V (Instr.loadAt 36 x1)) fun t8_8 =>
   Do P (vCall (.func (.func 42) #[] ⟨[]⟩) [t8_8, (.int .i64 2000)]) fun t9_9 =>
   Do P (V (binOp .gtr 3 t9_9 (.int .i64 2000))) fun t10_10 =>
   If t10_10 (
    Do P (vBuild 28 []) fun t11_11 =>
    Do P (U (Instr.storeAt 28 t2_2 t11_11)) fun t12_x =>
    RetC P 28 t2_2 fun r => K (.tuple #[r, (.int .i64 2)])
   ) (
    Do P (V (Instr.loadAt 36 x1)) fun t13_12 =>
    Do P (vCall (.func (.func 43) #[] ⟨[]⟩) [t13_12]) fun t14_13 =>
    Do P (U (Instr.storeAt 28 t2_2 t14_13)) fun t15_x =>
    RetC P 28 t2_2 fun r => K (.tuple #[r, (.int .i64 0)])
   )
  )
def A22 : Ann := .s (.n) (.s (.s (.n) (.s (.s (.n) (.n)) (.n))) (.s (.s (.n) (.s (.s (.n) (.n)) (.n))) (.s (.n) (.n))))
set_option maxRecDepth 100000 in
theorem c22 (arg0 : Value) (K : Value → WP) (w : World) (h : s22 Tryz.prog arg0 K w) : Runs Tryz.prog 22 [arg0] K w :=
  runs_of_E wide (fn := Tryz.f22) (c := Tryz.f22.body.getD .skip) 14 A22 [arg0] w K Tryz.func22 (by kernel_rfl) (by kernel_rfl) (by kernel_rfl) (by kernel_rfl)
    (Eq.mp (by kernel_rfl : s22 Tryz.prog arg0 K w = E Tryz.prog (Tryz.f22.body.getD .skip) A22 (topK Tryz.prog K Tryz.f22.results) (fun i => (([arg0] : List Value)[i]?).getD undef) w) h)
theorem ct22 {arg0 : Value} {h : Hp} {post : Hp → Value → Prop} (hg : ∀ w0, Gs w0 h h [] (s22 Tryz.prog arg0 (RetP w0 h post))) : Ct Tryz.prog 22 [arg0] h post := Ct.of (sf := s22 Tryz.prog arg0) (c22 arg0) hg
theorem in22 {arg0 : Value} {S : WP} {K : Value → WP} (hg : G S (s22 Tryz.prog arg0 K)) : G S (Do Tryz.prog (vCall (.func (.func 22) #[] ⟨[]⟩) [arg0]) K) := Gs.into (args := [arg0]) (caps := []) (sf := s22 Tryz.prog arg0) (c22 arg0) hg

/- skewer/value.Winner : names 0 f, 1 first, 2 f, 3 first, 5 b, 6 n, 7 zero -/
def s23 (P : Program) (arg0 arg1 : Value) (K : Value → WP) : WP :=
  Do P (V (Instr.box 28 arg0)) fun f1 =>
  Do P (vCall (.func (.func 26) #[] ⟨[]⟩) []) fun t2_8 =>
  Do P (V (Instr.loadAt 28 f1)) fun t3_10 =>
  Do P (vCall (.func (.func 28) #[] ⟨[]⟩) [t2_8, t3_10]) fun t4_11 =>
  Do P (vCall (.func (.func 44) #[] ⟨[]⟩) [t2_8, (.slice none 0 0), (.slice none 0 0)]) fun t5_13 =>
  Jn (α := Value) (fun j6 => Jk fun _ => -- t32
   If j6 (
    K (.int .i64 0)
   ) (
    K (.int .i64 1)
   )
  ) fun k6 =>
  Do P (V (EqG .eql 3 (.tmp 14) (.const (.int .i64 0)) arg1 (.int .i64 0))) fun t7_15 =>
  Gd t7_15 true (
   Do P (vCall (.func (.func 27) #[] ⟨[]⟩) [t2_8, t4_11, t5_13]) fun t8_20 =>
   Do P (V (Op.unary .not t8_20)) fun t9_21 =>
   Gd t9_21 false (
    Do P (V (EqG .neq 3 (.tmp 24) (.const (.int .i64 0)) arg1 (.int .i64 0))) fun t10_25 =>
    Gd t10_25 true (
     Do P (vCall (.func (.func 27) #[] ⟨[]⟩) [t2_8, t5_13, t4_11]) fun t11_30 =>
     k6 t11_30
    ) (
     k6 (.bool false)
    )
   ) (
    k6 (.bool true)
   )
  ) (
   Do P (V (EqG .neq 3 (.tmp 24) (.const (.int .i64 0)) arg1 (.int .i64 0))) fun t12_25 =>
   Gd t12_25 true (
    Do P (vCall (.func (.func 27) #[] ⟨[]⟩) [t2_8, t5_13, t4_11]) fun t13_30 =>
    k6 t13_30
   ) (
    k6 (.bool false)
   )
  )
def A23 : Ann := .s (.n) (.s (.n) (.s (.n) (.s (.j [32] 8589918208 (.n) (.s (.s (.n) (.n)) (.n))) (.s (.n) (.n)))))
set_option maxRecDepth 100000 in
theorem c23 (arg0 arg1 : Value) (K : Value → WP) (w : World) (h : s23 Tryz.prog arg0 arg1 K w) : Runs Tryz.prog 23 [arg0, arg1] K w :=
  runs_of_E wide (fn := Tryz.f23) (c := Tryz.f23.body.getD .skip) 33 A23 [arg0, arg1] w K Tryz.func23 (by kernel_rfl) (by kernel_rfl) (by kernel_rfl) (by kernel_rfl)
    (Eq.mp (by kernel_rfl : s23 Tryz.prog arg0 arg1 K w = E Tryz.prog (Tryz.f23.body.getD .skip) A23 (topK Tryz.prog K Tryz.f23.results) (fun i => (([arg0, arg1] : List Value)[i]?).getD undef) w) h)
theorem ct23 {arg0 arg1 : Value} {h : Hp} {post : Hp → Value → Prop} (hg : ∀ w0, Gs w0 h h [] (s23 Tryz.prog arg0 arg1 (RetP w0 h post))) : Ct Tryz.prog 23 [arg0, arg1] h post := Ct.of (sf := s23 Tryz.prog arg0 arg1) (c23 arg0 arg1) hg
theorem in23 {arg0 arg1 : Value} {S : WP} {K : Value → WP} (hg : G S (s23 Tryz.prog arg0 arg1 K)) : G S (Do Tryz.prog (vCall (.func (.func 23) #[] ⟨[]⟩) [arg0, arg1]) K) := Gs.into (args := [arg0, arg1]) (caps := []) (sf := s23 Tryz.prog arg0 arg1) (c23 arg0 arg1) hg

/- skewer/skewerref20.Winner : names 0 f, 1 first, 2 f, 3 first -/
def s24 (P : Program) (arg0 arg1 : Value) (K : Value → WP) : WP :=
  Do P (V (Instr.box 28 arg0)) fun f1 =>
  Do P (V (EqG .eql 3 (.tmp 5) (.const (.int .i64 0)) arg1 (.int .i64 0))) fun t2_6 =>
  If t2_6 (
   Do P (V (Instr.loadAt 28 f1)) fun t3_7 =>
   Do P (vBuild 28 []) fun t4_8 =>
   Do P (vCall (.func (.func 9) #[] ⟨[]⟩) [t3_7, t4_8]) fun t5_9 =>
   If t5_9 (
    K (.int .i64 1)
   ) (
    K (.int .i64 0)
   )
  ) (
   Do P (vBuild 28 []) fun t6_10 =>
   Do P (V (Instr.loadAt 28 f1)) fun t7_11 =>
   Do P (vCall (.func (.func 9) #[] ⟨[]⟩) [t6_10, t7_11]) fun t8_12 =>
   If t8_12 (
    K (.int .i64 0)
   ) (
    K (.int .i64 1)
   )
  )
def A24 : Ann := .s (.n) (.s (.s (.n) (.s (.s (.s (.n) (.s (.s (.n) (.n)) (.n))) (.s (.n) (.n))) (.n))) (.s (.s (.n) (.s (.s (.n) (.n)) (.n))) (.s (.n) (.n))))
set_option maxRecDepth 100000 in
theorem c24 (arg0 arg1 : Value) (K : Value → WP) (w : World) (h : s24 Tryz.prog arg0 arg1 K w) : Runs Tryz.prog 24 [arg0, arg1] K w :=
  runs_of_E wide (fn := Tryz.f24) (c := Tryz.f24.body.getD .skip) 13 A24 [arg0, arg1] w K Tryz.func24 (by kernel_rfl) (by kernel_rfl) (by kernel_rfl) (by kernel_rfl)
    (Eq.mp (by kernel_rfl : s24 Tryz.prog arg0 arg1 K w = E Tryz.prog (Tryz.f24.body.getD .skip) A24 (topK Tryz.prog K Tryz.f24.results) (fun i => (([arg0, arg1] : List Value)[i]?).getD undef) w) h)
theorem ct24 {arg0 arg1 : Value} {h : Hp} {post : Hp → Value → Prop} (hg : ∀ w0, Gs w0 h h [] (s24 Tryz.prog arg0 arg1 (RetP w0 h post))) : Ct Tryz.prog 24 [arg0, arg1] h post := Ct.of (sf := s24 Tryz.prog arg0 arg1) (c24 arg0 arg1) hg
theorem in24 {arg0 arg1 : Value} {S : WP} {K : Value → WP} (hg : G S (s24 Tryz.prog arg0 arg1 K)) : G S (Do Tryz.prog (vCall (.func (.func 24) #[] ⟨[]⟩) [arg0, arg1]) K) := Gs.into (args := [arg0, arg1]) (caps := []) (sf := s24 Tryz.prog arg0 arg1) (c24 arg0 arg1) hg

/- skewer/skewerlaw20.form : names 0 l, 1 r, 2 l, 3 r -/
def s25 (P : Program) (arg0 arg1 : Value) (K : Value → WP) : WP :=
  Do P (V (Instr.alloc 28 true (.tuple #[]))) fun t1_4 =>
  Do P (vBuild 28 [(0, arg0), (1, arg1)]) fun t2_7 =>
  Do P (U (Instr.storeAt 28 t1_4 t2_7)) fun t3_x =>
  RetC P 28 t1_4 K
def A25 : Ann := .s (.n) (.s (.n) (.n))
set_option maxRecDepth 100000 in
theorem c25 (arg0 arg1 : Value) (K : Value → WP) (w : World) (h : s25 Tryz.prog arg0 arg1 K w) : Runs Tryz.prog 25 [arg0, arg1] K w :=
  runs_of_E wide (fn := Tryz.f25) (c := Tryz.f25.body.getD .skip) 8 A25 [arg0, arg1] w K Tryz.func25 (by kernel_rfl) (by kernel_rfl) (by kernel_rfl) (by kernel_rfl)
    (Eq.mp (by kernel_rfl : s25 Tryz.prog arg0 arg1 K w = E Tryz.prog (Tryz.f25.body.getD .skip) A25 (topK Tryz.prog K Tryz.f25.results) (fun i => (([arg0, arg1] : List Value)[i]?).getD undef) w) h)
theorem ct25 {arg0 arg1 : Value} {h : Hp} {post : Hp → Value → Prop} (hg : ∀ w0, Gs w0 h h [] (s25 Tryz.prog arg0 arg1 (RetP w0 h post))) : Ct Tryz.prog 25 [arg0, arg1] h post := Ct.of (sf := s25 Tryz.prog arg0 arg1) (c25 arg0 arg1) hg
theorem in25 {arg0 arg1 : Value} {S : WP} {K : Value → WP} (hg : G S (s25 Tryz.prog arg0 arg1 K)) : G S (Do Tryz.prog (vCall (.func (.func 25) #[] ⟨[]⟩) [arg0, arg1]) K) := Gs.into (args := [arg0, arg1]) (caps := []) (sf := s25 Tryz.prog arg0 arg1) (c25 arg0 arg1) hg

/- skewer/value.open : names  -/
def s26 (P : Program) (K : Value → WP) : WP :=
  Do P (V (Instr.makeMap 71 none)) fun t1_1 =>
  Do P (V (Instr.makeMap 72 none)) fun t2_2 =>
  Do P (V (Instr.makeMap 71 none)) fun t3_3 =>
  Do P (vBuild 74 [(0, t1_1), (1, t2_2), (2, t3_3)]) fun t4_4 =>
  Do P (V (Instr.box 74 t4_4)) fun t5_5 =>
  K t5_5
def A26 : Ann := .s (.n) (.s (.n) (.n))
set_option maxRecDepth 100000 in
theorem c26 (K : Value → WP) (w : World) (h : s26 Tryz.prog  K w) : Runs Tryz.prog 26 [] K w :=
  runs_of_E wide (fn := Tryz.f26) (c := Tryz.f26.body.getD .skip) 6 A26 [] w K Tryz.func26 (by kernel_rfl) (by kernel_rfl) (by kernel_rfl) (by kernel_rfl)
    (Eq.mp (by kernel_rfl : s26 Tryz.prog  K w = E Tryz.prog (Tryz.f26.body.getD .skip) A26 (topK Tryz.prog K Tryz.f26.results) (fun i => (([] : List Value)[i]?).getD undef) w) h)
theorem ct26 {h : Hp} {post : Hp → Value → Prop} (hg : ∀ w0, Gs w0 h h [] (s26 Tryz.prog  (RetP w0 h post))) : Ct Tryz.prog 26 [] h post := Ct.of (sf := s26 Tryz.prog ) (c26 ) hg
theorem in26 {S : WP} {K : Value → WP} (hg : G S (s26 Tryz.prog  K)) : G S (Do Tryz.prog (vCall (.func (.func 26) #[] ⟨[]⟩) []) K) := Gs.into (args := []) (caps := []) (sf := s26 Tryz.prog ) (c26 ) hg

/- (*skewer/value.book).most : names 0 b, 1 x, 2 y, 3 b, 4 x, 5 y, 7 p, 8 known, 9 ok, 10 worse, 11 better, 12 out -/
def s27 (P : Program) (arg0 arg1 arg2 : Value) (K : Value → WP) : WP :=
  Do P (V (Instr.box 46 arg0)) fun b1 =>
  Do P (V (Instr.box 49 arg1)) fun x2 =>
  Do P (V (Instr.box 49 arg2)) fun y3 =>
  Dr <|
  Qk P (V (Instr.loadAt 49 x2)) fun C4 t4_13 =>
  Qk P (vNil t4_13) fun C5 t5_14 =>
  Qk P (V (Instr.fieldAt 53 t5_14 0)) fun C6 t6_15 =>
  Qk P (V (Instr.loadAt 9 t6_15)) fun C7 t7_16 =>
  Qk P (V (Instr.loadAt 49 y3)) fun C8 t8_17 =>
  Qk P (vNil t8_17) fun C9 t9_18 =>
  Qk P (V (Instr.fieldAt 53 t9_18 0)) fun C10 t10_19 =>
  Qk P (V (Instr.loadAt 9 t10_19)) fun C11 t11_20 =>
  Qk P (vBuild 76 [(0, t7_16), (1, t11_20)]) fun C12 t12_21 =>
  Do P (V (Instr.alloc 76 true (.tuple #[]))) fun p13 =>
  With C12 <|
  With C11 <|
  With C10 <|
  With C9 <|
  With C8 <|
  With C7 <|
  With C6 <|
  With C5 <|
  With C4 <|
  Do P (U (Instr.storeAt 76 p13 t12_21)) fun t14_x =>
  Dr <|
  Qk P (V (Instr.loadAt 46 b1)) fun C15 t15_23 =>
  Qk P (vNil t15_23) fun C16 t16_24 =>
  Qk P (V (Instr.fieldAt 74 t16_24 1)) fun C17 t17_25 =>
  Qk P (V (Instr.loadAt 72 t17_25)) fun C18 t18_26 =>
  Qk P (V (Instr.loadAt 76 p13)) fun C19 t19_27 =>
  Qk P (V (Instr.lookup 72 t18_26 t19_27 true)) fun C20 t20_28 =>
  Qk P (V (Instr.extract t20_28 0)) fun C21 t21_29 =>
  Qk P (V (Instr.extract t20_28 1)) fun C22 t22_30 =>
  If t22_30 (
   K t21_29
  ) (
   Jn (α := Value) (fun j23 => Jk fun _ => -- out
    Dr <|
    Qk P (V (Instr.loadAt 46 b1)) fun C24 t24_51 =>
    Qk P (vNil t24_51) fun C25 t25_52 =>
    Qk P (V (Instr.fieldAt 74 t25_52 1)) fun C26 t26_53 =>
    Qk P (V (Instr.loadAt 72 t26_53)) fun C27 t27_54 =>
    Qk P (V (Instr.loadAt 76 p13)) fun C28 t28_55 =>
    Do P (U (Instr.mapUpdate 72 t27_54 t28_55 j23)) fun t29_x =>
    K j23
   ) fun k23 =>
   Do P (V (Instr.loadAt 49 x2)) fun t30_35 =>
   Do P (vNil t30_35) fun t31_36 =>
   Do P (V (Instr.fieldAt 53 t31_36 1)) fun t32_37 =>
   Do P (V (Instr.loadAt 51 t32_37)) fun t33_38 =>
   Do P (vCall (.func (.func 47) #[] ⟨[]⟩) [t33_38, (.func (.func 45) #[] ⟨[b1, y3]⟩)]) fun t34_40 =>
   Do P (V (Op.unary .not t34_40)) fun t35_41 =>
   Gd t35_41 true (
    Do P (V (Instr.loadAt 49 y3)) fun t36_43 =>
    Do P (vNil t36_43) fun t37_44 =>
    Do P (V (Instr.fieldAt 53 t37_44 2)) fun t38_45 =>
    Do P (V (Instr.loadAt 51 t38_45)) fun t39_46 =>
    Do P (vCall (.func (.func 47) #[] ⟨[]⟩) [t39_46, (.func (.func 46) #[] ⟨[b1, x2]⟩)]) fun t40_48 =>
    Do P (V (Op.unary .not t40_48)) fun t41_49 =>
    k23 t41_49
   ) (
    k23 (.bool false)
   )
  )
def A27 : Ann := .s (.n) (.s (.plan [(0, 16, 8192), (1, 8192, 16384), (2, 16384, 32768), (4, 32768, 65536), (0, 32, 131072), (16, 131072, 262144), (32, 262144, 524288), (64, 524288, 1048576), (136, 1114112, 2097152), (0, 0, 128), (1023, 2097280, 0)] (.q 0 (.q 1 (.q 2 (.q 3 (.q 4 (.q 5 (.q 6 (.q 7 (.q 8 (.l 9 (.l 10 .done)))))))))))) (.s (.s (.plan [(0, 8, 8388608), (1, 8388608, 16777216), (2, 16777216, 33554432), (4, 33554432, 67108864), (0, 128, 134217728), (24, 201326592, 268435456), (32, 268435456, 4194304), (64, 4194304, 536870912), (64, 4194304, 1073741824), (255, 536870912, 256), (1023, 1073741824, 512)] (.q 0 (.q 1 (.q 2 (.q 3 (.q 4 (.q 5 (.q 6 (.q 7 (.q 8 (.q 9 (.q 10 .done)))))))))))) (.s (.n) (.s (.s (.n) (.n)) (.n)))) (.s (.n) (.s (.n) (.j [12] 2251765453950976 (.n) (.s (.plan [(0, 8, 2251799813685248), (1, 2251799813685248, 4503599627370496), (2, 4503599627370496, 9007199254740992), (4, 9007199254740992, 18014398509481984), (0, 128, 36028797018963968), (0, 4096, 72057594037927936), (63, 126100789566373888, 0)] (.q 0 (.q 1 (.q 2 (.q 3 (.q 4 (.q 5 (.l 6 .done)))))))) (.s (.n) (.n))))))))
set_option maxRecDepth 100000 in
theorem c27 (arg0 arg1 arg2 : Value) (K : Value → WP) (w : World) (h : s27 Tryz.prog arg0 arg1 arg2 K w) : Runs Tryz.prog 27 [arg0, arg1, arg2] K w :=
  runs_of_E wide (fn := Tryz.f27) (c := Tryz.f27.body.getD .skip) 58 A27 [arg0, arg1, arg2] w K Tryz.func27 (by kernel_rfl) (by kernel_rfl) (by kernel_rfl) (by kernel_rfl)
    (Eq.mp (by kernel_rfl : s27 Tryz.prog arg0 arg1 arg2 K w = E Tryz.prog (Tryz.f27.body.getD .skip) A27 (topK Tryz.prog K Tryz.f27.results) (fun i => (([arg0, arg1, arg2] : List Value)[i]?).getD undef) w) h)
theorem ct27 {arg0 arg1 arg2 : Value} {h : Hp} {post : Hp → Value → Prop} (hg : ∀ w0, Gs w0 h h [] (s27 Tryz.prog arg0 arg1 arg2 (RetP w0 h post))) : Ct Tryz.prog 27 [arg0, arg1, arg2] h post := Ct.of (sf := s27 Tryz.prog arg0 arg1 arg2) (c27 arg0 arg1 arg2) hg
theorem in27 {arg0 arg1 arg2 : Value} {S : WP} {K : Value → WP} (hg : G S (s27 Tryz.prog arg0 arg1 arg2 K)) : G S (Do Tryz.prog (vCall (.func (.func 27) #[] ⟨[]⟩) [arg0, arg1, arg2]) K) := Gs.into (args := [arg0, arg1, arg2]) (caps := []) (sf := s27 Tryz.prog arg0 arg1 arg2) (c27 arg0 arg1 arg2) hg

/- (*skewer/value.book).enter : names 0 b, 1 f, 2 b, 3 f -/
def s28 (P : Program) (arg0 arg1 : Value) (K : Value → WP) : WP :=
  Do P (V (Instr.box 28 arg1)) fun f1 =>
  Dr <|
  Qk P (V (Instr.fieldAt 28 f1 0)) fun C2 t2_7 =>
  Qk P (V (Instr.loadAt 26 t2_7)) fun C3 t3_8 =>
  Qk P (V (Instr.fieldAt 28 f1 1)) fun C4 t4_11 =>
  Qk P (V (Instr.loadAt 26 t4_11)) fun C5 t5_12 =>
  Do P (vCall (.func (.func 48) #[] ⟨[]⟩) [arg0, t3_8]) fun t6_9 =>
  With C5 <|
  With C4 <|
  Do P (vCall (.func (.func 48) #[] ⟨[]⟩) [arg0, t5_12]) fun t7_13 =>
  Do P (vCall (.func (.func 44) #[] ⟨[]⟩) [arg0, t6_9, t7_13]) fun t8_14 =>
  K t8_14
def A28 : Ann := .s (.n) (.s (.plan [(0, 1, 32), (0, 1, 64), (0, 8, 128), (4, 128, 256), (10, 320, 512), (0, 1, 1024), (0, 8, 2048), (64, 2048, 4096), (176, 5120, 8192), (273, 8736, 16384), (1023, 16384, 16)] (.q 0 (.q 1 (.q 2 (.q 3 (.q 5 (.q 6 (.q 7 (.l 4 (.l 8 (.l 9 (.q 10 .done)))))))))))) (.n))
set_option maxRecDepth 100000 in
theorem c28 (arg0 arg1 : Value) (K : Value → WP) (w : World) (h : s28 Tryz.prog arg0 arg1 K w) : Runs Tryz.prog 28 [arg0, arg1] K w :=
  runs_of_E wide (fn := Tryz.f28) (c := Tryz.f28.body.getD .skip) 15 A28 [arg0, arg1] w K Tryz.func28 (by kernel_rfl) (by kernel_rfl) (by kernel_rfl) (by kernel_rfl)
    (Eq.mp (by kernel_rfl : s28 Tryz.prog arg0 arg1 K w = E Tryz.prog (Tryz.f28.body.getD .skip) A28 (topK Tryz.prog K Tryz.f28.results) (fun i => (([arg0, arg1] : List Value)[i]?).getD undef) w) h)
theorem ct28 {arg0 arg1 : Value} {h : Hp} {post : Hp → Value → Prop} (hg : ∀ w0, Gs w0 h h [] (s28 Tryz.prog arg0 arg1 (RetP w0 h post))) : Ct Tryz.prog 28 [arg0, arg1] h post := Ct.of (sf := s28 Tryz.prog arg0 arg1) (c28 arg0 arg1) hg
theorem in28 {arg0 arg1 : Value} {S : WP} {K : Value → WP} (hg : G S (s28 Tryz.prog arg0 arg1 K)) : G S (Do Tryz.prog (vCall (.func (.func 28) #[] ⟨[]⟩) [arg0, arg1]) K) := Gs.into (args := [arg0, arg1]) (caps := []) (sf := s28 Tryz.prog arg0 arg1) (c28 arg0 arg1) hg

/- skewer/skewerref20.texts : names 0 l, 1 l, 3 out, 4 i -/
def s29 (P : Program) (arg0 : Value) (K : Value → WP) : WP :=
  Lp (α := Value × Value) (fun c1 s1 => Jk fun _ => -- out i
   Do P (vBuiltin .len #[26] 3 [arg0]) fun t2_7 =>
   Do P (V (binOp .lss 3 s1.2 t2_7)) fun t3_8 =>
   If t3_8 (
    Jn (α := Value) (fun j4 => Jk fun _ => -- out
     Do P (V (Instr.indexAt 26 arg0 s1.2)) fun t5_18 =>
     Do P (V (Instr.loadAt 28 t5_18)) fun t6_19 =>
     Do P (vCall (.func (.func 11) #[] ⟨[]⟩) [t6_19]) fun t7_20 =>
     Do P (V (binOp .add 9 j4 t7_20)) fun t8_21 =>
     Do P (V (binOp .add 3 s1.2 (.int .i64 1))) fun t9_10 =>
     c1 (t8_21, t9_10)
    ) fun k4 =>
    Do P (V (binOp .gtr 3 s1.2 (.int .i64 0))) fun t10_12 =>
    If t10_12 (
     Do P (V (binOp .add 9 s1.1 (.string ⟨#[44]⟩))) fun t11_14 =>
     k4 t11_14
    ) (
     k4 s1.1
    )
   ) (
    K s1.1
   )
  ) ((.string ⟨#[]⟩), (.int .i64 0))
def A29 : Ann := .s (.n) (.s (.n) (.s (.s (.n) (.lp [3, 4] 4194296 (.s (.s (.n) (.s (.n) (.n))) (.s (.j [3] 30728 (.s (.n) (.s (.n) (.n))) (.n)) (.n))))) (.s (.n) (.n))))
set_option maxRecDepth 100000 in
theorem c29 (arg0 : Value) (K : Value → WP) (w : World) (h : s29 Tryz.prog arg0 K w) : Runs Tryz.prog 29 [arg0] K w :=
  runs_of_E wide (fn := Tryz.f29) (c := Tryz.f29.body.getD .skip) 23 A29 [arg0] w K Tryz.func29 (by kernel_rfl) (by kernel_rfl) (by kernel_rfl) (by kernel_rfl)
    (Eq.mp (by kernel_rfl : s29 Tryz.prog arg0 K w = E Tryz.prog (Tryz.f29.body.getD .skip) A29 (topK Tryz.prog K Tryz.f29.results) (fun i => (([arg0] : List Value)[i]?).getD undef) w) h)
theorem ct29 {arg0 : Value} {h : Hp} {post : Hp → Value → Prop} (hg : ∀ w0, Gs w0 h h [] (s29 Tryz.prog arg0 (RetP w0 h post))) : Ct Tryz.prog 29 [arg0] h post := Ct.of (sf := s29 Tryz.prog arg0) (c29 arg0) hg
theorem in29 {arg0 : Value} {S : WP} {K : Value → WP} (hg : G S (s29 Tryz.prog arg0 K)) : G S (Do Tryz.prog (vCall (.func (.func 29) #[] ⟨[]⟩) [arg0]) K) := Gs.into (args := [arg0]) (caps := []) (sf := s29 Tryz.prog arg0) (c29 arg0) hg

/- skewer/value.Neg$1 : names 0 l, 1 l, 3 out, 4 _, 5 x -/
def s30 (P : Program) (arg0 : Value) (K : Value → WP) : WP :=
  Do P (vBuiltin .len #[26] 3 [arg0]) fun t1_7 =>
  Lp (α := Value × Value) (fun c2 s2 => Jk fun _ => -- out t8
   Do P (V (binOp .lss 3 s2.2 t1_7)) fun t3_9 =>
   If t3_9 (
    Do P (V (Instr.indexAt 26 arg0 s2.2)) fun t4_10 =>
    Do P (V (Instr.loadAt 28 t4_10)) fun t5_11 =>
    Do P (V (Instr.alloc 28 true (.tuple #[]))) fun x6 =>
    Do P (U (Instr.storeAt 28 x6 t5_11)) fun t7_x =>
    Do P (V (Instr.loadAt 28 x6)) fun t8_13 =>
    Do P (vCall (.func (.func 13) #[] ⟨[]⟩) [t8_13]) fun t9_14 =>
    Do P (vBuildSlice 26 1 [(0, t9_14)]) fun t10_15 =>
    Do P (vBuiltin .append #[26, 26] 26 [s2.1, t10_15]) fun t11_16 =>
    Do P (V (binOp .add 3 s2.2 (.int .i64 1))) fun t12_17 =>
    c2 (t11_16, t12_17)
   ) (
    K s2.1
   )
  ) ((.slice none 0 0), (.int .i64 0))
def A30 : Ann := .s (.n) (.s (.n) (.s (.s (.n) (.lp [3, 8] 261928 (.s (.n) (.s (.s (.n) (.n)) (.s (.s (.n) (.n)) (.n)))))) (.s (.n) (.n))))
set_option maxRecDepth 100000 in
theorem c30 (arg0 : Value) (K : Value → WP) (w : World) (h : s30 Tryz.prog arg0 K w) : Runs Tryz.prog 30 [arg0] K w :=
  runs_of_E wide (fn := Tryz.f30) (c := Tryz.f30.body.getD .skip) 19 A30 [arg0] w K Tryz.func30 (by kernel_rfl) (by kernel_rfl) (by kernel_rfl) (by kernel_rfl)
    (Eq.mp (by kernel_rfl : s30 Tryz.prog arg0 K w = E Tryz.prog (Tryz.f30.body.getD .skip) A30 (topK Tryz.prog K Tryz.f30.results) (fun i => (([arg0] : List Value)[i]?).getD undef) w) h)
theorem ct30 {arg0 : Value} {h : Hp} {post : Hp → Value → Prop} (hg : ∀ w0, Gs w0 h h [] (s30 Tryz.prog arg0 (RetP w0 h post))) : Ct Tryz.prog 30 [arg0] h post := Ct.of (sf := s30 Tryz.prog arg0) (c30 arg0) hg
theorem in30 {arg0 : Value} {S : WP} {K : Value → WP} (hg : G S (s30 Tryz.prog arg0 K)) : G S (Do Tryz.prog (vCall (.func (.func 30) #[] ⟨[]⟩) [arg0]) K) := Gs.into (args := [arg0]) (caps := []) (sf := s30 Tryz.prog arg0) (c30 arg0) hg

/- (*skewer/value.book).reduce : names 0 b, 1 n, 2 b, 3 n, 5 c, 6 known, 7 l, 8 r, 9 _, 10 x, 11 _, 12 x, 13 more, 14 least, 15 c -/
def s31 (P : Program) (arg0 arg1 : Value) (K : Value → WP) : WP :=
  Do P (V (Instr.box 46 arg0)) fun b1 =>
  Dr <|
  Qk P (V (Instr.loadAt 46 b1)) fun C2 t2_17 =>
  Qk P (vNil t2_17) fun C3 t3_18 =>
  Qk P (V (Instr.fieldAt 74 t3_18 2)) fun C4 t4_19 =>
  Qk P (V (Instr.loadAt 71 t4_19)) fun C5 t5_20 =>
  Qk P (vNil arg1) fun C6 t6_22 =>
  Qk P (V (Instr.fieldAt 53 t6_22 0)) fun C7 t7_23 =>
  Qk P (V (Instr.loadAt 9 t7_23)) fun C8 t8_24 =>
  Qk P (V (Instr.lookup 71 t5_20 t8_24 true)) fun C9 t9_25 =>
  Qk P (V (Instr.extract t9_25 0)) fun C10 t10_26 =>
  Qk P (V (Instr.extract t9_25 1)) fun C11 t11_27 =>
  If t11_27 (
   K t10_26
  ) (
   Do P (vNil arg1) fun t12_31 =>
   Do P (V (Instr.fieldAt 53 t12_31 1)) fun t13_32 =>
   Do P (V (Instr.loadAt 51 t13_32)) fun t14_33 =>
   Do P (vBuiltin .len #[51] 3 [t14_33]) fun t15_34 =>
   Lp (α := Value × Value) (fun c16 s16 => Jk fun _ => -- l t35
    Do P (V (binOp .lss 3 s16.2 t15_34)) fun t17_36 =>
    If t17_36 (
     Do P (V (Instr.indexAt 51 t14_33 s16.2)) fun t18_37 =>
     Do P (V (Instr.loadAt 49 t18_37)) fun t19_38 =>
     Do P (V (Instr.loadAt 46 b1)) fun t20_40 =>
     Do P (vCall (.func (.func 31) #[] ⟨[]⟩) [t20_40, t19_38]) fun t21_42 =>
     Do P (vBuildSlice 51 1 [(0, t21_42)]) fun t22_43 =>
     Do P (vBuiltin .append #[51, 51] 51 [s16.1, t22_43]) fun t23_44 =>
     Do P (V (binOp .add 3 s16.2 (.int .i64 1))) fun t24_45 =>
     c16 (t23_44, t24_45)
    ) (
     Do P (vNil arg1) fun t25_47 =>
     Do P (V (Instr.fieldAt 53 t25_47 2)) fun t26_48 =>
     Do P (V (Instr.loadAt 51 t26_48)) fun t27_49 =>
     Do P (vBuiltin .len #[51] 3 [t27_49]) fun t28_50 =>
     Lp (α := Value × Value) (fun c29 s29 => Jk fun _ => -- r t51
      Do P (V (binOp .lss 3 s29.2 t28_50)) fun t30_52 =>
      If t30_52 (
       Do P (V (Instr.indexAt 51 t27_49 s29.2)) fun t31_53 =>
       Do P (V (Instr.loadAt 49 t31_53)) fun t32_54 =>
       Do P (V (Instr.loadAt 46 b1)) fun t33_56 =>
       Do P (vCall (.func (.func 31) #[] ⟨[]⟩) [t33_56, t32_54]) fun t34_58 =>
       Do P (vBuildSlice 51 1 [(0, t34_58)]) fun t35_59 =>
       Do P (vBuiltin .append #[51, 51] 51 [s29.1, t35_59]) fun t36_60 =>
       Do P (V (binOp .add 3 s29.2 (.int .i64 1))) fun t37_61 =>
       c29 (t36_60, t37_61)
      ) (
       Lp (α := Value × Value × Value) (fun c38 s38 => Jk fun _ => -- l r more
        If s38.2.2 (
         Do P (V (Instr.loadAt 46 b1)) fun t39_64 =>
         Do P (vCall (.func (.func 49) #[] ⟨[]⟩) [t39_64, s38.1, s38.2.1]) fun t40_67 =>
         Do P (V (Instr.extract t40_67 0)) fun t41_68 =>
         Do P (V (Instr.extract t40_67 1)) fun t42_69 =>
         Do P (V (Op.unary .not t42_69)) fun t43_71 =>
         If t43_71 (
          Do P (V (Instr.loadAt 46 b1)) fun t44_73 =>
          Do P (vCall (.func (.func 50) #[] ⟨[]⟩) [t44_73, t41_68, s38.2.1]) fun t45_76 =>
          Do P (V (Instr.extract t45_76 0)) fun t46_77 =>
          Do P (V (Instr.extract t45_76 1)) fun t47_78 =>
          c38 (t41_68, t46_77, t47_78)
         ) (
          c38 (t41_68, s38.2.1, t42_69)
         )
        ) (
         Dr <|
         Qk P (V (Instr.loadAt 46 b1)) fun C48 t48_80 =>
         Qk P (V (Instr.loadAt 46 b1)) fun C49 t49_82 =>
         Do P (vCall (.func (.func 52) #[] ⟨[]⟩) [s38.1, (.func (.func 27) #[t49_82] ⟨[]⟩)]) fun t50_84 =>
         With C48 <|
         Do P (vCall (.func (.func 52) #[] ⟨[]⟩) [s38.2.1, (.func (.func 51) #[] ⟨[b1]⟩)]) fun t51_87 =>
         With C48 <|
         Do P (vCall (.func (.func 44) #[] ⟨[]⟩) [t48_80, t50_84, t51_87]) fun t52_88 =>
         Dr <|
         Qk P (V (Instr.loadAt 46 b1)) fun C53 t53_89 =>
         Qk P (vNil t53_89) fun C54 t54_90 =>
         Qk P (V (Instr.fieldAt 74 t54_90 2)) fun C55 t55_91 =>
         Qk P (V (Instr.loadAt 71 t55_91)) fun C56 t56_92 =>
         Qk P (vNil arg1) fun C57 t57_94 =>
         Qk P (V (Instr.fieldAt 53 t57_94 0)) fun C58 t58_95 =>
         Qk P (V (Instr.loadAt 9 t58_95)) fun C59 t59_96 =>
         Do P (U (Instr.mapUpdate 71 t56_92 t59_96 t52_88)) fun t60_x =>
         K t52_88
        )
       ) (s16.1, s29.1, (.bool true))
      )
     ) ((.slice none 0 0), (.int .i64 0))
    )
   ) ((.slice none 0 0), (.int .i64 0))
  )
def A31 : Ann := .s (.n) (.s (.s (.plan [(0, 4, 131072), (1, 131072, 262144), (2, 262144, 524288), (4, 524288, 1048576), (0, 2, 2097152), (16, 2097152, 4194304), (32, 4194304, 8388608), (64, 8388608, 16777216), (136, 17825792, 33554432), (256, 33554432, 65536), (512, 65536, 67108864), (512, 65536, 134217728), (2047, 67108864, 32), (8191, 134217728, 64)] (.q 0 (.q 1 (.q 2 (.q 3 (.q 4 (.q 5 (.q 6 (.q 7 (.q 8 (.q 9 (.q 10 (.q 11 (.q 12 (.q 13 .done))))))))))))))) (.s (.n) (.s (.s (.n) (.n)) (.n)))) (.s (.n) (.s (.s (.n) (.lp [7, 35] 70334384440448 (.s (.n) (.s (.s (.n) (.n)) (.s (.s (.n) (.n)) (.n)))))) (.s (.s (.n) (.lp [8, 51] 4609434218613707008 (.s (.n) (.s (.s (.n) (.n)) (.s (.s (.n) (.n)) (.n)))))) (.s (.s (.n) (.lp [7, 8, 13] 604458298121296159973760 (.s (.s (.n) (.s (.n) (.n))) (.s (.n) (.s (.n) (.s (.n) (.n))))))) (.s (.n) (.s (.plan [(0, 4, 1208925819614629174706176), (0, 128, 2417851639229258349412352), (0, 4, 4835703278458516698824704), (4, 4835703278458516698824704, 9671406556917033397649408), (10, 12089258196146291747061760, 19342813113834066795298816), (0, 256, 38685626227668133590597632), (0, 16384, 77371252455336267181195264), (112, 116056878683004400771792896, 154742504910672534362390528), (145, 175294243844121230332395520, 309485009821345068724781056), (511, 309485009821345068724781056, 32768)] (.q 0 (.q 1 (.q 2 (.q 3 (.q 5 (.q 6 (.l 4 (.l 7 (.l 8 (.q 9 .done))))))))))) (.s (.plan [(0, 4, 618970019642690137449562112), (1, 618970019642690137449562112, 1237940039285380274899124224), (2, 1237940039285380274899124224, 2475880078570760549798248448), (4, 2475880078570760549798248448, 4951760157141521099596496896), (0, 2, 9903520314283042199192993792), (16, 9903520314283042199192993792, 19807040628566084398385987584), (32, 19807040628566084398385987584, 39614081257132168796771975168), (64, 39614081257132168796771975168, 79228162514264337593543950336), (0, 32768, 158456325028528675187087900672), (511, 242636247699934533880228347904, 0)] (.q 0 (.q 1 (.q 2 (.q 3 (.q 4 (.q 5 (.q 6 (.q 7 (.q 8 (.l 9 .done))))))))))) (.s (.n) (.n))))))))))
set_option maxRecDepth 100000 in
theorem c31 (arg0 arg1 : Value) (K : Value → WP) (w : World) (h : s31 Tryz.prog arg0 arg1 K w) : Runs Tryz.prog 31 [arg0, arg1] K w :=
  runs_of_E wide (fn := Tryz.f31) (c := Tryz.f31.body.getD .skip) 99 A31 [arg0, arg1] w K Tryz.func31 (by kernel_rfl) (by kernel_rfl) (by kernel_rfl) (by kernel_rfl)
    (Eq.mp (by kernel_rfl : s31 Tryz.prog arg0 arg1 K w = E Tryz.prog (Tryz.f31.body.getD .skip) A31 (topK Tryz.prog K Tryz.f31.results) (fun i => (([arg0, arg1] : List Value)[i]?).getD undef) w) h)
theorem ct31 {arg0 arg1 : Value} {h : Hp} {post : Hp → Value → Prop} (hg : ∀ w0, Gs w0 h h [] (s31 Tryz.prog arg0 arg1 (RetP w0 h post))) : Ct Tryz.prog 31 [arg0, arg1] h post := Ct.of (sf := s31 Tryz.prog arg0 arg1) (c31 arg0 arg1) hg
theorem in31 {arg0 arg1 : Value} {S : WP} {K : Value → WP} (hg : G S (s31 Tryz.prog arg0 arg1 K)) : G S (Do Tryz.prog (vCall (.func (.func 31) #[] ⟨[]⟩) [arg0, arg1]) K) := Gs.into (args := [arg0, arg1]) (caps := []) (sf := s31 Tryz.prog arg0 arg1) (c31 arg0 arg1) hg

/- (*skewer/value.node).form : names 0 n, 1 n, 3 f, 4 _, 5 x, 6 _, 7 x -/
def s32 (P : Program) (arg0 : Value) (K : Value → WP) : WP :=
  Do P (V (Instr.alloc 28 true (.tuple #[]))) fun t1_2 =>
  Do P (V (Instr.alloc 28 true (.tuple #[]))) fun f2 =>
  Do P (vNil arg0) fun t3_9 =>
  Do P (V (Instr.fieldAt 53 t3_9 1)) fun t4_10 =>
  Do P (V (Instr.loadAt 51 t4_10)) fun t5_11 =>
  Do P (vBuiltin .len #[51] 3 [t5_11]) fun t6_12 =>
  Lp (α := Value) (fun c7 s7 => Jk fun _ => -- t13
   Do P (V (binOp .lss 3 s7 t6_12)) fun t8_14 =>
   If t8_14 (
    Do P (V (Instr.indexAt 51 t5_11 s7)) fun t9_15 =>
    Do P (V (Instr.loadAt 49 t9_15)) fun t10_16 =>
    Dr <|
    Qk P (V (Instr.fieldAt 28 f2 0)) fun C11 t11_17 =>
    Qk P (V (Instr.loadAt 26 t11_17)) fun C12 t12_18 =>
    Do P (vCall (.func (.func 32) #[] ⟨[]⟩) [t10_16]) fun t13_20 =>
    With C12 <|
    With C11 <|
    Do P (vBuildSlice 26 1 [(0, t13_20)]) fun t14_21 =>
    With C12 <|
    With C11 <|
    Do P (vBuiltin .append #[26, 26] 26 [t12_18, t14_21]) fun t15_22 =>
    Qk P (V (Instr.fieldAt 28 f2 0)) fun C16 t16_23 =>
    Do P (U (Instr.storeAt 26 t16_23 t15_22)) fun t17_x =>
    Do P (V (binOp .add 3 s7 (.int .i64 1))) fun t18_24 =>
    c7 t18_24
   ) (
    Do P (vNil arg0) fun t19_26 =>
    Do P (V (Instr.fieldAt 53 t19_26 2)) fun t20_27 =>
    Do P (V (Instr.loadAt 51 t20_27)) fun t21_28 =>
    Do P (vBuiltin .len #[51] 3 [t21_28]) fun t22_29 =>
    Lp (α := Value) (fun c23 s23 => Jk fun _ => -- t30
     Do P (V (binOp .lss 3 s23 t22_29)) fun t24_31 =>
     If t24_31 (
      Do P (V (Instr.indexAt 51 t21_28 s23)) fun t25_32 =>
      Do P (V (Instr.loadAt 49 t25_32)) fun t26_33 =>
      Dr <|
      Qk P (V (Instr.fieldAt 28 f2 1)) fun C27 t27_34 =>
      Qk P (V (Instr.loadAt 26 t27_34)) fun C28 t28_35 =>
      Do P (vCall (.func (.func 32) #[] ⟨[]⟩) [t26_33]) fun t29_37 =>
      With C28 <|
      With C27 <|
      Do P (vBuildSlice 26 1 [(0, t29_37)]) fun t30_38 =>
      With C28 <|
      With C27 <|
      Do P (vBuiltin .append #[26, 26] 26 [t28_35, t30_38]) fun t31_39 =>
      Qk P (V (Instr.fieldAt 28 f2 1)) fun C32 t32_40 =>
      Do P (U (Instr.storeAt 26 t32_40 t31_39)) fun t33_x =>
      Do P (V (binOp .add 3 s23 (.int .i64 1))) fun t34_41 =>
      c23 t34_41
     ) (
      Do P (V (Instr.loadAt 28 f2)) fun t35_42 =>
      Do P (U (Instr.storeAt 28 t1_2 t35_42)) fun t36_x =>
      RetC P 28 t1_2 K
     )
    ) (.int .i64 0)
   )
  ) (.int .i64 0)
def A32 : Ann := .s (.n) (.s (.n) (.s (.s (.n) (.lp [13] 33546272 (.s (.n) (.s (.s (.n) (.n)) (.s (.s (.n) (.plan [(0, 8, 131072), (1, 131072, 262144), (0, 32, 524288), (4, 524288, 1048576), (8, 1048576, 2097152), (26, 2359296, 4194304), (63, 8, 8388608), (127, 12582912, 0)] (.q 0 (.q 1 (.q 2 (.l 3 (.l 4 (.l 5 (.q 6 (.l 7 .done)))))))))) (.n)))))) (.s (.s (.n) (.lp [30] 4396972769408 (.s (.n) (.s (.s (.n) (.n)) (.s (.s (.n) (.plan [(0, 8, 17179869184), (1, 17179869184, 34359738368), (0, 128, 68719476736), (4, 68719476736, 137438953472), (8, 137438953472, 274877906944), (26, 309237645312, 549755813888), (63, 8, 1099511627776), (127, 1649267441664, 0)] (.q 0 (.q 1 (.q 2 (.l 3 (.l 4 (.l 5 (.q 6 (.l 7 .done)))))))))) (.n)))))) (.s (.n) (.n)))))
set_option maxRecDepth 100000 in
theorem c32 (arg0 : Value) (K : Value → WP) (w : World) (h : s32 Tryz.prog arg0 K w) : Runs Tryz.prog 32 [arg0] K w :=
  runs_of_E wide (fn := Tryz.f32) (c := Tryz.f32.body.getD .skip) 43 A32 [arg0] w K Tryz.func32 (by kernel_rfl) (by kernel_rfl) (by kernel_rfl) (by kernel_rfl)
    (Eq.mp (by kernel_rfl : s32 Tryz.prog arg0 K w = E Tryz.prog (Tryz.f32.body.getD .skip) A32 (topK Tryz.prog K Tryz.f32.results) (fun i => (([arg0] : List Value)[i]?).getD undef) w) h)
theorem ct32 {arg0 : Value} {h : Hp} {post : Hp → Value → Prop} (hg : ∀ w0, Gs w0 h h [] (s32 Tryz.prog arg0 (RetP w0 h post))) : Ct Tryz.prog 32 [arg0] h post := Ct.of (sf := s32 Tryz.prog arg0) (c32 arg0) hg
theorem in32 {arg0 : Value} {S : WP} {K : Value → WP} (hg : G S (s32 Tryz.prog arg0 K)) : G S (Do Tryz.prog (vCall (.func (.func 32) #[] ⟨[]⟩) [arg0]) K) := Gs.into (args := [arg0]) (caps := []) (sf := s32 Tryz.prog arg0) (c32 arg0) hg

/- skewer/skewerref20.all : names 0 l, 1 l, 3 out, 4 i -/
def s33 (P : Program) (arg0 : Value) (K : Value → WP) : WP :=
  Do P (vBuildSlice 26 0 []) fun t1_5 =>
  Lp (α := Value × Value) (fun c2 s2 => Jk fun _ => -- out i
   Do P (vBuiltin .len #[26] 3 [arg0]) fun t3_8 =>
   Do P (V (binOp .lss 3 s2.2 t3_8)) fun t4_9 =>
   If t4_9 (
    Do P (V (Instr.indexAt 26 arg0 s2.2)) fun t5_15 =>
    Do P (V (Instr.loadAt 28 t5_15)) fun t6_16 =>
    Do P (vCall (.func (.func 16) #[] ⟨[]⟩) [t6_16]) fun t7_17 =>
    Do P (vBuildSlice 26 1 [(0, t7_17)]) fun t8_18 =>
    Do P (vBuiltin .append #[26, 26] 26 [s2.1, t8_18]) fun t9_19 =>
    Do P (V (binOp .add 3 s2.2 (.int .i64 1))) fun t10_11 =>
    c2 (t9_19, t10_11)
   ) (
    K s2.1
   )
  ) (t1_5, (.int .i64 0))
def A33 : Ann := .s (.n) (.s (.n) (.s (.s (.n) (.lp [3, 4] 1048536 (.s (.s (.n) (.s (.n) (.n))) (.s (.n) (.n))))) (.s (.n) (.n))))
set_option maxRecDepth 100000 in
theorem c33 (arg0 : Value) (K : Value → WP) (w : World) (h : s33 Tryz.prog arg0 K w) : Runs Tryz.prog 33 [arg0] K w :=
  runs_of_E wide (fn := Tryz.f33) (c := Tryz.f33.body.getD .skip) 21 A33 [arg0] w K Tryz.func33 (by kernel_rfl) (by kernel_rfl) (by kernel_rfl) (by kernel_rfl)
    (Eq.mp (by kernel_rfl : s33 Tryz.prog arg0 K w = E Tryz.prog (Tryz.f33.body.getD .skip) A33 (topK Tryz.prog K Tryz.f33.results) (fun i => (([arg0] : List Value)[i]?).getD undef) w) h)
theorem ct33 {arg0 : Value} {h : Hp} {post : Hp → Value → Prop} (hg : ∀ w0, Gs w0 h h [] (s33 Tryz.prog arg0 (RetP w0 h post))) : Ct Tryz.prog 33 [arg0] h post := Ct.of (sf := s33 Tryz.prog arg0) (c33 arg0) hg
theorem in33 {arg0 : Value} {S : WP} {K : Value → WP} (hg : G S (s33 Tryz.prog arg0 K)) : G S (Do Tryz.prog (vCall (.func (.func 33) #[] ⟨[]⟩) [arg0]) K) := Gs.into (args := [arg0]) (caps := []) (sf := s33 Tryz.prog arg0) (c33 arg0) hg

/- skewer/skewerref20.bypass : names 0 f, 1 f, 3 i, 4 k -/
def s34 (P : Program) (arg0 : Value) (K : Value → WP) : WP :=
  Do P (V (Instr.box 28 arg0)) fun f1 =>
  Do P (V (Instr.alloc 59 true (.tuple #[]))) fun t2_2 =>
  Lp (α := Value) (fun c3 s3 => Jk fun _ => -- i
   Do P (V (Instr.fieldAt 28 f1 0)) fun t4_6 =>
   Do P (V (Instr.loadAt 26 t4_6)) fun t5_7 =>
   Do P (vBuiltin .len #[26] 3 [t5_7]) fun t6_8 =>
   Do P (V (binOp .lss 3 s3 t6_8)) fun t7_9 =>
   If t7_9 (
    Lp (α := Value) (fun c8 s8 => Jk fun _ => -- k
     Do P (V (Instr.fieldAt 28 f1 0)) fun t9_13 =>
     Do P (V (Instr.loadAt 26 t9_13)) fun t10_14 =>
     Do P (V (Instr.indexAt 26 t10_14 s3)) fun t11_16 =>
     Do P (V (Instr.fieldAt 28 t11_16 1)) fun t12_17 =>
     Do P (V (Instr.loadAt 26 t12_17)) fun t13_18 =>
     Do P (vBuiltin .len #[26] 3 [t13_18]) fun t14_19 =>
     Do P (V (binOp .lss 3 s8 t14_19)) fun t15_20 =>
     If t15_20 (
      Dr <|
      Qk P (V (Instr.fieldAt 28 f1 0)) fun C16 t16_23 =>
      Qk P (V (Instr.loadAt 26 t16_23)) fun C17 t17_24 =>
      Qk P (V (Instr.indexAt 26 t17_24 s3)) fun C18 t18_26 =>
      Qk P (V (Instr.fieldAt 28 t18_26 1)) fun C19 t19_27 =>
      Qk P (V (Instr.loadAt 26 t19_27)) fun C20 t20_28 =>
      Qk P (V (Instr.indexAt 26 t20_28 s8)) fun C21 t21_30 =>
      Qk P (V (Instr.loadAt 28 t21_30)) fun C22 t22_31 =>
      Qk P (V (Instr.loadAt 28 f1)) fun C23 t23_32 =>
      Do P (vCall (.func (.func 9) #[] ⟨[]⟩) [t22_31, t23_32]) fun t24_33 =>
      If t24_33 (
       Dr <|
       Qk P (V (Instr.fieldAt 28 f1 0)) fun C25 t25_34 =>
       Qk P (V (Instr.loadAt 26 t25_34)) fun C26 t26_35 =>
       Qk P (V (Instr.fieldAt 28 f1 0)) fun C27 t27_37 =>
       Qk P (V (Instr.loadAt 26 t27_37)) fun C28 t28_38 =>
       Qk P (V (Instr.indexAt 26 t28_38 s3)) fun C29 t29_40 =>
       Qk P (V (Instr.fieldAt 28 t29_40 1)) fun C30 t30_41 =>
       Qk P (V (Instr.loadAt 26 t30_41)) fun C31 t31_42 =>
       Qk P (V (Instr.indexAt 26 t31_42 s8)) fun C32 t32_44 =>
       Qk P (V (Instr.fieldAt 28 t32_44 0)) fun C33 t33_45 =>
       Qk P (V (Instr.loadAt 26 t33_45)) fun C34 t34_46 =>
       Qk P (V (Instr.fieldAt 28 f1 1)) fun C35 t35_48 =>
       Qk P (V (Instr.loadAt 26 t35_48)) fun C36 t36_49 =>
       Do P (vCall (.func (.func 53) #[] ⟨[]⟩) [t26_35, s3, t34_46]) fun t37_47 =>
       With C36 <|
       With C35 <|
       Qk P (vBuild 28 [(0, t37_47), (1, t36_49)]) fun C38 t38_50 =>
       Qk P (vBuild 59 [(0, t38_50), (1, (.bool true))]) fun C39 t39_51 =>
       Do P (U (Instr.storeAt 59 t2_2 t39_51)) fun t40_x =>
       RetC P 59 t2_2 K
      ) (
       Do P (V (binOp .add 3 s8 (.int .i64 1))) fun t41_22 =>
       c8 t41_22
      )
     ) (
      Do P (V (binOp .add 3 s3 (.int .i64 1))) fun t42_11 =>
      c3 t42_11
     )
    ) (.int .i64 0)
   ) (
    Do P (V (Instr.loadAt 28 f1)) fun t43_52 =>
    Do P (vBuild 59 [(0, t43_52)]) fun t44_53 =>
    Do P (U (Instr.storeAt 59 t2_2 t44_53)) fun t45_x =>
    RetC P 59 t2_2 K
   )
  ) (.int .i64 0)
def A34 : Ann := .s (.n) (.s (.s (.n) (.lp [3] 4503599627370488 (.s (.s (.n) (.s (.n) (.n))) (.s (.s (.n) (.lp [4] 4503599627366416 (.s (.s (.n) (.s (.n) (.n))) (.s (.s (.plan [(0, 2, 8388608), (1, 8388608, 16777216), (0, 8, 33554432), (6, 50331648, 67108864), (8, 67108864, 134217728), (16, 134217728, 268435456), (0, 16, 536870912), (96, 805306368, 1073741824), (128, 1073741824, 2147483648), (0, 2, 4294967296), (768, 6442450944, 8589934592)] (.q 0 (.q 1 (.q 2 (.q 3 (.q 4 (.q 5 (.q 6 (.q 7 (.q 8 (.q 9 (.l 10 .done)))))))))))) (.s (.s (.plan [(0, 2, 17179869184), (1, 17179869184, 34359738368), (0, 8, 68719476736), (0, 2, 137438953472), (8, 137438953472, 274877906944), (0, 8, 549755813888), (48, 824633720832, 1099511627776), (64, 1099511627776, 2199023255552), (128, 2199023255552, 4398046511104), (0, 16, 8796093022208), (768, 13194139533312, 17592186044416), (1024, 17592186044416, 35184372088832), (2048, 35184372088832, 70368744177664), (4102, 70471823392768, 140737488355328), (0, 2, 281474976710656), (16384, 281474976710656, 562949953421312), (40960, 703687441776640, 1125899906842624), (65536, 1125899906842624, 2251799813685248), (262143, 2251799813685252, 0)] (.q 0 (.q 1 (.q 2 (.q 3 (.q 4 (.q 5 (.q 6 (.q 7 (.q 8 (.q 9 (.q 10 (.q 11 (.q 12 (.q 14 (.q 15 (.l 13 (.q 16 (.q 17 (.l 18 .done)))))))))))))))))))) (.n)) (.n))) (.n))))) (.n))))) (.s (.n) (.n)))
set_option maxRecDepth 100000 in
theorem c34 (arg0 : Value) (K : Value → WP) (w : World) (h : s34 Tryz.prog arg0 K w) : Runs Tryz.prog 34 [arg0] K w :=
  runs_of_E wide (fn := Tryz.f34) (c := Tryz.f34.body.getD .skip) 54 A34 [arg0] w K Tryz.func34 (by kernel_rfl) (by kernel_rfl) (by kernel_rfl) (by kernel_rfl)
    (Eq.mp (by kernel_rfl : s34 Tryz.prog arg0 K w = E Tryz.prog (Tryz.f34.body.getD .skip) A34 (topK Tryz.prog K Tryz.f34.results) (fun i => (([arg0] : List Value)[i]?).getD undef) w) h)
theorem ct34 {arg0 : Value} {h : Hp} {post : Hp → Value → Prop} (hg : ∀ w0, Gs w0 h h [] (s34 Tryz.prog arg0 (RetP w0 h post))) : Ct Tryz.prog 34 [arg0] h post := Ct.of (sf := s34 Tryz.prog arg0) (c34 arg0) hg
theorem in34 {arg0 : Value} {S : WP} {K : Value → WP} (hg : G S (s34 Tryz.prog arg0 K)) : G S (Do Tryz.prog (vCall (.func (.func 34) #[] ⟨[]⟩) [arg0]) K) := Gs.into (args := [arg0]) (caps := []) (sf := s34 Tryz.prog arg0) (c34 arg0) hg

end Go.Proofs.YtgdochemlbjnlaaGreat
