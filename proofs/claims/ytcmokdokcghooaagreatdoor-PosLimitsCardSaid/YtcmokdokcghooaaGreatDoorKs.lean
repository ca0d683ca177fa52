/-
  The shallow forms of functions of the program, printed by a program of the prover; and what the types are.
-/
import Derived.Test.YtcmokdokcghooaaGreatDoorKf
import Derived.Test.YtcmokdokcghooaaGreatDoorProg
set_option linter.unusedVariables false
set_option maxRecDepth 100000
namespace Go.Proofs.YtcmokdokcghooaaGreatDoor
open Go Go.Sk
variable {M : Go.Sk.Mode}

theorem wide : Tryz.prog.follows .mixedOrders = true := by kernel_rfl
instance g12 : IsGo Tryz.prog 12 := ⟨by kernel_rfl⟩
instance g13 : IsGo Tryz.prog 13 := ⟨by kernel_rfl⟩
instance g14 : IsGo Tryz.prog 14 := ⟨by kernel_rfl⟩
instance g15 : IsGo Tryz.prog 15 := ⟨by kernel_rfl⟩
instance g16 : IsGo Tryz.prog 16 := ⟨by kernel_rfl⟩
instance g17 : IsGo Tryz.prog 17 := ⟨by kernel_rfl⟩
instance g18 : IsGo Tryz.prog 18 := ⟨by kernel_rfl⟩
instance g19 : IsGo Tryz.prog 19 := ⟨by kernel_rfl⟩
instance g20 : IsGo Tryz.prog 20 := ⟨by kernel_rfl⟩
instance g21 : IsGo Tryz.prog 21 := ⟨by kernel_rfl⟩
instance g22 : IsGo Tryz.prog 22 := ⟨by kernel_rfl⟩
instance g23 : IsGo Tryz.prog 23 := ⟨by kernel_rfl⟩
instance g24 : IsGo Tryz.prog 24 := ⟨by kernel_rfl⟩
instance g25 : IsGo Tryz.prog 25 := ⟨by kernel_rfl⟩
instance g26 : IsGo Tryz.prog 26 := ⟨by kernel_rfl⟩
instance g27 : IsGo Tryz.prog 27 := ⟨by kernel_rfl⟩
instance g28 : IsGo Tryz.prog 28 := ⟨by kernel_rfl⟩
instance g29 : IsGo Tryz.prog 29 := ⟨by kernel_rfl⟩
instance g30 : IsGo Tryz.prog 30 := ⟨by kernel_rfl⟩
instance g31 : IsGo Tryz.prog 31 := ⟨by kernel_rfl⟩
instance g32 : IsGo Tryz.prog 32 := ⟨by kernel_rfl⟩
instance g33 : IsGo Tryz.prog 33 := ⟨by kernel_rfl⟩
instance g34 : IsGo Tryz.prog 34 := ⟨by kernel_rfl⟩
instance g35 : IsGo Tryz.prog 35 := ⟨by kernel_rfl⟩
instance g36 : IsGo Tryz.prog 36 := ⟨by kernel_rfl⟩
instance g37 : IsGo Tryz.prog 37 := ⟨by kernel_rfl⟩
instance g38 : IsGo Tryz.prog 38 := ⟨by kernel_rfl⟩
instance g39 : IsGo Tryz.prog 39 := ⟨by kernel_rfl⟩
instance g40 : IsGo Tryz.prog 40 := ⟨by kernel_rfl⟩
instance g42 : IsGo Tryz.prog 42 := ⟨by kernel_rfl⟩
instance g44 : IsGo Tryz.prog 44 := ⟨by kernel_rfl⟩
instance g45 : IsGo Tryz.prog 45 := ⟨by kernel_rfl⟩
instance g46 : IsGo Tryz.prog 46 := ⟨by kernel_rfl⟩
instance g47 : IsGo Tryz.prog 47 := ⟨by kernel_rfl⟩
instance g48 : IsGo Tryz.prog 48 := ⟨by kernel_rfl⟩
instance g49 : IsGo Tryz.prog 49 := ⟨by kernel_rfl⟩
instance g50 : IsGo Tryz.prog 50 := ⟨by kernel_rfl⟩
instance g51 : IsGo Tryz.prog 51 := ⟨by kernel_rfl⟩
instance g52 : IsGo Tryz.prog 52 := ⟨by kernel_rfl⟩
instance g54 : IsGo Tryz.prog 54 := ⟨by kernel_rfl⟩
instance g55 : IsGo Tryz.prog 55 := ⟨by kernel_rfl⟩
instance g56 : IsGo Tryz.prog 56 := ⟨by kernel_rfl⟩
instance g57 : IsGo Tryz.prog 57 := ⟨by kernel_rfl⟩
instance g58 : IsGo Tryz.prog 58 := ⟨by kernel_rfl⟩
instance g59 : IsGo Tryz.prog 59 := ⟨by kernel_rfl⟩
instance g60 : IsGo Tryz.prog 60 := ⟨by kernel_rfl⟩
instance g61 : IsGo Tryz.prog 61 := ⟨by kernel_rfl⟩
instance g62 : IsGo Tryz.prog 62 := ⟨by kernel_rfl⟩
instance g63 : IsGo Tryz.prog 63 := ⟨by kernel_rfl⟩
instance g64 : IsGo Tryz.prog 64 := ⟨by kernel_rfl⟩
instance g65 : IsGo Tryz.prog 65 := ⟨by kernel_rfl⟩
instance g66 : IsGo Tryz.prog 66 := ⟨by kernel_rfl⟩
instance g68 : IsGo Tryz.prog 68 := ⟨by kernel_rfl⟩
instance g69 : IsGo Tryz.prog 69 := ⟨by kernel_rfl⟩
instance g71 : IsGo Tryz.prog 71 := ⟨by kernel_rfl⟩
instance g72 : IsGo Tryz.prog 72 := ⟨by kernel_rfl⟩
instance g73 : IsGo Tryz.prog 73 := ⟨by kernel_rfl⟩
instance g74 : IsGo Tryz.prog 74 := ⟨by kernel_rfl⟩
instance g76 : IsGo Tryz.prog 76 := ⟨by kernel_rfl⟩
instance g77 : IsGo Tryz.prog 77 := ⟨by kernel_rfl⟩
instance g78 : IsGo Tryz.prog 78 := ⟨by kernel_rfl⟩
instance g79 : IsGo Tryz.prog 79 := ⟨by kernel_rfl⟩
instance g80 : IsGo Tryz.prog 80 := ⟨by kernel_rfl⟩
instance g81 : IsGo Tryz.prog 81 := ⟨by kernel_rfl⟩
instance g82 : IsGo Tryz.prog 82 := ⟨by kernel_rfl⟩
instance g83 : IsGo Tryz.prog 83 := ⟨by kernel_rfl⟩
instance g84 : IsGo Tryz.prog 84 := ⟨by kernel_rfl⟩
instance g85 : IsGo Tryz.prog 85 := ⟨by kernel_rfl⟩
instance g88 : IsGo Tryz.prog 88 := ⟨by kernel_rfl⟩
instance g91 : IsGo Tryz.prog 91 := ⟨by kernel_rfl⟩
instance g92 : IsGo Tryz.prog 92 := ⟨by kernel_rfl⟩
instance g93 : IsGo Tryz.prog 93 := ⟨by kernel_rfl⟩
instance g95 : IsGo Tryz.prog 95 := ⟨by kernel_rfl⟩
instance g97 : IsGo Tryz.prog 97 := ⟨by kernel_rfl⟩
instance g101 : IsGo Tryz.prog 101 := ⟨by kernel_rfl⟩
instance g102 : IsGo Tryz.prog 102 := ⟨by kernel_rfl⟩
instance g103 : IsGo Tryz.prog 103 := ⟨by kernel_rfl⟩
instance g104 : IsGo Tryz.prog 104 := ⟨by kernel_rfl⟩
instance g105 : IsGo Tryz.prog 105 := ⟨by kernel_rfl⟩
instance g106 : IsGo Tryz.prog 106 := ⟨by kernel_rfl⟩
instance g108 : IsGo Tryz.prog 108 := ⟨by kernel_rfl⟩
instance g109 : IsGo Tryz.prog 109 := ⟨by kernel_rfl⟩
instance g110 : IsGo Tryz.prog 110 := ⟨by kernel_rfl⟩
instance g111 : IsGo Tryz.prog 111 := ⟨by kernel_rfl⟩
instance g112 : IsGo Tryz.prog 112 := ⟨by kernel_rfl⟩
instance g135 : IsGo Tryz.prog 135 := ⟨by kernel_rfl⟩
instance g136 : IsGo Tryz.prog 136 := ⟨by kernel_rfl⟩
instance g3 : IsGo Tryz.prog 3 := ⟨by kernel_rfl⟩
instance g4 : IsGo Tryz.prog 4 := ⟨by kernel_rfl⟩
instance g5 : IsGo Tryz.prog 5 := ⟨by kernel_rfl⟩
instance g6 : IsGo Tryz.prog 6 := ⟨by kernel_rfl⟩
instance g7 : IsGo Tryz.prog 7 := ⟨by kernel_rfl⟩
instance g8 : IsGo Tryz.prog 8 := ⟨by kernel_rfl⟩
instance g9 : IsGo Tryz.prog 9 := ⟨by kernel_rfl⟩
instance g10 : IsGo Tryz.prog 10 := ⟨by kernel_rfl⟩
instance g11 : IsGo Tryz.prog 11 := ⟨by kernel_rfl⟩
instance g41 : IsGo Tryz.prog 41 := ⟨by kernel_rfl⟩
instance g43 : IsGo Tryz.prog 43 := ⟨by kernel_rfl⟩
instance g53 : IsGo Tryz.prog 53 := ⟨by kernel_rfl⟩
instance g67 : IsGo Tryz.prog 67 := ⟨by kernel_rfl⟩
instance g70 : IsGo Tryz.prog 70 := ⟨by kernel_rfl⟩
instance g107 : IsGo Tryz.prog 107 := ⟨by kernel_rfl⟩
instance : TOne Tryz.prog 1 := ⟨by kernel_rfl⟩
instance : TSize Tryz.prog 1 1 := ⟨by kernel_rfl⟩
instance : TZero Tryz.prog 1 [.nilFunc] := ⟨by kernel_rfl⟩
instance : TOne Tryz.prog 2 := ⟨by kernel_rfl⟩
instance : TSize Tryz.prog 2 1 := ⟨by kernel_rfl⟩
instance : TZero Tryz.prog 2 [(.int .i64 0)] := ⟨by kernel_rfl⟩
instance : TInt Tryz.prog 2 .i64 := ⟨by kernel_rfl⟩
instance : TOne Tryz.prog 3 := ⟨by kernel_rfl⟩
instance : TSize Tryz.prog 3 1 := ⟨by kernel_rfl⟩
instance : TZero Tryz.prog 3 [(.int .i64 0)] := ⟨by kernel_rfl⟩
instance : TInt Tryz.prog 3 .i64 := ⟨by kernel_rfl⟩
instance : TOne Tryz.prog 4 := ⟨by kernel_rfl⟩
instance : TSize Tryz.prog 4 1 := ⟨by kernel_rfl⟩
instance : TZero Tryz.prog 4 [(.bool false)] := ⟨by kernel_rfl⟩
instance : TBool Tryz.prog 4 := ⟨by kernel_rfl⟩
instance : TOne Tryz.prog 5 := ⟨by kernel_rfl⟩
instance : TSize Tryz.prog 5 1 := ⟨by kernel_rfl⟩
instance : TZero Tryz.prog 5 [(.int .u8 0)] := ⟨by kernel_rfl⟩
instance : TInt Tryz.prog 5 .u8 := ⟨by kernel_rfl⟩
instance : TOne Tryz.prog 6 := ⟨by kernel_rfl⟩
instance : TSize Tryz.prog 6 1 := ⟨by kernel_rfl⟩
instance : TZero Tryz.prog 6 [(.int .u8 0)] := ⟨by kernel_rfl⟩
instance : TInt Tryz.prog 6 .u8 := ⟨by kernel_rfl⟩
instance : TAgg Tryz.prog 8 4 := ⟨by kernel_rfl⟩
instance : TSize Tryz.prog 8 4 := ⟨by kernel_rfl⟩
instance : TZero Tryz.prog 8 [(.int .i64 0), (.int .i64 0), (.bool false), (.int .u8 0)] := ⟨by kernel_rfl⟩
instance : TStruct Tryz.prog 8 [(0, 1), (1, 1), (2, 1), (3, 1)] := ⟨by kernel_rfl⟩
instance : TField Tryz.prog 8 0 0 := ⟨by kernel_rfl⟩
instance : TField Tryz.prog 8 1 1 := ⟨by kernel_rfl⟩
instance : TField Tryz.prog 8 2 2 := ⟨by kernel_rfl⟩
instance : TField Tryz.prog 8 3 3 := ⟨by kernel_rfl⟩
instance : TFieldV Tryz.prog 8 0 0 1 false := ⟨by kernel_rfl⟩
instance : TFieldV Tryz.prog 8 1 1 1 false := ⟨by kernel_rfl⟩
instance : TFieldV Tryz.prog 8 2 2 1 false := ⟨by kernel_rfl⟩
instance : TFieldV Tryz.prog 8 3 3 1 false := ⟨by kernel_rfl⟩
instance : TOne Tryz.prog 9 := ⟨by kernel_rfl⟩
instance : TSize Tryz.prog 9 1 := ⟨by kernel_rfl⟩
instance : TZero Tryz.prog 9 [(.string ⟨#[]⟩)] := ⟨by kernel_rfl⟩
instance : TStr Tryz.prog 9 := ⟨by kernel_rfl⟩
instance : TOne Tryz.prog 16 := ⟨by kernel_rfl⟩
instance : TSize Tryz.prog 16 1 := ⟨by kernel_rfl⟩
instance : TZero Tryz.prog 16 [(.pointer none)] := ⟨by kernel_rfl⟩
instance : TOne Tryz.prog 21 := ⟨by kernel_rfl⟩
instance : TSize Tryz.prog 21 1 := ⟨by kernel_rfl⟩
instance : TZero Tryz.prog 21 [(.int .i32 0)] := ⟨by kernel_rfl⟩
instance : TInt Tryz.prog 21 .i32 := ⟨by kernel_rfl⟩
instance : TOne Tryz.prog 22 := ⟨by kernel_rfl⟩
instance : TSize Tryz.prog 22 1 := ⟨by kernel_rfl⟩
instance : TZero Tryz.prog 22 [(.slice none 0 0)] := ⟨by kernel_rfl⟩
instance : TSlice Tryz.prog 22 5 1 1 := ⟨by kernel_rfl⟩
instance : TAgg Tryz.prog 23 2 := ⟨by kernel_rfl⟩
instance : TSize Tryz.prog 23 2 := ⟨by kernel_rfl⟩
instance : TZero Tryz.prog 23 [(.slice none 0 0), (.slice none 0 0)] := ⟨by kernel_rfl⟩
instance : TArr Tryz.prog 23 2 22 1 := ⟨by kernel_rfl⟩
instance : TOne Tryz.prog 24 := ⟨by kernel_rfl⟩
instance : TSize Tryz.prog 24 1 := ⟨by kernel_rfl⟩
instance : TZero Tryz.prog 24 [(.slice none 0 0)] := ⟨by kernel_rfl⟩
instance : TSlice Tryz.prog 24 87 3 3 := ⟨by kernel_rfl⟩
instance : TAgg Tryz.prog 25 6 := ⟨by kernel_rfl⟩
instance : TSize Tryz.prog 25 6 := ⟨by kernel_rfl⟩
instance : TZero Tryz.prog 25 [(.int .u8 0), (.int .u8 0), (.int .u8 0), (.int .u8 0), (.int .u8 0), (.int .u8 0)] := ⟨by kernel_rfl⟩
instance : TArr Tryz.prog 25 6 5 1 := ⟨by kernel_rfl⟩
instance : TAgg Tryz.prog 27 12 := ⟨by kernel_rfl⟩
instance : TSize Tryz.prog 27 12 := ⟨by kernel_rfl⟩
instance : TZero Tryz.prog 27 [(.int .u8 0), (.int .u8 0), (.int .u8 0), (.slice none 0 0), (.slice none 0 0), (.slice none 0 0), (.int .u8 0), (.int .u8 0), (.int .u8 0), (.int .u8 0), (.int .u8 0), (.int .u8 0)] := ⟨by kernel_rfl⟩
instance : TStruct Tryz.prog 27 [(0, 1), (1, 1), (2, 1), (3, 2), (5, 1), (6, 6)] := ⟨by kernel_rfl⟩
instance : TField Tryz.prog 27 0 0 := ⟨by kernel_rfl⟩
instance : TField Tryz.prog 27 1 1 := ⟨by kernel_rfl⟩
instance : TField Tryz.prog 27 2 2 := ⟨by kernel_rfl⟩
instance : TField Tryz.prog 27 3 3 := ⟨by kernel_rfl⟩
instance : TField Tryz.prog 27 4 5 := ⟨by kernel_rfl⟩
instance : TField Tryz.prog 27 5 6 := ⟨by kernel_rfl⟩
instance : TFieldV Tryz.prog 27 0 0 1 false := ⟨by kernel_rfl⟩
instance : TFieldV Tryz.prog 27 1 1 1 false := ⟨by kernel_rfl⟩
instance : TFieldV Tryz.prog 27 2 2 1 false := ⟨by kernel_rfl⟩
instance : TFieldV Tryz.prog 27 3 3 2 true := ⟨by kernel_rfl⟩
instance : TFieldV Tryz.prog 27 4 5 1 false := ⟨by kernel_rfl⟩
instance : TFieldV Tryz.prog 27 5 6 6 true := ⟨by kernel_rfl⟩
instance : TAgg Tryz.prog 28 4 := ⟨by kernel_rfl⟩
instance : TSize Tryz.prog 28 4 := ⟨by kernel_rfl⟩
instance : TZero Tryz.prog 28 [(.int .u8 0), (.int .u8 0), (.int .u8 0), (.int .u8 0)] := ⟨by kernel_rfl⟩
instance : TArr Tryz.prog 28 4 5 1 := ⟨by kernel_rfl⟩
instance : TAgg Tryz.prog 30 18 := ⟨by kernel_rfl⟩
instance : TSize Tryz.prog 30 18 := ⟨by kernel_rfl⟩
instance : TZero Tryz.prog 30 [(.int .u8 0), (.int .u8 0), (.int .u8 0), (.int .u8 0), (.int .u8 0), (.int .u8 0), (.int .u8 0), (.int .u8 0), (.int .u8 0), (.int .u8 0), (.int .u8 0), (.int .u8 0), (.int .u8 0), (.int .u8 0), (.int .u8 0), (.int .u8 0), (.int .u8 0), (.int .u8 0)] := ⟨by kernel_rfl⟩
instance : TStruct Tryz.prog 30 [(0, 6), (6, 6), (12, 4), (16, 1), (17, 1)] := ⟨by kernel_rfl⟩
instance : TField Tryz.prog 30 0 0 := ⟨by kernel_rfl⟩
instance : TField Tryz.prog 30 1 6 := ⟨by kernel_rfl⟩
instance : TField Tryz.prog 30 2 12 := ⟨by kernel_rfl⟩
instance : TField Tryz.prog 30 3 16 := ⟨by kernel_rfl⟩
instance : TField Tryz.prog 30 4 17 := ⟨by kernel_rfl⟩
instance : TFieldV Tryz.prog 30 0 0 6 true := ⟨by kernel_rfl⟩
instance : TFieldV Tryz.prog 30 1 6 6 true := ⟨by kernel_rfl⟩
instance : TFieldV Tryz.prog 30 2 12 4 true := ⟨by kernel_rfl⟩
instance : TFieldV Tryz.prog 30 3 16 1 false := ⟨by kernel_rfl⟩
instance : TFieldV Tryz.prog 30 4 17 1 false := ⟨by kernel_rfl⟩
instance : TOne Tryz.prog 32 := ⟨by kernel_rfl⟩
instance : TSize Tryz.prog 32 1 := ⟨by kernel_rfl⟩
instance : TZero Tryz.prog 32 [(.slice none 0 0)] := ⟨by kernel_rfl⟩
instance : TSlice Tryz.prog 32 33 1 24 := ⟨by kernel_rfl⟩
instance : TOne Tryz.prog 33 := ⟨by kernel_rfl⟩
instance : TSize Tryz.prog 33 1 := ⟨by kernel_rfl⟩
instance : TZero Tryz.prog 33 [(.slice none 0 0)] := ⟨by kernel_rfl⟩
instance : TSlice Tryz.prog 33 3 1 8 := ⟨by kernel_rfl⟩
instance : TAgg Tryz.prog 35 3 := ⟨by kernel_rfl⟩
instance : TSize Tryz.prog 35 3 := ⟨by kernel_rfl⟩
instance : TZero Tryz.prog 35 [(.int .i64 0), (.slice none 0 0), (.slice none 0 0)] := ⟨by kernel_rfl⟩
instance : TStruct Tryz.prog 35 [(0, 1), (1, 1), (2, 1)] := ⟨by kernel_rfl⟩
instance : TField Tryz.prog 35 0 0 := ⟨by kernel_rfl⟩
instance : TField Tryz.prog 35 1 1 := ⟨by kernel_rfl⟩
instance : TField Tryz.prog 35 2 2 := ⟨by kernel_rfl⟩
instance : TFieldV Tryz.prog 35 0 0 1 false := ⟨by kernel_rfl⟩
instance : TFieldV Tryz.prog 35 1 1 1 false := ⟨by kernel_rfl⟩
instance : TFieldV Tryz.prog 35 2 2 1 false := ⟨by kernel_rfl⟩
instance : TOne Tryz.prog 36 := ⟨by kernel_rfl⟩
instance : TSize Tryz.prog 36 1 := ⟨by kernel_rfl⟩
instance : TZero Tryz.prog 36 [(.slice none 0 0)] := ⟨by kernel_rfl⟩
instance : TSlice Tryz.prog 36 59 3 48 := ⟨by kernel_rfl⟩
instance : TOne Tryz.prog 37 := ⟨by kernel_rfl⟩
instance : TSize Tryz.prog 37 1 := ⟨by kernel_rfl⟩
instance : TZero Tryz.prog 37 [(.slice none 0 0)] := ⟨by kernel_rfl⟩
instance : TSlice Tryz.prog 37 89 4 32 := ⟨by kernel_rfl⟩
instance : TAgg Tryz.prog 39 9 := ⟨by kernel_rfl⟩
instance : TSize Tryz.prog 39 9 := ⟨by kernel_rfl⟩
instance : TZero Tryz.prog 39 [(.int .i64 0), (.slice none 0 0), (.slice none 0 0), (.slice none 0 0), (.int .i64 0), (.bool false), (.slice none 0 0), (.int .i64 0), (.int .i64 0)] := ⟨by kernel_rfl⟩
instance : TStruct Tryz.prog 39 [(0, 3), (3, 1), (4, 1), (5, 1), (6, 1), (7, 1), (8, 1)] := ⟨by kernel_rfl⟩
instance : TField Tryz.prog 39 0 0 := ⟨by kernel_rfl⟩
instance : TField Tryz.prog 39 1 3 := ⟨by kernel_rfl⟩
instance : TField Tryz.prog 39 2 4 := ⟨by kernel_rfl⟩
instance : TField Tryz.prog 39 3 5 := ⟨by kernel_rfl⟩
instance : TField Tryz.prog 39 4 6 := ⟨by kernel_rfl⟩
instance : TField Tryz.prog 39 5 7 := ⟨by kernel_rfl⟩
instance : TField Tryz.prog 39 6 8 := ⟨by kernel_rfl⟩
instance : TFieldV Tryz.prog 39 0 0 3 true := ⟨by kernel_rfl⟩
instance : TFieldV Tryz.prog 39 1 3 1 false := ⟨by kernel_rfl⟩
instance : TFieldV Tryz.prog 39 2 4 1 false := ⟨by kernel_rfl⟩
instance : TFieldV Tryz.prog 39 3 5 1 false := ⟨by kernel_rfl⟩
instance : TFieldV Tryz.prog 39 4 6 1 false := ⟨by kernel_rfl⟩
instance : TFieldV Tryz.prog 39 5 7 1 false := ⟨by kernel_rfl⟩
instance : TFieldV Tryz.prog 39 6 8 1 false := ⟨by kernel_rfl⟩
instance : TAgg Tryz.prog 42 2 := ⟨by kernel_rfl⟩
instance : TSize Tryz.prog 42 2 := ⟨by kernel_rfl⟩
instance : TZero Tryz.prog 42 [(.slice none 0 0), (.slice none 0 0)] := ⟨by kernel_rfl⟩
instance : TArr Tryz.prog 42 2 33 1 := ⟨by kernel_rfl⟩
instance : TAgg Tryz.prog 44 5 := ⟨by kernel_rfl⟩
instance : TSize Tryz.prog 44 5 := ⟨by kernel_rfl⟩
instance : TZero Tryz.prog 44 [(.slice none 0 0), (.slice none 0 0), (.slice none 0 0), (.int .i64 0), (.int .i64 0)] := ⟨by kernel_rfl⟩
instance : TStruct Tryz.prog 44 [(0, 1), (1, 2), (3, 1), (4, 1)] := ⟨by kernel_rfl⟩
instance : TField Tryz.prog 44 0 0 := ⟨by kernel_rfl⟩
instance : TField Tryz.prog 44 1 1 := ⟨by kernel_rfl⟩
instance : TField Tryz.prog 44 2 3 := ⟨by kernel_rfl⟩
instance : TField Tryz.prog 44 3 4 := ⟨by kernel_rfl⟩
instance : TFieldV Tryz.prog 44 0 0 1 false := ⟨by kernel_rfl⟩
instance : TFieldV Tryz.prog 44 1 1 2 true := ⟨by kernel_rfl⟩
instance : TFieldV Tryz.prog 44 2 3 1 false := ⟨by kernel_rfl⟩
instance : TFieldV Tryz.prog 44 3 4 1 false := ⟨by kernel_rfl⟩
instance : TOne Tryz.prog 46 := ⟨by kernel_rfl⟩
instance : TSize Tryz.prog 46 1 := ⟨by kernel_rfl⟩
instance : TZero Tryz.prog 46 [(.slice none 0 0)] := ⟨by kernel_rfl⟩
instance : TSlice Tryz.prog 46 9 1 16 := ⟨by kernel_rfl⟩
instance : TOne Tryz.prog 47 := ⟨by kernel_rfl⟩
instance : TSize Tryz.prog 47 1 := ⟨by kernel_rfl⟩
instance : TZero Tryz.prog 47 [(.int .i64 0)] := ⟨by kernel_rfl⟩
instance : TInt Tryz.prog 47 .i64 := ⟨by kernel_rfl⟩
instance : TAgg Tryz.prog 51 6 := ⟨by kernel_rfl⟩
instance : TSize Tryz.prog 51 6 := ⟨by kernel_rfl⟩
instance : TZero Tryz.prog 51 [(.slice none 0 0), (.slice none 0 0), (.slice none 0 0), (.int .i64 0), (.int .i64 0), (.int .i64 0)] := ⟨by kernel_rfl⟩
instance : TStruct Tryz.prog 51 [(0, 5), (5, 1)] := ⟨by kernel_rfl⟩
instance : TField Tryz.prog 51 0 0 := ⟨by kernel_rfl⟩
instance : TField Tryz.prog 51 1 5 := ⟨by kernel_rfl⟩
instance : TFieldV Tryz.prog 51 0 0 5 true := ⟨by kernel_rfl⟩
instance : TFieldV Tryz.prog 51 1 5 1 false := ⟨by kernel_rfl⟩
instance : TOne Tryz.prog 53 := ⟨by kernel_rfl⟩
instance : TSize Tryz.prog 53 1 := ⟨by kernel_rfl⟩
instance : TZero Tryz.prog 53 [.nilFunc] := ⟨by kernel_rfl⟩
instance : TAgg Tryz.prog 55 3 := ⟨by kernel_rfl⟩
instance : TSize Tryz.prog 55 3 := ⟨by kernel_rfl⟩
instance : TZero Tryz.prog 55 [(.int .i32 0), (.int .i32 0), (.int .i32 0)] := ⟨by kernel_rfl⟩
instance : TArr Tryz.prog 55 3 21 1 := ⟨by kernel_rfl⟩
instance : TOne Tryz.prog 56 := ⟨by kernel_rfl⟩
instance : TSize Tryz.prog 56 1 := ⟨by kernel_rfl⟩
instance : TZero Tryz.prog 56 [(.int .u32 0)] := ⟨by kernel_rfl⟩
instance : TInt Tryz.prog 56 .u32 := ⟨by kernel_rfl⟩
instance : TOne Tryz.prog 57 := ⟨by kernel_rfl⟩
instance : TSize Tryz.prog 57 1 := ⟨by kernel_rfl⟩
instance : TZero Tryz.prog 57 [(.slice none 0 0)] := ⟨by kernel_rfl⟩
instance : TSlice Tryz.prog 57 85 1 24 := ⟨by kernel_rfl⟩
instance : TAgg Tryz.prog 59 3 := ⟨by kernel_rfl⟩
instance : TSize Tryz.prog 59 3 := ⟨by kernel_rfl⟩
instance : TZero Tryz.prog 59 [(.string ⟨#[]⟩), (.slice none 0 0), (.bool false)] := ⟨by kernel_rfl⟩
instance : TStruct Tryz.prog 59 [(0, 1), (1, 1), (2, 1)] := ⟨by kernel_rfl⟩
instance : TField Tryz.prog 59 0 0 := ⟨by kernel_rfl⟩
instance : TField Tryz.prog 59 1 1 := ⟨by kernel_rfl⟩
instance : TField Tryz.prog 59 2 2 := ⟨by kernel_rfl⟩
instance : TFieldV Tryz.prog 59 0 0 1 false := ⟨by kernel_rfl⟩
instance : TFieldV Tryz.prog 59 1 1 1 false := ⟨by kernel_rfl⟩
instance : TFieldV Tryz.prog 59 2 2 1 false := ⟨by kernel_rfl⟩
instance : TOne Tryz.prog 62 := ⟨by kernel_rfl⟩
instance : TSize Tryz.prog 62 1 := ⟨by kernel_rfl⟩
instance : TZero Tryz.prog 62 [(.slice none 0 0)] := ⟨by kernel_rfl⟩
instance : TSlice Tryz.prog 62 30 18 18 := ⟨by kernel_rfl⟩
instance : TAgg Tryz.prog 63 10 := ⟨by kernel_rfl⟩
instance : TSize Tryz.prog 63 10 := ⟨by kernel_rfl⟩
instance : TZero Tryz.prog 63 [(.slice none 0 0), (.slice none 0 0), (.slice none 0 0), (.int .i64 0), (.int .i64 0), (.slice none 0 0), (.slice none 0 0), (.slice none 0 0), (.int .i64 0), (.int .i64 0)] := ⟨by kernel_rfl⟩
instance : TArr Tryz.prog 63 2 44 5 := ⟨by kernel_rfl⟩
instance : TOne Tryz.prog 64 := ⟨by kernel_rfl⟩
instance : TSize Tryz.prog 64 1 := ⟨by kernel_rfl⟩
instance : TZero Tryz.prog 64 [(.slice none 0 0)] := ⟨by kernel_rfl⟩
instance : TSlice Tryz.prog 64 44 5 88 := ⟨by kernel_rfl⟩
instance : TOne Tryz.prog 68 := ⟨by kernel_rfl⟩
instance : TSize Tryz.prog 68 1 := ⟨by kernel_rfl⟩
instance : TZero Tryz.prog 68 [.nilFunc] := ⟨by kernel_rfl⟩
instance : TAgg Tryz.prog 78 2 := ⟨by kernel_rfl⟩
instance : TSize Tryz.prog 78 2 := ⟨by kernel_rfl⟩
instance : TZero Tryz.prog 78 [(.int .u8 0), (.int .u8 0)] := ⟨by kernel_rfl⟩
instance : TArr Tryz.prog 78 2 5 1 := ⟨by kernel_rfl⟩
instance : TAgg Tryz.prog 81 36 := ⟨by kernel_rfl⟩
instance : TSize Tryz.prog 81 36 := ⟨by kernel_rfl⟩
instance : TZero Tryz.prog 81 [(.int .u8 0), (.int .u8 0), (.int .u8 0), (.int .u8 0), (.int .u8 0), (.int .u8 0), (.int .u8 0), (.int .u8 0), (.int .u8 0), (.int .u8 0), (.int .u8 0), (.int .u8 0), (.int .u8 0), (.int .u8 0), (.int .u8 0), (.int .u8 0), (.int .u8 0), (.int .u8 0), (.int .u8 0), (.int .u8 0), (.int .u8 0), (.int .u8 0), (.int .u8 0), (.int .u8 0), (.int .u8 0), (.int .u8 0), (.int .u8 0), (.int .u8 0), (.int .u8 0), (.int .u8 0), (.int .u8 0), (.int .u8 0), (.int .u8 0), (.int .u8 0), (.int .u8 0), (.int .u8 0)] := ⟨by kernel_rfl⟩
instance : TArr Tryz.prog 81 2 30 18 := ⟨by kernel_rfl⟩
instance : TOne Tryz.prog 85 := ⟨by kernel_rfl⟩
instance : TSize Tryz.prog 85 1 := ⟨by kernel_rfl⟩
instance : TZero Tryz.prog 85 [(.slice none 0 0)] := ⟨by kernel_rfl⟩
instance : TSlice Tryz.prog 85 146 2 16 := ⟨by kernel_rfl⟩
instance : TAgg Tryz.prog 87 3 := ⟨by kernel_rfl⟩
instance : TSize Tryz.prog 87 3 := ⟨by kernel_rfl⟩
instance : TZero Tryz.prog 87 [(.int .u8 0), (.int .u8 0), (.int .u8 0)] := ⟨by kernel_rfl⟩
instance : TArr Tryz.prog 87 3 5 1 := ⟨by kernel_rfl⟩
instance : TAgg Tryz.prog 89 4 := ⟨by kernel_rfl⟩
instance : TSize Tryz.prog 89 4 := ⟨by kernel_rfl⟩
instance : TZero Tryz.prog 89 [(.int .i64 0), (.int .i64 0), (.int .i64 0), (.int .i64 0)] := ⟨by kernel_rfl⟩
instance : TStruct Tryz.prog 89 [(0, 1), (1, 1), (2, 1), (3, 1)] := ⟨by kernel_rfl⟩
instance : TField Tryz.prog 89 0 0 := ⟨by kernel_rfl⟩
instance : TField Tryz.prog 89 1 1 := ⟨by kernel_rfl⟩
instance : TField Tryz.prog 89 2 2 := ⟨by kernel_rfl⟩
instance : TField Tryz.prog 89 3 3 := ⟨by kernel_rfl⟩
instance : TFieldV Tryz.prog 89 0 0 1 false := ⟨by kernel_rfl⟩
instance : TFieldV Tryz.prog 89 1 1 1 false := ⟨by kernel_rfl⟩
instance : TFieldV Tryz.prog 89 2 2 1 false := ⟨by kernel_rfl⟩
instance : TFieldV Tryz.prog 89 3 3 1 false := ⟨by kernel_rfl⟩
instance : EqTy Tryz.prog 89 4 := EqTy.of (by kernel_rfl) (by kernel_rfl) (by kernel_rfl)
instance : TIface Tryz.prog 94 := ⟨by kernel_rfl⟩
instance : TOne Tryz.prog 94 := ⟨by kernel_rfl⟩
instance : TSize Tryz.prog 94 1 := ⟨by kernel_rfl⟩
instance : TZero Tryz.prog 94 [.nilIface] := ⟨by kernel_rfl⟩
instance : TAgg Tryz.prog 100 9 := ⟨by kernel_rfl⟩
instance : TSize Tryz.prog 100 9 := ⟨by kernel_rfl⟩
instance : TZero Tryz.prog 100 [(.int .i64 0), (.slice none 0 0), (.slice none 0 0), (.slice none 0 0), (.int .i64 0), (.bool false), (.slice none 0 0), (.int .i64 0), (.int .i64 0)] := ⟨by kernel_rfl⟩
instance : TStruct Tryz.prog 100 [(0, 9)] := ⟨by kernel_rfl⟩
instance : TField Tryz.prog 100 0 0 := ⟨by kernel_rfl⟩
instance : TFieldV Tryz.prog 100 0 0 9 true := ⟨by kernel_rfl⟩
instance : TOne Tryz.prog 101 := ⟨by kernel_rfl⟩
instance : TSize Tryz.prog 101 1 := ⟨by kernel_rfl⟩
instance : TZero Tryz.prog 101 [.nilFunc] := ⟨by kernel_rfl⟩
instance : TOne Tryz.prog 114 := ⟨by kernel_rfl⟩
instance : TSize Tryz.prog 114 1 := ⟨by kernel_rfl⟩
instance : TZero Tryz.prog 114 [(.pointer none)] := ⟨by kernel_rfl⟩
instance : TAgg Tryz.prog 116 2 := ⟨by kernel_rfl⟩
instance : TSize Tryz.prog 116 2 := ⟨by kernel_rfl⟩
instance : TZero Tryz.prog 116 [(.pointer none), (.slice none 0 0)] := ⟨by kernel_rfl⟩
instance : TStruct Tryz.prog 116 [(0, 1), (1, 1)] := ⟨by kernel_rfl⟩
instance : TField Tryz.prog 116 0 0 := ⟨by kernel_rfl⟩
instance : TField Tryz.prog 116 1 1 := ⟨by kernel_rfl⟩
instance : TFieldV Tryz.prog 116 0 0 1 false := ⟨by kernel_rfl⟩
instance : TFieldV Tryz.prog 116 1 1 1 false := ⟨by kernel_rfl⟩
instance : TOne Tryz.prog 130 := ⟨by kernel_rfl⟩
instance : TSize Tryz.prog 130 1 := ⟨by kernel_rfl⟩
instance : TZero Tryz.prog 130 [.nilFunc] := ⟨by kernel_rfl⟩
instance : TOne Tryz.prog 136 := ⟨by kernel_rfl⟩
instance : TSize Tryz.prog 136 1 := ⟨by kernel_rfl⟩
instance : TZero Tryz.prog 136 [.nilFunc] := ⟨by kernel_rfl⟩
instance : TOne Tryz.prog 141 := ⟨by kernel_rfl⟩
instance : TSize Tryz.prog 141 1 := ⟨by kernel_rfl⟩
instance : TZero Tryz.prog 141 [(.int .u64 0)] := ⟨by kernel_rfl⟩
instance : TInt Tryz.prog 141 .u64 := ⟨by kernel_rfl⟩
instance : TOne Tryz.prog 144 := ⟨by kernel_rfl⟩
instance : TSize Tryz.prog 144 1 := ⟨by kernel_rfl⟩
instance : TZero Tryz.prog 144 [(.pointer none)] := ⟨by kernel_rfl⟩
instance : TAgg Tryz.prog 146 2 := ⟨by kernel_rfl⟩
instance : TSize Tryz.prog 146 2 := ⟨by kernel_rfl⟩
instance : TZero Tryz.prog 146 [(.int .i64 0), (.int .i64 0)] := ⟨by kernel_rfl⟩
instance : TStruct Tryz.prog 146 [(0, 1), (1, 1)] := ⟨by kernel_rfl⟩
instance : TField Tryz.prog 146 0 0 := ⟨by kernel_rfl⟩
instance : TField Tryz.prog 146 1 1 := ⟨by kernel_rfl⟩
instance : TFieldV Tryz.prog 146 0 0 1 false := ⟨by kernel_rfl⟩
instance : TFieldV Tryz.prog 146 1 1 1 false := ⟨by kernel_rfl⟩
instance : EqTy Tryz.prog 146 2 := EqTy.of (by kernel_rfl) (by kernel_rfl) (by kernel_rfl)
instance : TOne Tryz.prog 150 := ⟨by kernel_rfl⟩
instance : TSize Tryz.prog 150 1 := ⟨by kernel_rfl⟩
instance : TZero Tryz.prog 150 [.nilFunc] := ⟨by kernel_rfl⟩
instance : TAgg Tryz.prog 151 4 := ⟨by kernel_rfl⟩
instance : TSize Tryz.prog 151 4 := ⟨by kernel_rfl⟩
instance : TZero Tryz.prog 151 [(.int .i64 0), (.int .i64 0), (.int .i64 0), (.int .i64 0)] := ⟨by kernel_rfl⟩
instance : TArr Tryz.prog 151 4 3 1 := ⟨by kernel_rfl⟩
instance : TAgg Tryz.prog 153 2 := ⟨by kernel_rfl⟩
instance : TSize Tryz.prog 153 2 := ⟨by kernel_rfl⟩
instance : TZero Tryz.prog 153 [(.string ⟨#[]⟩), (.int .i64 0)] := ⟨by kernel_rfl⟩
instance : TStruct Tryz.prog 153 [(0, 1), (1, 1)] := ⟨by kernel_rfl⟩
instance : TField Tryz.prog 153 0 0 := ⟨by kernel_rfl⟩
instance : TField Tryz.prog 153 1 1 := ⟨by kernel_rfl⟩
instance : TFieldV Tryz.prog 153 0 0 1 false := ⟨by kernel_rfl⟩
instance : TFieldV Tryz.prog 153 1 1 1 false := ⟨by kernel_rfl⟩
instance : TOne Tryz.prog 156 := ⟨by kernel_rfl⟩
instance : TSize Tryz.prog 156 1 := ⟨by kernel_rfl⟩
instance : TZero Tryz.prog 156 [.nilFunc] := ⟨by kernel_rfl⟩
instance : TOne Tryz.prog 160 := ⟨by kernel_rfl⟩
instance : TSize Tryz.prog 160 1 := ⟨by kernel_rfl⟩
instance : TZero Tryz.prog 160 [.nilFunc] := ⟨by kernel_rfl⟩
instance : TOne Tryz.prog 162 := ⟨by kernel_rfl⟩
instance : TSize Tryz.prog 162 1 := ⟨by kernel_rfl⟩
instance : TZero Tryz.prog 162 [.nilFunc] := ⟨by kernel_rfl⟩
instance : TOne Tryz.prog 181 := ⟨by kernel_rfl⟩
instance : TSize Tryz.prog 181 1 := ⟨by kernel_rfl⟩
instance : TZero Tryz.prog 181 [(.pointer none)] := ⟨by kernel_rfl⟩
instance : TAgg Tryz.prog 188 22 := ⟨by kernel_rfl⟩
instance : TSize Tryz.prog 188 22 := ⟨by kernel_rfl⟩
instance : TZero Tryz.prog 188 [(.string ⟨#[]⟩), (.int .i64 0), (.string ⟨#[]⟩), (.int .i64 0), (.string ⟨#[]⟩), (.int .i64 0), (.string ⟨#[]⟩), (.int .i64 0), (.string ⟨#[]⟩), (.int .i64 0), (.string ⟨#[]⟩), (.int .i64 0), (.string ⟨#[]⟩), (.int .i64 0), (.string ⟨#[]⟩), (.int .i64 0), (.string ⟨#[]⟩), (.int .i64 0), (.string ⟨#[]⟩), (.int .i64 0), (.string ⟨#[]⟩), (.int .i64 0)] := ⟨by kernel_rfl⟩
instance : TArr Tryz.prog 188 11 153 2 := ⟨by kernel_rfl⟩
instance : TAgg Tryz.prog 230 0 := ⟨by kernel_rfl⟩
instance : TSize Tryz.prog 230 0 := ⟨by kernel_rfl⟩
instance : TZero Tryz.prog 230 [] := ⟨by kernel_rfl⟩
instance : TArr Tryz.prog 230 0 16 1 := ⟨by kernel_rfl⟩
instance : TAgg Tryz.prog 232 0 := ⟨by kernel_rfl⟩
instance : TSize Tryz.prog 232 0 := ⟨by kernel_rfl⟩
instance : TZero Tryz.prog 232 [] := ⟨by kernel_rfl⟩
instance : TStruct Tryz.prog 232 [(0, 0)] := ⟨by kernel_rfl⟩
instance : TFieldV Tryz.prog 232 0 0 0 true := ⟨by kernel_rfl⟩

/- skewer/skewerlaw04.sanity : names 1 b, 2 g, 3 p, 4 q, 5 _, 6 e, 7 _, 8 f, 9 r, 10 h, 11 l, 12 texts -/
def s12 (P : Program) (K : Value → WP) : WP :=
  Do P (vBuildSlice 33 2 [(0, (.int .i64 1)), (1, (.int .i64 (-1)))]) fun t1_13 =>
  Do P (vBuildSlice 32 1 [(0, t1_13)]) fun t2_14 =>
  Do P (vBuildSlice 33 1 [(0, (.int .i64 0))]) fun t3_15 =>
  Do P (vBuild 35 [(0, (.int .i64 2)), (1, t2_14), (2, t3_15)]) fun t4_16 =>
  Do P (V (Instr.alloc 35 true (.tuple #[]))) fun b5 =>
  Do P (U (Instr.storeAt 35 b5 t4_16)) fun t6_x =>
  Do P (V (Instr.loadAt 35 b5)) fun t7_17 =>
  Do P (vBuild 59 [(0, (.string ⟨#[97]⟩))]) fun t8_18 =>
  Do P (vBuildSlice 36 1 [(0, t8_18)]) fun t9_19 =>
  Do P (vBuild 39 [(0, t7_17), (1, t9_19), (2, (.int .i64 2)), (5, (.int .i64 3)), (6, (.int .i64 2))]) fun t10_20 =>
  Do P (V (Instr.alloc 39 true (.tuple #[]))) fun g11 =>
  Do P (U (Instr.storeAt 39 g11 t10_20)) fun t12_x =>
  Do P (vBuildSlice 33 2 [(0, (.int .i64 1)), (1, (.int .i64 0))]) fun t13_21 =>
  Do P (vBuildSlice 33 1 [(0, (.int .i64 0))]) fun t14_22 =>
  Do P (vBuildSlice 33 1 [(0, (.int .i64 0))]) fun t15_23 =>
  Do P (vBuild 42 [(0, t14_22), (1, t15_23)]) fun t16_24 =>
  Do P (vBuild 44 [(0, t13_21), (1, t16_24), (2, (.int .i64 2)), (3, (.int .i64 1))]) fun t17_25 =>
  Do P (V (Instr.alloc 44 true (.tuple #[]))) fun p18 =>
  Do P (U (Instr.storeAt 44 p18 t17_25)) fun t19_x =>
  Do P (vBuildSlice 33 2 [(0, (.int .i64 2)), (1, (.int .i64 1))]) fun t20_26 =>
  Do P (vBuildSlice 33 1 [(0, (.int .i64 0))]) fun t21_27 =>
  Do P (vBuildSlice 33 1 [(0, (.int .i64 0))]) fun t22_28 =>
  Do P (vBuild 42 [(0, t21_27), (1, t22_28)]) fun t23_29 =>
  Do P (vBuild 44 [(0, t20_26), (1, t23_29), (2, (.int .i64 3))]) fun t24_30 =>
  Do P (V (Instr.alloc 44 true (.tuple #[]))) fun q25 =>
  Do P (U (Instr.storeAt 44 q25 t24_30)) fun t26_x =>
  Do P (V (Instr.loadAt 39 g11)) fun t27_32 =>
  Do P (vCall (.func (.func 16) #[] ⟨[]⟩) [t27_32, (.string ⟨#[65, 46, 47, 48, 47, 48, 47, 48, 50, 47, 49]⟩)]) fun t28_33 =>
  Do P (V (Instr.extract t28_33 0)) fun t29_34 =>
  Do P (V (Instr.extract t28_33 1)) fun t30_35 =>
  Do P (V (Instr.alloc 44 true (.tuple #[]))) fun t31_5 =>
  Do P (U (Instr.storeAt 44 t31_5 t29_34)) fun t32_x =>
  Do P (V (Instr.loadAt 39 g11)) fun t33_37 =>
  Do P (vCall (.func (.func 16) #[] ⟨[]⟩) [t33_37, (.string ⟨#[65, 46, 47, 49, 47, 48, 47, 50, 47, 49]⟩)]) fun t34_38 =>
  Do P (V (Instr.extract t34_38 0)) fun t35_39 =>
  Do P (V (Instr.extract t34_38 1)) fun t36_40 =>
  Do P (V (Instr.alloc 44 true (.tuple #[]))) fun t37_7 =>
  Do P (U (Instr.storeAt 44 t37_7 t35_39)) fun t38_x =>
  Do P (V (Instr.loadAt 39 g11)) fun t39_42 =>
  Do P (vCall (.func (.func 16) #[] ⟨[]⟩) [t39_42, (.string ⟨#[97, 65, 47, 48, 47, 48, 47, 51, 47, 48]⟩)]) fun t40_43 =>
  Do P (V (Instr.extract t40_43 0)) fun t41_44 =>
  Do P (V (Instr.extract t40_43 1)) fun t42_45 =>
  Do P (V (Instr.alloc 44 true (.tuple #[]))) fun r43 =>
  Do P (U (Instr.storeAt 44 r43 t41_44)) fun t44_x =>
  Do P (V (Instr.loadAt 44 q25)) fun t45_46 =>
  Do P (V (Instr.loadAt 44 p18)) fun t46_47 =>
  Do P (V (Instr.loadAt 44 q25)) fun t47_48 =>
  Do P (vBuildSlice 64 3 [(0, t45_46), (1, t46_47), (2, t47_48)]) fun t48_49 =>
  Do P (vCall (.func (.func 23) #[] ⟨[]⟩) [t48_49]) fun t49_50 =>
  Jn (α := Value) (fun j50 => Jk fun _ => -- texts
   Gd j50 true (
    Do P (V (Instr.loadAt 44 p18)) fun t51_80 =>
    Do P (V (Instr.loadAt 44 q25)) fun t52_81 =>
    Do P (vBuildSlice 64 2 [(0, t51_80), (1, t52_81)]) fun t53_82 =>
    Do P (vCall (.func (.func 22) #[] ⟨[]⟩) [t49_50, t53_82]) fun t54_83 =>
    Gd t54_83 true (
     Do P (V (Instr.loadAt 44 p18)) fun t55_86 =>
     Do P (V (Instr.loadAt 44 q25)) fun t56_87 =>
     Do P (vBuildSlice 64 2 [(0, t55_86), (1, t56_87)]) fun t57_88 =>
     Do P (V (Instr.loadAt 44 q25)) fun t58_89 =>
     Do P (vCall (.func (.func 29) #[] ⟨[]⟩) [t57_88, t58_89]) fun t59_90 =>
     Do P (V (EqG .eql 3 (.tmp 90) (.const (.int .i64 1)) t59_90 (.int .i64 1))) fun t60_91 =>
     Gd t60_91 true (
      Do P (V (Instr.loadAt 44 p18)) fun t61_94 =>
      Do P (vBuildSlice 64 1 [(0, t61_94)]) fun t62_95 =>
      Do P (V (Instr.loadAt 44 q25)) fun t63_96 =>
      Do P (vCall (.func (.func 29) #[] ⟨[]⟩) [t62_95, t63_96]) fun t64_97 =>
      Do P (V (EqG .eql 3 (.tmp 97) (.const (.int .i64 (-1))) t64_97 (.int .i64 (-1)))) fun t65_98 =>
      Gd t65_98 true (
       Do P (V (Instr.loadAt 44 p18)) fun t66_101 =>
       Do P (V (Instr.loadAt 44 q25)) fun t67_102 =>
       Do P (vCall (.func (.func 24) #[] ⟨[]⟩) [t66_101, t67_102]) fun t68_103 =>
       Do P (V (EqG .eql 3 (.tmp 103) (.const (.int .i64 (-1))) t68_103 (.int .i64 (-1)))) fun t69_104 =>
       Gd t69_104 true (
        Do P (V (Instr.loadAt 39 g11)) fun t70_107 =>
        Do P (V (Instr.loadAt 44 p18)) fun t71_108 =>
        Do P (vCall (.func (.func 19) #[] ⟨[]⟩) [t70_107, t71_108]) fun t72_109 =>
        Gd t72_109 true (
         Do P (V (Instr.loadAt 39 g11)) fun t73_112 =>
         Do P (vBuild 44 []) fun t74_113 =>
         Do P (vCall (.func (.func 19) #[] ⟨[]⟩) [t73_112, t74_113]) fun t75_114 =>
         Do P (V (Op.unary .not t75_114)) fun t76_115 =>
         Gd t76_115 true (
          Do P (V (Instr.loadAt 39 g11)) fun t77_118 =>
          Do P (V (Instr.loadAt 44 q25)) fun t78_119 =>
          Do P (vCall (.func (.func 33) #[] ⟨[]⟩) [t77_118, t78_119, (.int .i64 1)]) fun t79_120 =>
          Do P (vBuildSlice 33 1 [(0, (.int .i64 1))]) fun t80_121 =>
          Do P (vCall (.func (.func 32) #[] ⟨[]⟩) [t79_120, t80_121]) fun t81_122 =>
          K t81_122
         ) (
          K (.bool false)
         )
        ) (
         K (.bool false)
        )
       ) (
        K (.bool false)
       )
      ) (
       K (.bool false)
      )
     ) (
      K (.bool false)
     )
    ) (
     K (.bool false)
    )
   ) (
    K (.bool false)
   )
  ) fun k50 =>
  Do P (V (Instr.loadAt 39 g11)) fun t82_51 =>
  Do P (V (Instr.loadAt 44 p18)) fun t83_52 =>
  Do P (vCall (.func (.func 31) #[] ⟨[]⟩) [t82_51, t83_52]) fun t84_53 =>
  Do P (V (EqG .eql 9 (.tmp 53) (.const (.string ⟨#[65, 46, 47, 48, 47, 48, 47, 50, 47, 49]⟩)) t84_53 (.string ⟨#[65, 46, 47, 48, 47, 48, 47, 50, 47, 49]⟩))) fun t85_54 =>
  Gd t85_54 true (
   Do P (V (Instr.loadAt 44 p18)) fun t86_56 =>
   Do P (vCall (.func (.func 26) #[] ⟨[]⟩) [t86_56]) fun t87_57 =>
   Do P (V (EqG .eql 9 (.tmp 57) (.const (.string ⟨#[1, 0, 0, 0, 2, 1]⟩)) t87_57 (.string ⟨#[1, 0, 0, 0, 2, 1]⟩))) fun t88_58 =>
   Gd t88_58 true (
    Do P (V (EqG .eql 47 (.tmp 61) (.const (.int .i64 3)) t30_35 (.int .i64 3))) fun t89_62 =>
    Gd t89_62 true (
     Do P (V (EqG .eql 47 (.tmp 65) (.const (.int .i64 3)) t36_40 (.int .i64 3))) fun t90_66 =>
     Gd t90_66 true (
      Do P (V (EqG .eql 47 (.tmp 69) (.const (.int .i64 0)) t42_45 (.int .i64 0))) fun t91_70 =>
      Gd t91_70 true (
       Do P (V (Instr.loadAt 44 r43)) fun t92_73 =>
       Do P (V (Instr.loadAt 44 q25)) fun t93_74 =>
       Do P (vCall (.func (.func 36) #[] ⟨[]⟩) [t92_73, t93_74]) fun t94_75 =>
       k50 t94_75
      ) (
       k50 (.bool false)
      )
     ) (
      k50 (.bool false)
     )
    ) (
     k50 (.bool false)
    )
   ) (
    k50 (.bool false)
   )
  ) (
   k50 (.bool false)
  )
def A12 : Ann := .s (.n) (.s (.n) (.s (.n) (.s (.n) (.s (.n) (.s (.n) (.s (.n) (.s (.n) (.s (.n) (.j [12] 151115725200028833157120 (.n) (.s (.n) (.n)))))))))))
set_option maxRecDepth 100000 in
theorem c12 (K : Value → WP) (w : World) (h : s12 Tryz.prog  K w) : Runs Tryz.prog 12 [] K w :=
  runs_of_E wide (fn := Tryz.f12) (c := Tryz.f12.body.getD .skip) 124 A12 [] w K Tryz.func12 (by kernel_rfl) (by kernel_rfl) (by kernel_rfl) (by kernel_rfl)
    (Eq.mp (by kernel_rfl : s12 Tryz.prog  K w = E Tryz.prog (Tryz.f12.body.getD .skip) A12 (topK Tryz.prog K Tryz.f12.results) (fun i => (([] : List Value)[i]?).getD undef) w) h)
theorem ct12 {h : Hp} {post : Hp → Value → Prop} (hg : ∀ w0, Gs w0 h h [] (s12 Tryz.prog  (RetP w0 h post))) : Ct Tryz.prog 12 [] h post := Ct.of (sf := s12 Tryz.prog ) (c12 ) hg
theorem in12 {S : WP} {K : Value → WP} (hg : G S (s12 Tryz.prog  K)) : G S (Do Tryz.prog (vCall (.func (.func 12) #[] ⟨[]⟩) []) K) := Gs.into (args := []) (caps := []) (sf := s12 Tryz.prog ) (c12 ) hg

/- skewer/skewerref03.Made : names 0 x, 1 x, 3 g, 4 kinds, 5 i, 6 k, 7 n, 8 i, 9 c -/
def s13 (P : Program) (arg0 : Value) (K : Value → WP) : WP :=
  Do P (V (Instr.box 27 arg0)) fun x1 =>
  Do P (V (Instr.alloc 39 true (.tuple #[]))) fun t2_2 =>
  Jn (α := Value) (fun j3 => Jk fun _ => -- g
   Jn (α := Value) (fun j4 => Jk fun _ => -- kinds
    Lp (α := Value) (fun c5 s5 => Jk fun _ => -- i
     Do P (V (binOp .lss 3 s5 j4)) fun t6_35 =>
     If t6_35 (
      Jn (α := Value) (fun j7 => Jk fun _ => -- k
       Lp (α := Value) (fun c8 s8 => Jk fun _ => -- n
        Jn (α := Value) (fun j9 => Jk fun _ => -- t60
         If j9 (
          Dr <|
          Qk P (V (Instr.fieldAt 59 j7 1)) fun C10 t10_63 =>
          Qk P (V (Instr.loadAt 57 t10_63)) fun C11 t11_64 =>
          Qk P (V (Instr.fieldAt 27 x1 3)) fun C12 t12_66 =>
          Qk P (V (Instr.indexAt 23 t12_66 s5)) fun C13 t13_67 =>
          Qk P (V (Instr.loadAt 22 t13_67)) fun C14 t14_68 =>
          Qk P (V (Instr.indexAt 22 t14_68 s8)) fun C15 t15_70 =>
          Qk P (V (Instr.loadAt 5 t15_70)) fun C16 t16_71 =>
          Qk P (V (Instr.fieldAt 39 j3 0)) fun C17 t17_72 =>
          Qk P (V (Instr.fieldAt 35 t17_72 1)) fun C18 t18_73 =>
          Qk P (V (Instr.loadAt 32 t18_73)) fun C19 t19_74 =>
          Qk P (vBuiltin .len #[32] 3 [t19_74]) fun C20 t20_75 =>
          Qk P (V (Instr.fieldAt 39 j3 2)) fun C21 t21_77 =>
          Qk P (V (Instr.loadAt 3 t21_77)) fun C22 t22_78 =>
          Do P (vCall (.func (.func 38) #[] ⟨[]⟩) [t16_71, t20_75, j4, t22_78]) fun t23_79 =>
          With C11 <|
          With C10 <|
          Do P (vBuildSlice 57 1 [(0, t23_79)]) fun t24_80 =>
          With C11 <|
          With C10 <|
          Do P (vBuiltin .append #[57, 57] 57 [t11_64, t24_80]) fun t25_81 =>
          Qk P (V (Instr.fieldAt 59 j7 1)) fun C26 t26_82 =>
          Do P (U (Instr.storeAt 57 t26_82 t25_81)) fun t27_x =>
          Do P (V (binOp .add 3 s8 (.int .i64 1))) fun t28_62 =>
          c8 t28_62
         ) (
          Do P (V (Instr.fieldAt 39 j3 1)) fun t29_83 =>
          Do P (V (Instr.loadAt 36 t29_83)) fun t30_84 =>
          Do P (V (Instr.loadAt 59 j7)) fun t31_85 =>
          Do P (vBuildSlice 36 1 [(0, t31_85)]) fun t32_86 =>
          Do P (vBuiltin .append #[36, 36] 36 [t30_84, t32_86]) fun t33_87 =>
          Do P (V (Instr.fieldAt 39 j3 1)) fun t34_88 =>
          Do P (U (Instr.storeAt 36 t34_88 t33_87)) fun t35_x =>
          Do P (V (binOp .add 3 s5 (.int .i64 1))) fun t36_37 =>
          c5 t36_37
         )
        ) fun k9 =>
        Do P (V (Instr.fieldAt 27 x1 3)) fun t37_52 =>
        Do P (V (Instr.indexAt 23 t37_52 s5)) fun t38_53 =>
        Do P (V (Instr.loadAt 22 t38_53)) fun t39_54 =>
        Do P (vBuiltin .len #[22] 3 [t39_54]) fun t40_55 =>
        Do P (V (binOp .lss 3 s8 t40_55)) fun t41_56 =>
        Gd t41_56 true (
         Do P (V (binOp .lss 3 s8 (.int .i64 4))) fun t42_59 =>
         k9 t42_59
        ) (
         k9 (.bool false)
        )
       ) (.int .i64 0)
      ) fun k7 =>
      Dr <|
      Qk P (V (Instr.fieldAt 27 x1 5)) fun C43 t43_42 =>
      Qk P (V (Instr.indexAt 25 t43_42 (.int .i64 2))) fun C44 t44_43 =>
      Qk P (V (Instr.loadAt 5 t44_43)) fun C45 t45_44 =>
      Qk P (V (binOp .shr 5 t45_44 s5)) fun C46 t46_46 =>
      Qk P (V (binOp .and 5 t46_46 (.int .u8 1))) fun C47 t47_47 =>
      Qk P (V (EqG .eql 5 (.tmp 47) (.const (.int .u8 1)) t47_47 (.int .u8 1))) fun C48 t48_48 =>
      Or2 (
       Do P (vBuildSlice 46 2 [(0, (.string ⟨#[97]⟩)), (1, (.string ⟨#[98, 101, 101]⟩))]) fun t49_38 =>
       With C48 <|
       With C47 <|
       With C46 <|
       With C45 <|
       With C44 <|
       With C43 <|
       Qk P (V (Instr.indexAt 46 t49_38 s5)) fun C50 t50_40 =>
       Qk P (V (Instr.loadAt 9 t50_40)) fun C51 t51_41 =>
       Qk P (vBuild 59 [(0, t51_41), (2, t48_48)]) fun C52 t52_49 =>
       Do P (V (Instr.alloc 59 true (.tuple #[]))) fun k53 =>
       With C52 <|
       With C51 <|
       With C50 <|
       With C48 <|
       With C47 <|
       With C46 <|
       With C45 <|
       With C44 <|
       With C43 <|
       Do P (U (Instr.storeAt 59 k53 t52_49)) fun t54_x =>
       k7 k53
      ) (
       Do P (V (Instr.alloc 59 true (.tuple #[]))) fun k55 =>
       With C48 <|
       With C47 <|
       With C46 <|
       With C45 <|
       With C44 <|
       With C43 <|
       Do P (vBuildSlice 46 2 [(0, (.string ⟨#[97]⟩)), (1, (.string ⟨#[98, 101, 101]⟩))]) fun t56_38 =>
       With C48 <|
       With C47 <|
       With C46 <|
       With C45 <|
       With C44 <|
       With C43 <|
       Qk P (V (Instr.indexAt 46 t56_38 s5)) fun C57 t57_40 =>
       Qk P (V (Instr.loadAt 9 t57_40)) fun C58 t58_41 =>
       Qk P (vBuild 59 [(0, t58_41), (2, t48_48)]) fun C59 t59_49 =>
       Do P (U (Instr.storeAt 59 k55 t59_49)) fun t60_x =>
       k7 k55
      )
     ) (
      Jn (α := Unit) (fun j61 => Jk fun _ => -- 
       Jn (α := Unit) (fun j62 => Jk fun _ => -- 
        Lp (α := Value) (fun c63 s63 => Jk fun _ => -- i
         Jn (α := Value) (fun j64 => Jk fun _ => -- t123
          If j64 (
           Dr <|
           Qk P (V (Instr.fieldAt 27 x1 4)) fun C65 t65_126 =>
           Qk P (V (Instr.loadAt 24 t65_126)) fun C66 t66_127 =>
           Qk P (V (Instr.indexAt 24 t66_127 s63)) fun C67 t67_129 =>
           Qk P (V (Instr.indexAt 87 t67_129 (.int .i64 0))) fun C68 t68_130 =>
           Qk P (V (Instr.loadAt 5 t68_130)) fun C69 t69_131 =>
           Qk P (V (convert 5 3 t69_131)) fun C70 t70_132 =>
           Qk P (V (binOp .rem 3 t70_132 (.int .i64 3))) fun C71 t71_133 =>
           Qk P (V (binOp .add 3 (.int .i64 1) t71_133)) fun C72 t72_134 =>
           Qk P (V (Instr.fieldAt 27 x1 4)) fun C73 t73_135 =>
           Qk P (V (Instr.loadAt 24 t73_135)) fun C74 t74_136 =>
           Qk P (V (Instr.indexAt 24 t74_136 s63)) fun C75 t75_138 =>
           Qk P (V (Instr.indexAt 87 t75_138 (.int .i64 0))) fun C76 t76_139 =>
           Qk P (V (Instr.loadAt 5 t76_139)) fun C77 t77_140 =>
           Qk P (V (binOp .quo 5 t77_140 (.int .u8 4))) fun C78 t78_141 =>
           Qk P (V (convert 5 3 t78_141)) fun C79 t79_142 =>
           Qk P (V (binOp .rem 3 t79_142 (.int .i64 3))) fun C80 t80_143 =>
           Qk P (V (binOp .add 3 (.int .i64 1) t80_143)) fun C81 t81_144 =>
           Qk P (vBuild 89 [(0, t72_134), (3, t81_144)]) fun C82 t82_145 =>
           Do P (V (Instr.alloc 89 true (.tuple #[]))) fun c83 =>
           With C82 <|
           With C81 <|
           With C80 <|
           With C79 <|
           With C78 <|
           With C77 <|
           With C76 <|
           With C75 <|
           With C74 <|
           With C73 <|
           With C72 <|
           With C71 <|
           With C70 <|
           With C69 <|
           With C68 <|
           With C67 <|
           With C66 <|
           With C65 <|
           Do P (U (Instr.storeAt 89 c83 t82_145)) fun t84_x =>
           Jn (α := Unit) (fun j85 => Jk fun _ => -- 
            Jn (α := Unit) (fun j86 => Jk fun _ => -- 
             Jn (α := Unit) (fun j87 => Jk fun _ => -- 
              Do P (V (Instr.fieldAt 39 j3 4)) fun t88_186 =>
              Do P (V (Instr.loadAt 37 t88_186)) fun t89_187 =>
              Do P (V (Instr.loadAt 89 c83)) fun t90_188 =>
              Do P (vBuildSlice 37 1 [(0, t90_188)]) fun t91_189 =>
              Do P (vBuiltin .append #[37, 37] 37 [t89_187, t91_189]) fun t92_190 =>
              Do P (V (Instr.fieldAt 39 j3 4)) fun t93_191 =>
              Do P (U (Instr.storeAt 37 t93_191 t92_190)) fun t94_x =>
              Do P (V (binOp .add 3 s63 (.int .i64 1))) fun t95_125 =>
              c63 t95_125
             ) fun k87 =>
             Do P (V (Instr.fieldAt 89 c83 0)) fun t96_174 =>
             Do P (V (Instr.loadAt 3 t96_174)) fun t97_175 =>
             Do P (V (EqG .eql 3 (.tmp 175) (.const (.int .i64 3)) t97_175 (.int .i64 3))) fun t98_176 =>
             If t98_176 (
              Do P (V (Instr.fieldAt 27 x1 4)) fun t99_177 =>
              Do P (V (Instr.loadAt 24 t99_177)) fun t100_178 =>
              Do P (V (Instr.indexAt 24 t100_178 s63)) fun t101_180 =>
              Do P (V (Instr.indexAt 87 t101_180 (.int .i64 2))) fun t102_181 =>
              Do P (V (Instr.loadAt 5 t102_181)) fun t103_182 =>
              Do P (V (convert 5 3 t103_182)) fun t104_183 =>
              Do P (V (binOp .rem 3 t104_183 (.int .i64 3))) fun t105_184 =>
              Do P (V (Instr.fieldAt 89 c83 2)) fun t106_185 =>
              Do P (U (Instr.storeAt 3 t106_185 t105_184)) fun t107_x =>
              k87 ()
             ) (
              k87 ()
             )
            ) fun k86 =>
            Do P (V (Instr.fieldAt 89 c83 0)) fun t108_159 =>
            Do P (V (Instr.loadAt 3 t108_159)) fun t109_160 =>
            Do P (V (EqG .eql 3 (.tmp 160) (.const (.int .i64 2)) t109_160 (.int .i64 2))) fun t110_161 =>
            If t110_161 (
             Dr <|
             Qk P (V (Instr.fieldAt 27 x1 4)) fun C111 t111_162 =>
             Qk P (V (Instr.loadAt 24 t111_162)) fun C112 t112_163 =>
             Qk P (V (Instr.indexAt 24 t112_163 s63)) fun C113 t113_165 =>
             Qk P (V (Instr.indexAt 87 t113_165 (.int .i64 2))) fun C114 t114_166 =>
             Qk P (V (Instr.loadAt 5 t114_166)) fun C115 t115_167 =>
             Qk P (V (convert 5 3 t115_167)) fun C116 t116_168 =>
             Qk P (V (Instr.fieldAt 39 j3 0)) fun C117 t117_169 =>
             Qk P (V (Instr.fieldAt 35 t117_169 0)) fun C118 t118_170 =>
             Qk P (V (Instr.loadAt 3 t118_170)) fun C119 t119_171 =>
             Qk P (V (binOp .rem 3 t116_168 t119_171)) fun C120 t120_172 =>
             Qk P (V (Instr.fieldAt 89 c83 2)) fun C121 t121_173 =>
             Do P (U (Instr.storeAt 3 t121_173 t120_172)) fun t122_x =>
             k86 ()
            ) (
             k86 ()
            )
           ) fun k85 =>
           Do P (V (Instr.fieldAt 89 c83 0)) fun t123_146 =>
           Do P (V (Instr.loadAt 3 t123_146)) fun t124_147 =>
           Do P (V (EqG .neq 3 (.tmp 147) (.const (.int .i64 3)) t124_147 (.int .i64 3))) fun t125_148 =>
           If t125_148 (
            Do P (V (Instr.fieldAt 27 x1 4)) fun t126_149 =>
            Do P (V (Instr.loadAt 24 t126_149)) fun t127_150 =>
            Do P (V (Instr.indexAt 24 t127_150 s63)) fun t128_152 =>
            Do P (V (Instr.indexAt 87 t128_152 (.int .i64 1))) fun t129_153 =>
            Do P (V (Instr.loadAt 5 t129_153)) fun t130_154 =>
            Do P (V (convert 5 3 t130_154)) fun t131_155 =>
            Do P (V (binOp .rem 3 t131_155 j4)) fun t132_157 =>
            Do P (V (Instr.fieldAt 89 c83 1)) fun t133_158 =>
            Do P (U (Instr.storeAt 3 t133_158 t132_157)) fun t134_x =>
            k85 ()
           ) (
            k85 ()
           )
          ) (
           Do P (V (Instr.loadAt 39 j3)) fun t135_192 =>
           Do P (U (Instr.storeAt 39 t2_2 t135_192)) fun t136_x =>
           RetC P 39 t2_2 K
          )
         ) fun k64 =>
         Do P (V (Instr.fieldAt 27 x1 4)) fun t137_116 =>
         Do P (V (Instr.loadAt 24 t137_116)) fun t138_117 =>
         Do P (vBuiltin .len #[24] 3 [t138_117]) fun t139_118 =>
         Do P (V (binOp .lss 3 s63 t139_118)) fun t140_119 =>
         Gd t140_119 true (
          Do P (V (binOp .lss 3 s63 (.int .i64 3))) fun t141_122 =>
          k64 t141_122
         ) (
          k64 (.bool false)
         )
        ) (.int .i64 0)
       ) fun k62 =>
       Do P (V (Instr.fieldAt 27 x1 5)) fun t142_102 =>
       Do P (V (Instr.indexAt 25 t142_102 (.int .i64 4))) fun t143_103 =>
       Do P (V (Instr.loadAt 5 t143_103)) fun t144_104 =>
       Do P (V (binOp .rem 5 t144_104 (.int .u8 4))) fun t145_105 =>
       Do P (V (EqG .eql 5 (.tmp 105) (.const (.int .u8 3)) t145_105 (.int .u8 3))) fun t146_106 =>
       If t146_106 (
        Do P (V (Instr.fieldAt 27 x1 5)) fun t147_107 =>
        Do P (V (Instr.indexAt 25 t147_107 (.int .i64 4))) fun t148_108 =>
        Do P (V (Instr.loadAt 5 t148_108)) fun t149_109 =>
        Do P (V (binOp .quo 5 t149_109 (.int .u8 4))) fun t150_110 =>
        Do P (V (convert 5 3 t150_110)) fun t151_111 =>
        Do P (V (binOp .rem 3 t151_111 (.int .i64 3))) fun t152_112 =>
        Do P (V (binOp .add 3 (.int .i64 1) t152_112)) fun t153_113 =>
        Do P (V (Instr.fieldAt 39 j3 6)) fun t154_114 =>
        Do P (U (Instr.storeAt 3 t154_114 t153_113)) fun t155_x =>
        k62 ()
       ) (
        k62 ()
       )
      ) fun k61 =>
      Do P (V (Instr.fieldAt 27 x1 5)) fun t156_89 =>
      Do P (V (Instr.indexAt 25 t156_89 (.int .i64 3))) fun t157_90 =>
      Do P (V (Instr.loadAt 5 t157_90)) fun t158_91 =>
      Do P (V (binOp .rem 5 t158_91 (.int .u8 4))) fun t159_92 =>
      Do P (V (EqG .eql 5 (.tmp 92) (.const (.int .u8 3)) t159_92 (.int .u8 3))) fun t160_93 =>
      If t160_93 (
       Do P (V (Instr.fieldAt 27 x1 5)) fun t161_94 =>
       Do P (V (Instr.indexAt 25 t161_94 (.int .i64 3))) fun t162_95 =>
       Do P (V (Instr.loadAt 5 t162_95)) fun t163_96 =>
       Do P (V (binOp .quo 5 t163_96 (.int .u8 4))) fun t164_97 =>
       Do P (V (convert 5 3 t164_97)) fun t165_98 =>
       Do P (V (binOp .rem 3 t165_98 (.int .i64 3))) fun t166_99 =>
       Do P (V (binOp .add 3 (.int .i64 1) t166_99)) fun t167_100 =>
       Do P (V (Instr.fieldAt 39 j3 5)) fun t168_101 =>
       Do P (U (Instr.storeAt 3 t168_101 t167_100)) fun t169_x =>
       k61 ()
      ) (
       k61 ()
      )
     )
    ) (.int .i64 0)
   ) fun k4 =>
   Do P (V (Instr.fieldAt 27 x1 3)) fun t170_28 =>
   Do P (V (Instr.indexAt 23 t170_28 (.int .i64 1))) fun t171_29 =>
   Do P (V (Instr.loadAt 22 t171_29)) fun t172_30 =>
   Do P (vBuiltin .len #[22] 3 [t172_30]) fun t173_31 =>
   Do P (V (binOp .gtr 3 t173_31 (.int .i64 0))) fun t174_32 =>
   If t174_32 (
    k4 (.int .i64 2)
   ) (
    k4 (.int .i64 1)
   )
  ) fun k3 =>
  Dr <|
  Qk P (V (Instr.fieldAt 27 x1 0)) fun C175 t175_10 =>
  Qk P (V (Instr.loadAt 5 t175_10)) fun C176 t176_11 =>
  Qk P (V (Instr.fieldAt 27 x1 1)) fun C177 t177_12 =>
  Qk P (V (Instr.loadAt 5 t177_12)) fun C178 t178_13 =>
  Qk P (V (Instr.fieldAt 27 x1 2)) fun C179 t179_14 =>
  Qk P (V (Instr.loadAt 5 t179_14)) fun C180 t180_15 =>
  Qk P (V (Instr.fieldAt 27 x1 5)) fun C181 t181_17 =>
  Qk P (V (Instr.indexAt 25 t181_17 (.int .i64 0))) fun C182 t182_18 =>
  Qk P (V (Instr.loadAt 5 t182_18)) fun C183 t183_19 =>
  Qk P (V (convert 5 3 t183_19)) fun C184 t184_20 =>
  Qk P (V (binOp .rem 3 t184_20 (.int .i64 3))) fun C185 t185_21 =>
  Qk P (V (Instr.fieldAt 27 x1 5)) fun C186 t186_22 =>
  Qk P (V (Instr.indexAt 25 t186_22 (.int .i64 1))) fun C187 t187_23 =>
  Qk P (V (Instr.loadAt 5 t187_23)) fun C188 t188_24 =>
  Qk P (V (binOp .rem 5 t188_24 (.int .u8 4))) fun C189 t189_25 =>
  Qk P (V (EqG .eql 5 (.tmp 25) (.const (.int .u8 3)) t189_25 (.int .u8 3))) fun C190 t190_26 =>
  Or2 (
   Do P (vCall (.func (.func 37) #[] ⟨[]⟩) [t176_11, t178_13, t180_15]) fun t191_16 =>
   With C190 <|
   With C189 <|
   With C188 <|
   With C187 <|
   With C186 <|
   With C185 <|
   With C184 <|
   With C183 <|
   With C182 <|
   With C181 <|
   Qk P (vBuild 39 [(0, t191_16), (2, t185_21), (3, t190_26), (5, (.int .i64 3)), (6, (.int .i64 2))]) fun C192 t192_27 =>
   Do P (V (Instr.alloc 39 true (.tuple #[]))) fun g193 =>
   With C192 <|
   With C190 <|
   With C189 <|
   With C188 <|
   With C187 <|
   With C186 <|
   With C185 <|
   With C184 <|
   With C183 <|
   With C182 <|
   With C181 <|
   With C180 <|
   With C179 <|
   With C178 <|
   With C177 <|
   With C176 <|
   With C175 <|
   Do P (U (Instr.storeAt 39 g193 t192_27)) fun t194_x =>
   k3 g193
  ) (
   Do P (V (Instr.alloc 39 true (.tuple #[]))) fun g195 =>
   With C190 <|
   With C189 <|
   With C188 <|
   With C187 <|
   With C186 <|
   With C185 <|
   With C184 <|
   With C183 <|
   With C182 <|
   With C181 <|
   With C180 <|
   With C179 <|
   With C178 <|
   With C177 <|
   With C176 <|
   With C175 <|
   Do P (vCall (.func (.func 37) #[] ⟨[]⟩) [t176_11, t178_13, t180_15]) fun t196_16 =>
   With C190 <|
   With C189 <|
   With C188 <|
   With C187 <|
   With C186 <|
   With C185 <|
   With C184 <|
   With C183 <|
   With C182 <|
   With C181 <|
   Qk P (vBuild 39 [(0, t196_16), (2, t185_21), (3, t190_26), (5, (.int .i64 3)), (6, (.int .i64 2))]) fun C197 t197_27 =>
   Do P (U (Instr.storeAt 39 g195 t197_27)) fun t198_x =>
   k3 g195
  )
def A13 : Ann := .s (.n) (.j [3] 268434440 (.plan [(0, 2, 1024), (1, 1024, 2048), (0, 2, 4096), (4, 4096, 8192), (0, 2, 16384), (16, 16384, 32768), (42, 43008, 65536), (0, 2, 131072), (128, 131072, 262144), (256, 262144, 524288), (512, 524288, 1048576), (1024, 1048576, 2097152), (0, 2, 4194304), (4096, 4194304, 8388608), (8192, 8388608, 16777216), (16384, 16777216, 33554432), (32768, 33554432, 67108864), (67648, 69271552, 134217728), (0, 0, 8), (524287, 134217736, 0)] (.q 0 (.q 1 (.q 2 (.q 3 (.q 4 (.q 5 (.q 7 (.q 8 (.q 9 (.q 10 (.q 11 (.q 12 (.q 13 (.q 14 (.q 15 (.q 16 (.or (.l 6 (.q 17 (.l 18 (.l 19 .done)))) (.l 18 (.l 6 (.q 17 (.l 19 .done)))))))))))))))))))))) (.s (.n) (.j [4] 8321499152 (.s (.n) (.s (.n) (.n))) (.s (.s (.n) (.lp [5] 618970019642690128859627744 (.s (.s (.n) (.s (.n) (.n))) (.s (.j [6] 1125625028935744 (.plan [(0, 0, 274877906944), (0, 32, 549755813888), (3, 824633720832, 1099511627776), (4, 1099511627776, 2199023255552), (0, 2, 4398046511104), (16, 4398046511104, 8796093022208), (32, 8796093022208, 17592186044416), (0, 32, 35184372088832), (192, 52776558133248, 70368744177664), (256, 70368744177664, 140737488355328), (512, 140737488355328, 281474976710656), (1032, 283673999966208, 562949953421312), (0, 0, 64), (8191, 562949953421376, 0)] (.q 1 (.q 4 (.q 5 (.q 6 (.q 7 (.q 8 (.q 9 (.q 10 (.or (.l 0 (.q 2 (.q 3 (.q 11 (.l 12 (.l 13 .done)))))) (.l 12 (.l 0 (.q 2 (.q 3 (.q 11 (.l 13 .done)))))))))))))))) (.s (.s (.n) (.lp [7] 9671406555791133490806912 (.s (.j [60] 2304717109306851328 (.n) (.s (.n) (.n))) (.s (.plan [(0, 64, 9223372036854775808), (1, 9223372036854775808, 18446744073709551616), (0, 32, 36893488147419103232), (0, 2, 73786976294838206464), (12, 110680464442257309696, 147573952589676412928), (16, 147573952589676412928, 295147905179352825856), (0, 128, 590295810358705651712), (96, 885443715538058477568, 1180591620717411303424), (128, 1180591620717411303424, 2361183241434822606848), (0, 8, 4722366482869645213696), (512, 4722366482869645213696, 9444732965739290427392), (1024, 9444732965739290427392, 18889465931478580854784), (2048, 18889465931478580854784, 37778931862957161709568), (0, 16, 75557863725914323419136), (0, 8, 151115727451828646838272), (16384, 151115727451828646838272, 302231454903657293676544), (45312, 417929433733963601412096, 604462909807314587353088), (65536, 604462909807314587353088, 1208925819614629174706176), (196610, 1208944266358702884257792, 2417851639229258349412352), (524287, 64, 4835703278458516698824704), (1048575, 7253554917687775048237056, 0)] (.q 0 (.q 1 (.q 2 (.q 3 (.q 4 (.q 5 (.q 6 (.q 7 (.q 8 (.q 9 (.q 10 (.q 11 (.q 12 (.q 13 (.q 14 (.q 15 (.l 16 (.l 17 (.l 18 (.q 19 (.l 20 .done)))))))))))))))))))))) (.n))))) (.n))) (.n))))) (.j [] 5069983430893274915849363259392 (.s (.n) (.s (.n) (.n))) (.j [] 41533304265877708110637983820939264 (.s (.n) (.s (.n) (.n))) (.s (.s (.n) (.lp [8] 6277101735386680763835747884832798137481327200493400752896 (.s (.j [123] 21226109557690375345432668993851752448 (.n) (.s (.n) (.n))) (.s (.s (.plan [(0, 2, 85070591730234615865843651857942052864), (1, 85070591730234615865843651857942052864, 170141183460469231731687303715884105728), (0, 256, 340282366920938463463374607431768211456), (6, 510423550381407695195061911147652317184, 680564733841876926926749214863536422912), (8, 680564733841876926926749214863536422912, 1361129467683753853853498429727072845824), (16, 1361129467683753853853498429727072845824, 2722258935367507707706996859454145691648), (32, 2722258935367507707706996859454145691648, 5444517870735015415413993718908291383296), (64, 5444517870735015415413993718908291383296, 10889035741470030830827987437816582766592), (128, 10889035741470030830827987437816582766592, 21778071482940061661655974875633165533184), (0, 2, 43556142965880123323311949751266331066368), (512, 43556142965880123323311949751266331066368, 87112285931760246646623899502532662132736), (0, 256, 174224571863520493293247799005065324265472), (3072, 261336857795280739939871698507597986398208, 348449143727040986586495598010130648530944), (4096, 348449143727040986586495598010130648530944, 696898287454081973172991196020261297061888), (8192, 696898287454081973172991196020261297061888, 1393796574908163946345982392040522594123776), (16384, 1393796574908163946345982392040522594123776, 2787593149816327892691964784081045188247552), (32768, 2787593149816327892691964784081045188247552, 5575186299632655785383929568162090376495104), (65536, 5575186299632655785383929568162090376495104, 11150372599265311570767859136324180752990208), (131072, 11150372599265311570767859136324180752990208, 22300745198530623141535718272648361505980416), (262400, 22322523270013563203197374247523994671513600, 44601490397061246283071436545296723011960832), (0, 0, 512), (2097151, 44601490397061246283071436545296723011961344, 0)] (.q 0 (.q 1 (.q 2 (.q 3 (.q 4 (.q 5 (.q 6 (.q 7 (.q 8 (.q 9 (.q 10 (.q 11 (.q 12 (.q 13 (.q 14 (.q 15 (.q 16 (.q 17 (.q 18 (.q 19 (.l 20 (.l 21 .done))))))))))))))))))))))) (.j [] 730661615684657336609276273485050916381942349824 (.s (.n) (.s (.n) (.n))) (.j [] 23944512075210847960390070456807222852532970817847296 (.s (.n) (.s (.plan [(0, 2, 5846006549323611672814739330865132078623730171904), (1, 5846006549323611672814739330865132078623730171904, 11692013098647223345629478661730264157247460343808), (0, 256, 23384026197294446691258957323460528314494920687616), (6, 35076039295941670036888435985190792471742381031424, 46768052394588893382517914646921056628989841375232), (8, 46768052394588893382517914646921056628989841375232, 93536104789177786765035829293842113257979682750464), (16, 93536104789177786765035829293842113257979682750464, 187072209578355573530071658587684226515959365500928), (32, 187072209578355573530071658587684226515959365500928, 374144419156711147060143317175368453031918731001856), (0, 8, 748288838313422294120286634350736906063837462003712), (128, 748288838313422294120286634350736906063837462003712, 1496577676626844588240573268701473812127674924007424), (256, 1496577676626844588240573268701473812127674924007424, 2993155353253689176481146537402947624255349848014848), (576, 3367299772410400323541289854578316077287268579016704, 5986310706507378352962293074805895248510699696029696), (2047, 512, 11972621413014756705924586149611790497021399392059392), (4095, 17958932119522135058886879224417685745532099088089088, 0)] (.q 0 (.q 1 (.q 2 (.q 3 (.q 4 (.q 5 (.q 6 (.q 7 (.q 8 (.q 9 (.q 10 (.q 11 (.l 12 .done)))))))))))))) (.n))) (.j [] 98055769372590857421522360565320564170605261020966420480 (.s (.n) (.s (.n) (.n))) (.n))))) (.n))))) (.s (.n) (.n)))))))))
set_option maxRecDepth 100000 in
theorem c13 (arg0 : Value) (K : Value → WP) (w : World) (h : s13 Tryz.prog arg0 K w) : Runs Tryz.prog 13 [arg0] K w :=
  runs_of_E wide (fn := Tryz.f13) (c := Tryz.f13.body.getD .skip) 193 A13 [arg0] w K Tryz.func13 (by kernel_rfl) (by kernel_rfl) (by kernel_rfl) (by kernel_rfl)
    (Eq.mp (by kernel_rfl : s13 Tryz.prog arg0 K w = E Tryz.prog (Tryz.f13.body.getD .skip) A13 (topK Tryz.prog K Tryz.f13.results) (fun i => (([arg0] : List Value)[i]?).getD undef) w) h)
theorem ct13 {arg0 : Value} {h : Hp} {post : Hp → Value → Prop} (hg : ∀ w0, Gs w0 h h [] (s13 Tryz.prog arg0 (RetP w0 h post))) : Ct Tryz.prog 13 [arg0] h post := Ct.of (sf := s13 Tryz.prog arg0) (c13 arg0) hg
theorem in13 {arg0 : Value} {S : WP} {K : Value → WP} (hg : G S (s13 Tryz.prog arg0 K)) : G S (Do Tryz.prog (vCall (.func (.func 13) #[] ⟨[]⟩) [arg0]) K) := Gs.into (args := [arg0]) (caps := []) (sf := s13 Tryz.prog arg0) (c13 arg0) hg

/- skewer/skewerref04.Print : names 0 g, 1 p, 2 g, 3 p, 5 out, 6 c, 7 s, 8 k -/
def s14 (P : Program) (arg0 arg1 : Value) (K : Value → WP) : WP :=
  Do P (V (Instr.box 39 arg0)) fun g1 =>
  Do P (V (Instr.box 44 arg1)) fun p2 =>
  Lp (α := Value × Value) (fun c3 s3 => Jk fun _ => -- out c
   Do P (V (Instr.fieldAt 44 p2 0)) fun t4_10 =>
   Do P (V (Instr.loadAt 33 t4_10)) fun t5_11 =>
   Do P (vBuiltin .len #[33] 3 [t5_11]) fun t6_12 =>
   Do P (V (binOp .lss 3 s3.2 t6_12)) fun t7_13 =>
   If t7_13 (
    Do P (V (Instr.fieldAt 44 p2 0)) fun t8_17 =>
    Do P (V (Instr.loadAt 33 t8_17)) fun t9_18 =>
    Do P (V (Instr.indexAt 33 t9_18 s3.2)) fun t10_20 =>
    Do P (V (Instr.loadAt 3 t10_20)) fun t11_21 =>
    Do P (vCall (.func (.func 39) #[] ⟨[]⟩) [t11_21]) fun t12_22 =>
    Do P (V (binOp .add 9 s3.1 t12_22)) fun t13_23 =>
    Do P (V (binOp .add 3 s3.2 (.int .i64 1))) fun t14_15 =>
    c3 (t13_23, t14_15)
   ) (
    Lp (α := Value × Value) (fun c15 s15 => Jk fun _ => -- out s
     Do P (V (binOp .lss 3 s15.2 (.int .i64 2))) fun t16_25 =>
     If t16_25 (
      Do P (V (binOp .add 9 s15.1 (.string ⟨#[47]⟩))) fun t17_29 =>
      Lp (α := Value × Value) (fun c18 s18 => Jk fun _ => -- out k
       Do P (V (Instr.fieldAt 44 p2 1)) fun t19_32 =>
       Do P (V (Instr.indexAt 42 t19_32 s15.2)) fun t20_33 =>
       Do P (V (Instr.loadAt 33 t20_33)) fun t21_34 =>
       Do P (vBuiltin .len #[33] 3 [t21_34]) fun t22_35 =>
       Do P (V (binOp .lss 3 s18.2 t22_35)) fun t23_36 =>
       If t23_36 (
        Do P (V (Instr.fieldAt 44 p2 1)) fun t24_41 =>
        Do P (V (Instr.indexAt 42 t24_41 s15.2)) fun t25_42 =>
        Do P (V (Instr.loadAt 33 t25_42)) fun t26_43 =>
        Do P (V (Instr.indexAt 33 t26_43 s18.2)) fun t27_45 =>
        Do P (V (Instr.loadAt 3 t27_45)) fun t28_46 =>
        Do P (vCall (.func (.func 40) #[] ⟨[]⟩) [t28_46]) fun t29_47 =>
        Do P (V (binOp .add 9 s18.1 t29_47)) fun t30_48 =>
        Do P (V (binOp .add 3 s18.2 (.int .i64 1))) fun t31_38 =>
        c18 (t30_48, t31_38)
       ) (
        Do P (V (binOp .add 3 s15.2 (.int .i64 1))) fun t32_27 =>
        c15 (s18.1, t32_27)
       )
      ) (t17_29, (.int .i64 0))
     ) (
      Dr <|
      Qk P (V (binOp .add 9 s15.1 (.string ⟨#[47]⟩))) fun C33 t33_50 =>
      Qk P (V (Instr.fieldAt 44 p2 2)) fun C34 t34_51 =>
      Qk P (V (Instr.loadAt 3 t34_51)) fun C35 t35_52 =>
      Qk P (V (Instr.fieldAt 44 p2 3)) fun C36 t36_56 =>
      Qk P (V (Instr.loadAt 3 t36_56)) fun C37 t37_57 =>
      Do P (vCall (.func (.func 40) #[] ⟨[]⟩) [t35_52]) fun t38_53 =>
      With C37 <|
      With C36 <|
      With C33 <|
      Qk P (V (binOp .add 9 t33_50 t38_53)) fun C39 t39_54 =>
      Qk P (V (binOp .add 9 t39_54 (.string ⟨#[47]⟩))) fun C40 t40_55 =>
      Do P (vCall (.func (.func 40) #[] ⟨[]⟩) [t37_57]) fun t41_58 =>
      With C40 <|
      With C39 <|
      With C33 <|
      Qk P (V (binOp .add 9 t40_55 t41_58)) fun C42 t42_59 =>
      K t42_59
     )
    ) (s3.1, (.int .i64 0))
   )
  ) ((.string ⟨#[]⟩), (.int .i64 0))
def A14 : Ann := .s (.n) (.s (.n) (.s (.s (.n) (.lp [5, 6] 16776800 (.s (.s (.n) (.s (.n) (.n))) (.s (.n) (.n))))) (.s (.s (.n) (.lp [5, 7] 562949936644512 (.s (.s (.n) (.s (.n) (.n))) (.s (.s (.n) (.s (.n) (.lp [5, 8] 562948879679776 (.s (.s (.n) (.s (.n) (.n))) (.s (.n) (.n)))))) (.n))))) (.s (.plan [(0, 32, 562949953421312), (1, 562949953421312, 1125899906842624), (0, 8, 2251799813685248), (4, 2251799813685248, 4503599627370496), (8, 4503599627370496, 9007199254740992), (18, 10133099161583616, 18014398509481984), (32, 18014398509481984, 36028797018963968), (0, 8, 72057594037927936), (128, 72057594037927936, 144115188075855872), (272, 144115188075855872, 288230376151711744), (576, 324259173170675712, 576460752303423488), (2047, 576460752303423488, 16)] (.q 0 (.q 1 (.q 2 (.q 3 (.q 7 (.q 8 (.l 4 (.q 5 (.q 6 (.l 9 (.q 10 (.q 11 .done))))))))))))) (.n)))))
set_option maxRecDepth 100000 in
theorem c14 (arg0 arg1 : Value) (K : Value → WP) (w : World) (h : s14 Tryz.prog arg0 arg1 K w) : Runs Tryz.prog 14 [arg0, arg1] K w :=
  runs_of_E wide (fn := Tryz.f14) (c := Tryz.f14.body.getD .skip) 60 A14 [arg0, arg1] w K Tryz.func14 (by kernel_rfl) (by kernel_rfl) (by kernel_rfl) (by kernel_rfl)
    (Eq.mp (by kernel_rfl : s14 Tryz.prog arg0 arg1 K w = E Tryz.prog (Tryz.f14.body.getD .skip) A14 (topK Tryz.prog K Tryz.f14.results) (fun i => (([arg0, arg1] : List Value)[i]?).getD undef) w) h)
theorem ct14 {arg0 arg1 : Value} {h : Hp} {post : Hp → Value → Prop} (hg : ∀ w0, Gs w0 h h [] (s14 Tryz.prog arg0 arg1 (RetP w0 h post))) : Ct Tryz.prog 14 [arg0, arg1] h post := Ct.of (sf := s14 Tryz.prog arg0 arg1) (c14 arg0 arg1) hg
theorem in14 {arg0 arg1 : Value} {S : WP} {K : Value → WP} (hg : G S (s14 Tryz.prog arg0 arg1 K)) : G S (Do Tryz.prog (vCall (.func (.func 14) #[] ⟨[]⟩) [arg0, arg1]) K) := Gs.into (args := [arg0, arg1]) (caps := []) (sf := s14 Tryz.prog arg0 arg1) (c14 arg0 arg1) hg

/- skewer/skewerref04.Made : names 0 g, 1 x, 2 g, 3 x, 5 p, 6 i, 7 c, 8 s, 9 k -/
def s15 (P : Program) (arg0 arg1 : Value) (K : Value → WP) : WP :=
  Do P (V (Instr.box 39 arg0)) fun g1 =>
  Do P (V (Instr.box 30 arg1)) fun x2 =>
  Do P (V (Instr.alloc 44 true (.tuple #[]))) fun t3_4 =>
  Jn (α := Value) (fun j4 => Jk fun _ => -- p
   Lp (α := Value) (fun c5 s5 => Jk fun _ => -- i
    Do P (V (binOp .lss 3 s5 (.int .i64 6))) fun t6_27 =>
    If t6_27 (
     Jn (α := Unit) (fun j7 => Jk fun _ => -- 
      Do P (V (binOp .add 3 s5 (.int .i64 1))) fun t8_29 =>
      c5 t8_29
     ) fun k7 =>
     Dr <|
     Qk P (V (Instr.fieldAt 30 x2 0)) fun C9 t9_31 =>
     Qk P (V (Instr.indexAt 25 t9_31 s5)) fun C10 t10_32 =>
     Qk P (V (Instr.loadAt 5 t10_32)) fun C11 t11_33 =>
     Qk P (V (convert 5 3 t11_33)) fun C12 t12_34 =>
     Qk P (V (Instr.fieldAt 39 g1 0)) fun C13 t13_35 =>
     Qk P (V (Instr.fieldAt 35 t13_35 0)) fun C14 t14_36 =>
     Qk P (V (Instr.loadAt 3 t14_36)) fun C15 t15_37 =>
     Qk P (V (binOp .add 3 t15_37 (.int .i64 1))) fun C16 t16_38 =>
     Qk P (V (binOp .rem 3 t12_34 t16_38)) fun C17 t17_39 =>
     Jn (α := Value) (fun j18 => Jk fun _ => -- t50
      If j18 (
       Dr <|
       Qk P (V (Instr.fieldAt 44 j4 0)) fun C19 t19_51 =>
       Qk P (V (Instr.loadAt 33 t19_51)) fun C20 t20_52 =>
       Qk P (V (Instr.fieldAt 30 x2 1)) fun C21 t21_55 =>
       Qk P (V (Instr.indexAt 25 t21_55 s5)) fun C22 t22_56 =>
       Qk P (V (Instr.loadAt 5 t22_56)) fun C23 t23_57 =>
       Qk P (V (convert 5 3 t23_57)) fun C24 t24_58 =>
       Qk P (V (Instr.fieldAt 39 g1 1)) fun C25 t25_59 =>
       Qk P (V (Instr.loadAt 36 t25_59)) fun C26 t26_60 =>
       Qk P (vBuiltin .len #[36] 3 [t26_60]) fun C27 t27_61 =>
       Qk P (V (binOp .rem 3 t24_58 t27_61)) fun C28 t28_62 =>
       Qk P (V (binOp .mul 3 (.int .i64 2) t28_62)) fun C29 t29_63 =>
       Qk P (V (binOp .add 3 (.int .i64 1) t29_63)) fun C30 t30_64 =>
       Qk P (V (binOp .rem 3 s5 (.int .i64 2))) fun C31 t31_66 =>
       Qk P (V (binOp .add 3 t30_64 t31_66)) fun C32 t32_67 =>
       Qk P (V (Instr.indexAt 33 t20_52 t17_39)) fun C33 t33_68 =>
       Do P (U (Instr.storeAt 3 t33_68 t32_67)) fun t34_x =>
       k7 ()
      ) (
       k7 ()
      )
     ) fun k18 =>
     Do P (V (Instr.fieldAt 39 g1 0)) fun t35_41 =>
     Do P (V (Instr.fieldAt 35 t35_41 0)) fun t36_42 =>
     Do P (V (Instr.loadAt 3 t36_42)) fun t37_43 =>
     Do P (V (binOp .lss 3 t17_39 t37_43)) fun t38_44 =>
     Gd t38_44 true (
      Do P (V (Instr.fieldAt 39 g1 1)) fun t39_46 =>
      Do P (V (Instr.loadAt 36 t39_46)) fun t40_47 =>
      Do P (vBuiltin .len #[36] 3 [t40_47]) fun t41_48 =>
      Do P (V (binOp .gtr 3 t41_48 (.int .i64 0))) fun t42_49 =>
      k18 t42_49
     ) (
      k18 (.bool false)
     )
    ) (
     Lp (α := Value) (fun c43 s43 => Jk fun _ => -- s
      Do P (V (binOp .lss 3 s43 (.int .i64 2))) fun t44_70 =>
      If t44_70 (
       Do P (V (Instr.fieldAt 39 g1 1)) fun t45_74 =>
       Do P (V (Instr.loadAt 36 t45_74)) fun t46_75 =>
       Do P (vBuiltin .len #[36] 3 [t46_75]) fun t47_76 =>
       Do P (V (Instr.makeSlice 33 t47_76 t47_76)) fun t48_77 =>
       Do P (V (Instr.fieldAt 44 j4 1)) fun t49_78 =>
       Do P (V (Instr.indexAt 42 t49_78 s43)) fun t50_79 =>
       Do P (U (Instr.storeAt 33 t50_79 t48_77)) fun t51_x =>
       Lp (α := Value) (fun c52 s52 => Jk fun _ => -- k
        Jn (α := Value) (fun j53 => Jk fun _ => -- t88
         If j53 (
          Jn (α := Unit) (fun j54 => Jk fun _ => -- 
           Do P (V (binOp .add 3 s52 (.int .i64 1))) fun t55_90 =>
           c52 t55_90
          ) fun k54 =>
          Do P (V (Instr.fieldAt 39 g1 1)) fun t56_91 =>
          Do P (V (Instr.loadAt 36 t56_91)) fun t57_92 =>
          Do P (V (Instr.indexAt 36 t57_92 s52)) fun t58_94 =>
          Do P (V (Instr.fieldAt 59 t58_94 2)) fun t59_95 =>
          Do P (V (Instr.loadAt 4 t59_95)) fun t60_96 =>
          If t60_96 (
           Dr <|
           Qk P (V (Instr.fieldAt 44 j4 1)) fun C61 t61_98 =>
           Qk P (V (Instr.indexAt 42 t61_98 s43)) fun C62 t62_99 =>
           Qk P (V (Instr.loadAt 33 t62_99)) fun C63 t63_100 =>
           Qk P (V (binOp .mul 3 (.int .i64 2) s43)) fun C64 t64_103 =>
           Qk P (V (binOp .add 3 t64_103 s52)) fun C65 t65_105 =>
           Qk P (V (Instr.fieldAt 30 x2 2)) fun C66 t66_106 =>
           Qk P (V (Instr.indexAt 28 t66_106 t65_105)) fun C67 t67_107 =>
           Qk P (V (Instr.loadAt 5 t67_107)) fun C68 t68_108 =>
           Qk P (V (convert 5 3 t68_108)) fun C69 t69_109 =>
           Qk P (V (binOp .rem 3 t69_109 (.int .i64 3))) fun C70 t70_110 =>
           Qk P (V (Instr.indexAt 33 t63_100 s52)) fun C71 t71_111 =>
           Do P (U (Instr.storeAt 3 t71_111 t70_110)) fun t72_x =>
           Do P (V (binOp .mul 3 (.int .i64 2) s43)) fun t73_113 =>
           Do P (V (binOp .add 3 t73_113 s52)) fun t74_115 =>
           Do P (V (Instr.fieldAt 30 x2 2)) fun t75_116 =>
           Do P (V (Instr.indexAt 28 t75_116 t74_115)) fun t76_117 =>
           Do P (V (Instr.loadAt 5 t76_117)) fun t77_118 =>
           Do P (V (binOp .gtr 5 t77_118 (.int .u8 250))) fun t78_119 =>
           If t78_119 (
            Do P (V (Instr.fieldAt 44 j4 1)) fun t79_121 =>
            Do P (V (Instr.indexAt 42 t79_121 s43)) fun t80_122 =>
            Do P (V (Instr.loadAt 33 t80_122)) fun t81_123 =>
            Do P (V (Instr.indexAt 33 t81_123 s52)) fun t82_125 =>
            Do P (U (Instr.storeAt 3 t82_125 (.int .i64 8))) fun t83_x =>
            k54 ()
           ) (
            k54 ()
           )
          ) (
           k54 ()
          )
         ) (
          Do P (V (binOp .add 3 s43 (.int .i64 1))) fun t84_72 =>
          c43 t84_72
         )
        ) fun k53 =>
        Do P (V (Instr.fieldAt 39 g1 1)) fun t85_81 =>
        Do P (V (Instr.loadAt 36 t85_81)) fun t86_82 =>
        Do P (vBuiltin .len #[36] 3 [t86_82]) fun t87_83 =>
        Do P (V (binOp .lss 3 s52 t87_83)) fun t88_84 =>
        Gd t88_84 true (
         Do P (V (binOp .lss 3 s52 (.int .i64 2))) fun t89_87 =>
         k53 t89_87
        ) (
         k53 (.bool false)
        )
       ) (.int .i64 0)
      ) (
       Do P (V (Instr.loadAt 44 j4)) fun t90_126 =>
       Do P (U (Instr.storeAt 44 t3_4 t90_126)) fun t91_x =>
       RetC P 44 t3_4 K
      )
     ) (.int .i64 0)
    )
   ) (.int .i64 0)
  ) fun k4 =>
  Dr <|
  Qk P (V (Instr.fieldAt 39 g1 0)) fun C92 t92_10 =>
  Qk P (V (Instr.fieldAt 35 t92_10 0)) fun C93 t93_11 =>
  Qk P (V (Instr.loadAt 3 t93_11)) fun C94 t94_12 =>
  Qk P (V (Instr.fieldAt 30 x2 3)) fun C95 t95_14 =>
  Qk P (V (Instr.loadAt 5 t95_14)) fun C96 t96_15 =>
  Qk P (V (convert 5 3 t96_15)) fun C97 t97_16 =>
  Qk P (V (Instr.fieldAt 39 g1 2)) fun C98 t98_17 =>
  Qk P (V (Instr.loadAt 3 t98_17)) fun C99 t99_18 =>
  Qk P (V (binOp .shl 3 (.int .i64 1) t99_18)) fun C100 t100_19 =>
  Qk P (V (binOp .rem 3 t97_16 t100_19)) fun C101 t101_20 =>
  Qk P (V (Instr.fieldAt 30 x2 4)) fun C102 t102_21 =>
  Qk P (V (Instr.loadAt 5 t102_21)) fun C103 t103_22 =>
  Qk P (V (binOp .rem 5 t103_22 (.int .u8 2))) fun C104 t104_23 =>
  Qk P (V (convert 5 3 t104_23)) fun C105 t105_24 =>
  Or2 (
   Do P (V (Instr.makeSlice 33 t94_12 t94_12)) fun t106_13 =>
   With C105 <|
   With C104 <|
   With C103 <|
   With C102 <|
   With C101 <|
   With C100 <|
   With C99 <|
   With C98 <|
   With C97 <|
   With C96 <|
   With C95 <|
   Qk P (vBuild 44 [(0, t106_13), (2, t101_20), (3, t105_24)]) fun C107 t107_25 =>
   Do P (V (Instr.alloc 44 true (.tuple #[]))) fun p108 =>
   With C107 <|
   With C105 <|
   With C104 <|
   With C103 <|
   With C102 <|
   With C101 <|
   With C100 <|
   With C99 <|
   With C98 <|
   With C97 <|
   With C96 <|
   With C95 <|
   With C94 <|
   With C93 <|
   With C92 <|
   Do P (U (Instr.storeAt 44 p108 t107_25)) fun t109_x =>
   k4 p108
  ) (
   Do P (V (Instr.alloc 44 true (.tuple #[]))) fun p110 =>
   With C105 <|
   With C104 <|
   With C103 <|
   With C102 <|
   With C101 <|
   With C100 <|
   With C99 <|
   With C98 <|
   With C97 <|
   With C96 <|
   With C95 <|
   With C94 <|
   With C93 <|
   With C92 <|
   Do P (V (Instr.makeSlice 33 t94_12 t94_12)) fun t111_13 =>
   With C105 <|
   With C104 <|
   With C103 <|
   With C102 <|
   With C101 <|
   With C100 <|
   With C99 <|
   With C98 <|
   With C97 <|
   With C96 <|
   With C95 <|
   Qk P (vBuild 44 [(0, t111_13), (2, t101_20), (3, t105_24)]) fun C112 t112_25 =>
   Do P (U (Instr.storeAt 44 p110 t112_25)) fun t113_x =>
   k4 p110
  )
def A15 : Ann := .s (.n) (.j [5] 67107872 (.plan [(0, 4, 1024), (1, 1024, 2048), (2, 2048, 4096), (4, 4096, 8192), (0, 8, 16384), (16, 16384, 32768), (32, 32768, 65536), (0, 4, 131072), (128, 131072, 262144), (256, 262144, 524288), (576, 589824, 1048576), (0, 8, 2097152), (2048, 2097152, 4194304), (4096, 4194304, 8388608), (8192, 8388608, 16777216), (17416, 17833984, 33554432), (0, 0, 32), (131071, 33554464, 0)] (.q 0 (.q 1 (.q 2 (.q 4 (.q 5 (.q 6 (.q 7 (.q 8 (.q 9 (.q 10 (.q 11 (.q 12 (.q 13 (.q 14 (.or (.l 3 (.q 15 (.l 16 (.l 17 .done)))) (.l 16 (.l 3 (.q 15 (.l 17 .done)))))))))))))))))))) (.s (.s (.n) (.lp [6] 590295810358638543040 (.s (.s (.n) (.s (.n) (.n))) (.j [] 590295810357631910016 (.s (.plan [(0, 64, 1073741824), (0, 8, 2147483648), (3, 3221225472, 4294967296), (4, 4294967296, 8589934592), (8, 8589934592, 17179869184), (0, 4, 34359738368), (32, 34359738368, 68719476736), (64, 68719476736, 137438953472), (128, 137438953472, 274877906944), (272, 292057776128, 549755813888), (1023, 549755813888, 128)] (.q 0 (.q 1 (.q 2 (.q 3 (.q 4 (.q 5 (.q 6 (.q 7 (.q 8 (.q 9 (.q 10 .done)))))))))))) (.j [50] 2250700302057472 (.n) (.s (.plan [(0, 32, 2251799813685248), (1, 2251799813685248, 4503599627370496), (0, 128, 9007199254740992), (0, 64, 18014398509481984), (0, 8, 36028797018963968), (24, 54043195528445952, 72057594037927936), (32, 72057594037927936, 144115188075855872), (64, 144115188075855872, 288230376151711744), (0, 4, 576460752303423488), (256, 576460752303423488, 1152921504606846976), (512, 1152921504606846976, 2305843009213693952), (1152, 2594073385365405696, 4611686018427387904), (2048, 4611686018427387904, 9223372036854775808), (4096, 9223372036854775808, 18446744073709551616), (0, 64, 36893488147419103232), (16384, 36893488147419103232, 73786976294838206464), (40960, 92233720368547758080, 147573952589676412928), (131071, 13510798882111488, 295147905179352825856), (262143, 442721857769029238784, 0)] (.q 0 (.q 1 (.q 2 (.q 3 (.q 4 (.q 5 (.q 6 (.q 7 (.q 8 (.q 9 (.q 10 (.q 11 (.q 12 (.q 13 (.q 14 (.q 15 (.q 16 (.q 17 (.l 18 .done)))))))))))))))))))) (.n)))) (.n))))) (.s (.s (.n) (.lp [8] 85070591730234615275547841499236401920 (.s (.s (.n) (.s (.n) (.n))) (.s (.s (.n) (.s (.n) (.lp [9] 85070591730233406940024037228767347200 (.s (.j [88] 617761093823075508274855936 (.n) (.s (.n) (.n))) (.j [] 85070591727758735787272891308143804416 (.s (.n) (.s (.s (.plan [(0, 256, 158456325028528675187087900672), (0, 32, 316912650057057350374175801344), (3, 475368975085586025561263702016, 633825300114114700748351602688), (4, 633825300114114700748351602688, 1267650600228229401496703205376), (0, 512, 2535301200456458802993406410752), (0, 256, 5070602400912917605986812821504), (32, 5070602400912917605986812821504, 10141204801825835211973625643008), (0, 512, 20282409603651670423947251286016), (192, 30423614405477505635920876929024, 40564819207303340847894502572032), (0, 8, 81129638414606681695789005144064), (768, 121694457621910022543683507716096, 162259276829213363391578010288128), (1024, 162259276829213363391578010288128, 324518553658426726783156020576256), (2048, 324518553658426726783156020576256, 649037107316853453566312041152512), (4096, 649037107316853453566312041152512, 1298074214633706907132624082305024), (16383, 3802951800684688204490109616128, 2596148429267413814265248164610048), (32767, 3894222643901120721397872246915072, 0)] (.q 0 (.q 1 (.q 2 (.q 3 (.q 4 (.q 5 (.q 6 (.q 7 (.q 8 (.q 9 (.q 10 (.q 11 (.q 12 (.q 13 (.q 14 (.l 15 .done))))))))))))))))) (.s (.n) (.s (.n) (.n)))) (.n))) (.n)))))) (.n))))) (.s (.n) (.n)))))
set_option maxRecDepth 100000 in
theorem c15 (arg0 arg1 : Value) (K : Value → WP) (w : World) (h : s15 Tryz.prog arg0 arg1 K w) : Runs Tryz.prog 15 [arg0, arg1] K w :=
  runs_of_E wide (fn := Tryz.f15) (c := Tryz.f15.body.getD .skip) 127 A15 [arg0, arg1] w K Tryz.func15 (by kernel_rfl) (by kernel_rfl) (by kernel_rfl) (by kernel_rfl)
    (Eq.mp (by kernel_rfl : s15 Tryz.prog arg0 arg1 K w = E Tryz.prog (Tryz.f15.body.getD .skip) A15 (topK Tryz.prog K Tryz.f15.results) (fun i => (([arg0, arg1] : List Value)[i]?).getD undef) w) h)
theorem ct15 {arg0 arg1 : Value} {h : Hp} {post : Hp → Value → Prop} (hg : ∀ w0, Gs w0 h h [] (s15 Tryz.prog arg0 arg1 (RetP w0 h post))) : Ct Tryz.prog 15 [arg0, arg1] h post := Ct.of (sf := s15 Tryz.prog arg0 arg1) (c15 arg0 arg1) hg
theorem in15 {arg0 arg1 : Value} {S : WP} {K : Value → WP} (hg : G S (s15 Tryz.prog arg0 arg1 K)) : G S (Do Tryz.prog (vCall (.func (.func 15) #[] ⟨[]⟩) [arg0, arg1]) K) := Gs.into (args := [arg0, arg1]) (caps := []) (sf := s15 Tryz.prog arg0 arg1) (c15 arg0 arg1) hg

/- skewer/pos.Parse : names 0 g, 1 s, 2 g, 3 s, 6 l, 7 rights, 8 e, 9 side, 10 f, 11 p -/
def s16 (P : Program) (arg0 arg1 : Value) (K : Value → WP) : WP :=
  Do P (V (Instr.box 39 arg0)) fun g1 =>
  Do P (V (Instr.alloc 44 true (.tuple #[]))) fun t2_4 =>
  Do P (vCall (.func (.func 41) #[] ⟨[]⟩) [arg1, (.string ⟨#[47]⟩)]) fun t3_13 =>
  Jn (α := Value) (fun j4 => Jk fun _ => -- t21
   If j4 (
    Do P (vBuild 44 []) fun t5_22 =>
    Do P (U (Instr.storeAt 44 t2_4 t5_22)) fun t6_x =>
    RetC P 44 t2_4 fun r => K (.tuple #[r, (.int .i64 3)])
   ) (
    Do P (V (Instr.indexAt 46 t3_13 (.int .i64 3))) fun t7_25 =>
    Do P (V (Instr.loadAt 9 t7_25)) fun t8_26 =>
    Do P (vCall (.func (.func 43) #[] ⟨[]⟩) [t8_26]) fun t9_27 =>
    Do P (V (Instr.extract t9_27 0)) fun t10_28 =>
    Do P (V (Instr.extract t9_27 1)) fun t11_29 =>
    Do P (V (Instr.indexAt 46 t3_13 (.int .i64 4))) fun t12_32 =>
    Do P (V (Instr.loadAt 9 t12_32)) fun t13_33 =>
    Do P (vCall (.func (.func 43) #[] ⟨[]⟩) [t13_33]) fun t14_34 =>
    Do P (V (Instr.extract t14_34 0)) fun t15_35 =>
    Do P (V (Instr.extract t14_34 1)) fun t16_36 =>
    Jn (α := Value) (fun j17 => Jk fun _ => -- p
     Jn (α := Value) (fun j18 => Jk fun _ => -- t71
      If j18 (
       Do P (vBuild 44 []) fun t19_72 =>
       Do P (U (Instr.storeAt 44 t2_4 t19_72)) fun t20_x =>
       RetC P 44 t2_4 fun r => K (.tuple #[r, (.int .i64 3)])
      ) (
       Do P (V (Instr.loadAt 44 j17)) fun t21_73 =>
       Do P (U (Instr.storeAt 44 t2_4 t21_73)) fun t22_x =>
       RetC P 44 t2_4 fun r => K (.tuple #[r, (.int .i64 0)])
      )
     ) fun k18 =>
     Do P (V (EqG .neq 94 (.tmp 53) (.const .nilIface) t11_29 .nilIface)) fun t23_54 =>
     Gd t23_54 false (
      Do P (V (EqG .neq 94 (.tmp 56) (.const .nilIface) t16_36 .nilIface)) fun t24_57 =>
      Gd t24_57 false (
       Do P (V (Instr.loadAt 39 g1)) fun t25_60 =>
       Do P (V (Instr.loadAt 44 j17)) fun t26_61 =>
       Do P (vCall (.func (.func 19) #[] ⟨[]⟩) [t25_60, t26_61]) fun t27_62 =>
       Do P (V (Op.unary .not t27_62)) fun t28_63 =>
       Gd t28_63 false (
        Do P (V (Instr.loadAt 39 g1)) fun t29_66 =>
        Do P (V (Instr.loadAt 44 j17)) fun t30_67 =>
        Do P (vCall (.func (.func 31) #[] ⟨[]⟩) [t29_66, t30_67]) fun t31_68 =>
        Do P (V (EqG .neq 9 (.tmp 68) (.tmp 69) t31_68 arg1)) fun t32_70 =>
        k18 t32_70
       ) (
        k18 (.bool true)
       )
      ) (
       k18 (.bool true)
      )
     ) (
      k18 (.bool true)
     )
    ) fun k17 =>
    Dr <|
    Qk P (V (Instr.indexAt 46 t3_13 (.int .i64 0))) fun C33 t33_38 =>
    Qk P (V (Instr.loadAt 9 t33_38)) fun C34 t34_39 =>
    Qk P (V (Instr.indexAt 46 t3_13 (.int .i64 1))) fun C35 t35_42 =>
    Qk P (V (Instr.loadAt 9 t35_42)) fun C36 t36_43 =>
    Qk P (V (Instr.indexAt 46 t3_13 (.int .i64 2))) fun C37 t37_46 =>
    Qk P (V (Instr.loadAt 9 t37_46)) fun C38 t38_47 =>
    Or2 (
     Do P (vCall (.func (.func 44) #[] ⟨[]⟩) [t34_39]) fun t39_40 =>
     With C38 <|
     With C37 <|
     With C36 <|
     With C35 <|
     Or2 (
      Do P (vCall (.func (.func 45) #[] ⟨[]⟩) [t36_43]) fun t40_44 =>
      With C38 <|
      With C37 <|
      Or2 (
       Do P (vCall (.func (.func 45) #[] ⟨[]⟩) [t38_47]) fun t41_48 =>
       Qk P (vBuild 42 [(0, t40_44), (1, t41_48)]) fun C42 t42_49 =>
       Qk P (vBuild 44 [(0, t39_40), (1, t42_49), (2, t10_28), (3, t15_35)]) fun C43 t43_52 =>
       Do P (V (Instr.alloc 44 true (.tuple #[]))) fun p44 =>
       With C43 <|
       With C42 <|
       With C38 <|
       With C37 <|
       With C36 <|
       With C35 <|
       With C34 <|
       With C33 <|
       Do P (U (Instr.storeAt 44 p44 t43_52)) fun t45_x =>
       k17 p44
      ) (
       Do P (V (Instr.alloc 44 true (.tuple #[]))) fun p46 =>
       With C38 <|
       With C37 <|
       With C36 <|
       With C35 <|
       With C34 <|
       With C33 <|
       Do P (vCall (.func (.func 45) #[] ⟨[]⟩) [t38_47]) fun t47_48 =>
       Qk P (vBuild 42 [(0, t40_44), (1, t47_48)]) fun C48 t48_49 =>
       Qk P (vBuild 44 [(0, t39_40), (1, t48_49), (2, t10_28), (3, t15_35)]) fun C49 t49_52 =>
       Do P (U (Instr.storeAt 44 p46 t49_52)) fun t50_x =>
       k17 p46
      )
     ) (
      Do P (V (Instr.alloc 44 true (.tuple #[]))) fun p51 =>
      With C38 <|
      With C37 <|
      With C36 <|
      With C35 <|
      With C34 <|
      With C33 <|
      Do P (vCall (.func (.func 45) #[] ⟨[]⟩) [t36_43]) fun t52_44 =>
      With C38 <|
      With C37 <|
      Do P (vCall (.func (.func 45) #[] ⟨[]⟩) [t38_47]) fun t53_48 =>
      Qk P (vBuild 42 [(0, t52_44), (1, t53_48)]) fun C54 t54_49 =>
      Qk P (vBuild 44 [(0, t39_40), (1, t54_49), (2, t10_28), (3, t15_35)]) fun C55 t55_52 =>
      Do P (U (Instr.storeAt 44 p51 t55_52)) fun t56_x =>
      k17 p51
     )
    ) (
     Do P (V (Instr.alloc 44 true (.tuple #[]))) fun p57 =>
     With C38 <|
     With C37 <|
     With C36 <|
     With C35 <|
     With C34 <|
     With C33 <|
     Do P (vCall (.func (.func 44) #[] ⟨[]⟩) [t34_39]) fun t58_40 =>
     With C38 <|
     With C37 <|
     With C36 <|
     With C35 <|
     Do P (vCall (.func (.func 45) #[] ⟨[]⟩) [t36_43]) fun t59_44 =>
     With C38 <|
     With C37 <|
     Do P (vCall (.func (.func 45) #[] ⟨[]⟩) [t38_47]) fun t60_48 =>
     Qk P (vBuild 42 [(0, t59_44), (1, t60_48)]) fun C61 t61_49 =>
     Qk P (vBuild 44 [(0, t58_40), (1, t61_49), (2, t10_28), (3, t15_35)]) fun C62 t62_52 =>
     Do P (U (Instr.storeAt 44 p57 t62_52)) fun t63_x =>
     k17 p57
    )
   )
  ) fun k4 =>
  Do P (V (Instr.loadAt 39 g1)) fun t64_14 =>
  Do P (vCall (.func (.func 42) #[] ⟨[]⟩) [t64_14]) fun t65_15 =>
  Do P (V (Op.unary .not t65_15)) fun t66_16 =>
  Gd t66_16 false (
   Do P (vBuiltin .len #[46] 3 [t3_13]) fun t67_19 =>
   Do P (V (EqG .neq 3 (.tmp 19) (.const (.int .i64 5)) t67_19 (.int .i64 5))) fun t68_20 =>
   k4 t68_20
  ) (
   k4 (.bool true)
  )
def A16 : Ann := .s (.n) (.s (.n) (.s (.j [21] 4177920 (.n) (.s (.s (.n) (.n)) (.n))) (.s (.n) (.s (.n) (.j [11] 9007061815789568 (.plan [(0, 64, 137438953472), (1, 137438953472, 274877906944), (2, 274877906944, 549755813888), (4, 549755813888, 1099511627776), (0, 64, 2199023255552), (16, 2199023255552, 4398046511104), (32, 4398046511104, 8796093022208), (72, 8796093022208, 17592186044416), (0, 64, 35184372088832), (256, 35184372088832, 70368744177664), (512, 70368744177664, 140737488355328), (1152, 140737488355328, 281474976710656), (2176, 299067162755072, 562949953421312), (0, 128, 1125899906842624), (0, 512, 2251799813685248), (28680, 3941749185576960, 4503599627370496), (0, 0, 2048), (131071, 4503599627372544, 0)] (.q 0 (.q 1 (.q 2 (.q 4 (.q 5 (.q 6 (.q 8 (.q 9 (.q 10 (.q 13 (.q 14 (.or (.l 3 (.or (.l 7 (.or (.l 11 (.q 12 (.q 15 (.l 16 (.l 17 .done))))) (.l 16 (.l 11 (.q 12 (.q 15 (.l 17 .done))))))) (.l 16 (.l 7 (.l 11 (.q 12 (.q 15 (.l 17 .done)))))))) (.l 16 (.l 3 (.l 7 (.l 11 (.q 12 (.q 15 (.l 17 .done)))))))))))))))))))) (.s (.j [71] 4722357475670390472704 (.n) (.s (.s (.n) (.n)) (.n))) (.s (.n) (.n))))))))
set_option maxRecDepth 100000 in
theorem c16 (arg0 arg1 : Value) (K : Value → WP) (w : World) (h : s16 Tryz.prog arg0 arg1 K w) : Runs Tryz.prog 16 [arg0, arg1] K w :=
  runs_of_E wide (fn := Tryz.f16) (c := Tryz.f16.body.getD .skip) 74 A16 [arg0, arg1] w K Tryz.func16 (by kernel_rfl) (by kernel_rfl) (by kernel_rfl) (by kernel_rfl)
    (Eq.mp (by kernel_rfl : s16 Tryz.prog arg0 arg1 K w = E Tryz.prog (Tryz.f16.body.getD .skip) A16 (topK Tryz.prog K Tryz.f16.results) (fun i => (([arg0, arg1] : List Value)[i]?).getD undef) w) h)
theorem ct16 {arg0 arg1 : Value} {h : Hp} {post : Hp → Value → Prop} (hg : ∀ w0, Gs w0 h h [] (s16 Tryz.prog arg0 arg1 (RetP w0 h post))) : Ct Tryz.prog 16 [arg0, arg1] h post := Ct.of (sf := s16 Tryz.prog arg0 arg1) (c16 arg0 arg1) hg
theorem in16 {arg0 arg1 : Value} {S : WP} {K : Value → WP} (hg : G S (s16 Tryz.prog arg0 arg1 K)) : G S (Do Tryz.prog (vCall (.func (.func 16) #[] ⟨[]⟩) [arg0, arg1]) K) := Gs.into (args := [arg0, arg1]) (caps := []) (sf := s16 Tryz.prog arg0 arg1) (c16 arg0 arg1) hg

/- skewer/skewerref04.Parse : names 0 g, 1 s, 2 g, 3 s, 5 bad, 6 n, 7 k, 8 p, 9 c, 10 x, 11 i, 12 i -/
def s17 (P : Program) (arg0 arg1 : Value) (K : Value → WP) : WP :=
  Do P (V (Instr.box 39 arg0)) fun g1 =>
  Do P (V (Instr.alloc 51 true (.tuple #[]))) fun t2_4 =>
  Do P (vBuild 51 [(1, (.int .i64 3))]) fun t3_13 =>
  Do P (V (Instr.alloc 51 true (.tuple #[]))) fun bad4 =>
  Do P (U (Instr.storeAt 51 bad4 t3_13)) fun t5_x =>
  Do P (V (Instr.fieldAt 39 g1 0)) fun t6_14 =>
  Do P (V (Instr.fieldAt 35 t6_14 0)) fun t7_15 =>
  Do P (V (Instr.loadAt 3 t7_15)) fun t8_16 =>
  Do P (V (Instr.fieldAt 39 g1 1)) fun t9_17 =>
  Do P (V (Instr.loadAt 36 t9_17)) fun t10_18 =>
  Do P (vBuiltin .len #[36] 3 [t10_18]) fun t11_19 =>
  Jn (α := Value) (fun j12 => Jk fun _ => -- t37
   If j12 (
    Do P (V (Instr.loadAt 51 bad4)) fun t13_38 =>
    Do P (U (Instr.storeAt 51 t2_4 t13_38)) fun t14_x =>
    RetC P 51 t2_4 K
   ) (
    Do P (vBuiltin .len #[9] 3 [arg1]) fun t15_41 =>
    Do P (V (binOp .sub 3 t15_41 (.int .i64 1))) fun t16_42 =>
    Do P (V (Instr.index 9 arg1 t16_42)) fun t17_43 =>
    Do P (vCall (.func (.func 46) #[] ⟨[]⟩) [t17_43]) fun t18_44 =>
    Do P (vBuild 44 [(3, t18_44)]) fun t19_45 =>
    Do P (V (Instr.alloc 44 true (.tuple #[]))) fun p20 =>
    Do P (U (Instr.storeAt 44 p20 t19_45)) fun t21_x =>
    Lp (α := Value) (fun c22 s22 => Jk fun _ => -- c
     Do P (V (binOp .lss 3 s22 t8_16)) fun t23_48 =>
     If t23_48 (
      Jn (α := Value) (fun j24 => Jk fun _ => -- x
       Jn (α := Value) (fun j25 => Jk fun _ => -- x
        Jn (α := Value) (fun j26 => Jk fun _ => -- x
         Do P (V (Instr.fieldAt 44 p20 0)) fun t27_89 =>
         Do P (V (Instr.loadAt 33 t27_89)) fun t28_90 =>
         Do P (vBuildSlice 33 1 [(0, j26)]) fun t29_92 =>
         Do P (vBuiltin .append #[33, 33] 33 [t28_90, t29_92]) fun t30_93 =>
         Do P (V (Instr.fieldAt 44 p20 0)) fun t31_94 =>
         Do P (U (Instr.storeAt 33 t31_94 t30_93)) fun t32_x =>
         Do P (V (binOp .add 3 s22 (.int .i64 1))) fun t33_50 =>
         c22 t33_50
        ) fun k26 =>
        Jn (α := Value) (fun j34 => Jk fun _ => -- t81
         If j34 (
          Do P (V (Instr.index 9 arg1 s22)) fun t35_84 =>
          Do P (V (binOp .sub 5 t35_84 (.int .u8 97))) fun t36_85 =>
          Do P (V (convert 5 3 t36_85)) fun t37_86 =>
          Do P (V (binOp .mul 3 (.int .i64 2) t37_86)) fun t38_87 =>
          Do P (V (binOp .add 3 (.int .i64 2) t38_87)) fun t39_88 =>
          k26 t39_88
         ) (
          k26 j25
         )
        ) fun k34 =>
        Do P (V (Instr.index 9 arg1 s22)) fun t40_74 =>
        Do P (V (binOp .geq 5 t40_74 (.int .u8 97))) fun t41_75 =>
        Gd t41_75 true (
         Do P (V (Instr.index 9 arg1 s22)) fun t42_79 =>
         Do P (V (binOp .leq 5 t42_79 (.int .u8 122))) fun t43_80 =>
         k34 t43_80
        ) (
         k34 (.bool false)
        )
       ) fun k25 =>
       Jn (α := Value) (fun j44 => Jk fun _ => -- t64
        If j44 (
         Do P (V (Instr.index 9 arg1 s22)) fun t45_67 =>
         Do P (V (binOp .sub 5 t45_67 (.int .u8 65))) fun t46_68 =>
         Do P (V (convert 5 3 t46_68)) fun t47_69 =>
         Do P (V (binOp .mul 3 (.int .i64 2) t47_69)) fun t48_70 =>
         Do P (V (binOp .add 3 (.int .i64 1) t48_70)) fun t49_71 =>
         k25 t49_71
        ) (
         k25 j24
        )
       ) fun k44 =>
       Do P (V (Instr.index 9 arg1 s22)) fun t50_57 =>
       Do P (V (binOp .geq 5 t50_57 (.int .u8 65))) fun t51_58 =>
       Gd t51_58 true (
        Do P (V (Instr.index 9 arg1 s22)) fun t52_62 =>
        Do P (V (binOp .leq 5 t52_62 (.int .u8 90))) fun t53_63 =>
        k44 t53_63
       ) (
        k44 (.bool false)
       )
      ) fun k24 =>
      Do P (V (Instr.index 9 arg1 s22)) fun t54_53 =>
      Do P (V (EqG .eql 5 (.tmp 53) (.const (.int .u8 46)) t54_53 (.int .u8 46))) fun t55_54 =>
      If t55_54 (
       k24 (.int .i64 0)
      ) (
       k24 (.int .i64 99)
      )
     ) (
      Lp (α := Value) (fun c56 s56 => Jk fun _ => -- i
       Do P (V (binOp .lss 3 s56 t11_19)) fun t57_97 =>
       If t57_97 (
        Dr <|
        Qk P (V (Instr.fieldAt 44 p20 1)) fun C58 t58_100 =>
        Qk P (V (Instr.indexAt 42 t58_100 (.int .i64 0))) fun C59 t59_101 =>
        Qk P (V (Instr.loadAt 33 t59_101)) fun C60 t60_102 =>
        Qk P (V (binOp .add 3 t8_16 (.int .i64 1))) fun C61 t61_105 =>
        Qk P (V (binOp .add 3 t61_105 s56)) fun C62 t62_107 =>
        Qk P (V (Instr.index 9 arg1 t62_107)) fun C63 t63_108 =>
        Qk P (V (Instr.fieldAt 44 p20 1)) fun C64 t64_112 =>
        Do P (vCall (.func (.func 46) #[] ⟨[]⟩) [t63_108]) fun t65_109 =>
        With C64 <|
        With C60 <|
        With C59 <|
        With C58 <|
        Do P (vBuildSlice 33 1 [(0, t65_109)]) fun t66_110 =>
        With C64 <|
        With C60 <|
        With C59 <|
        With C58 <|
        Do P (vBuiltin .append #[33, 33] 33 [t60_102, t66_110]) fun t67_111 =>
        With C64 <|
        Qk P (V (Instr.indexAt 42 t64_112 (.int .i64 0))) fun C68 t68_113 =>
        Do P (U (Instr.storeAt 33 t68_113 t67_111)) fun t69_x =>
        Dr <|
        Qk P (V (Instr.fieldAt 44 p20 1)) fun C70 t70_114 =>
        Qk P (V (Instr.indexAt 42 t70_114 (.int .i64 1))) fun C71 t71_115 =>
        Qk P (V (Instr.loadAt 33 t71_115)) fun C72 t72_116 =>
        Qk P (V (binOp .add 3 t8_16 t11_19)) fun C73 t73_120 =>
        Qk P (V (binOp .add 3 t73_120 (.int .i64 2))) fun C74 t74_121 =>
        Qk P (V (binOp .add 3 t74_121 s56)) fun C75 t75_123 =>
        Qk P (V (Instr.index 9 arg1 t75_123)) fun C76 t76_124 =>
        Qk P (V (Instr.fieldAt 44 p20 1)) fun C77 t77_128 =>
        Do P (vCall (.func (.func 46) #[] ⟨[]⟩) [t76_124]) fun t78_125 =>
        With C77 <|
        With C72 <|
        With C71 <|
        With C70 <|
        Do P (vBuildSlice 33 1 [(0, t78_125)]) fun t79_126 =>
        With C77 <|
        With C72 <|
        With C71 <|
        With C70 <|
        Do P (vBuiltin .append #[33, 33] 33 [t72_116, t79_126]) fun t80_127 =>
        With C77 <|
        Qk P (V (Instr.indexAt 42 t77_128 (.int .i64 1))) fun C81 t81_129 =>
        Do P (U (Instr.storeAt 33 t81_129 t80_127)) fun t82_x =>
        Do P (V (binOp .add 3 s56 (.int .i64 1))) fun t83_99 =>
        c56 t83_99
       ) (
        Do P (V (binOp .mul 3 (.int .i64 2) t11_19)) fun t84_132 =>
        Do P (V (binOp .add 3 t8_16 t84_132)) fun t85_133 =>
        Do P (V (binOp .add 3 t85_133 (.int .i64 3))) fun t86_134 =>
        Lp (α := Value) (fun c87 s87 => Jk fun _ => -- i
         Do P (vBuiltin .len #[9] 3 [arg1]) fun t88_137 =>
         Do P (V (binOp .sub 3 t88_137 (.int .i64 2))) fun t89_138 =>
         Do P (V (binOp .lss 3 s87 t89_138)) fun t90_139 =>
         If t90_139 (
          Dr <|
          Qk P (V (Instr.fieldAt 44 p20 2)) fun C91 t91_142 =>
          Qk P (V (Instr.loadAt 3 t91_142)) fun C92 t92_143 =>
          Qk P (V (binOp .mul 3 (.int .i64 10) t92_143)) fun C93 t93_144 =>
          Qk P (V (Instr.index 9 arg1 s87)) fun C94 t94_147 =>
          Do P (vCall (.func (.func 46) #[] ⟨[]⟩) [t94_147]) fun t95_148 =>
          With C93 <|
          With C92 <|
          With C91 <|
          Qk P (V (binOp .add 3 t93_144 t95_148)) fun C96 t96_149 =>
          Qk P (V (Instr.fieldAt 44 p20 2)) fun C97 t97_150 =>
          Do P (U (Instr.storeAt 3 t97_150 t96_149)) fun t98_x =>
          Do P (V (binOp .add 3 s87 (.int .i64 1))) fun t99_141 =>
          c87 t99_141
         ) (
          Jn (α := Value) (fun j100 => Jk fun _ => -- t161
           If j100 (
            Do P (V (Instr.loadAt 51 bad4)) fun t101_162 =>
            Do P (U (Instr.storeAt 51 t2_4 t101_162)) fun t102_x =>
            RetC P 51 t2_4 K
           ) (
            Do P (V (Instr.loadAt 44 p20)) fun t103_163 =>
            Do P (vBuild 51 [(0, t103_163)]) fun t104_164 =>
            Do P (U (Instr.storeAt 51 t2_4 t104_164)) fun t105_x =>
            RetC P 51 t2_4 K
           )
          ) fun k100 =>
          Do P (V (Instr.loadAt 39 g1)) fun t106_151 =>
          Do P (V (Instr.loadAt 44 p20)) fun t107_152 =>
          Do P (vCall (.func (.func 28) #[] ⟨[]⟩) [t106_151, t107_152]) fun t108_153 =>
          Do P (V (Op.unary .not t108_153)) fun t109_154 =>
          Gd t109_154 false (
           Do P (V (Instr.loadAt 39 g1)) fun t110_156 =>
           Do P (V (Instr.loadAt 44 p20)) fun t111_157 =>
           Do P (vCall (.func (.func 14) #[] ⟨[]⟩) [t110_156, t111_157]) fun t112_158 =>
           Do P (V (EqG .neq 9 (.tmp 158) (.tmp 159) t112_158 arg1)) fun t113_160 =>
           k100 t113_160
          ) (
           k100 (.bool true)
          )
         )
        ) t86_134
       )
      ) (.int .i64 0)
     )
    ) (.int .i64 0)
   )
  ) fun k12 =>
  Do P (vBuiltin .len #[9] 3 [arg1]) fun t114_21 =>
  Do P (V (binOp .mul 3 (.int .i64 2) t11_19)) fun t115_24 =>
  Do P (V (binOp .add 3 t8_16 t115_24)) fun t116_25 =>
  Do P (V (binOp .add 3 t116_25 (.int .i64 6))) fun t117_26 =>
  Do P (V (binOp .lss 3 t114_21 t117_26)) fun t118_27 =>
  Gd t118_27 false (
   Do P (vBuiltin .len #[9] 3 [arg1]) fun t119_30 =>
   Do P (V (binOp .mul 3 (.int .i64 2) t11_19)) fun t120_33 =>
   Do P (V (binOp .add 3 t8_16 t120_33)) fun t121_34 =>
   Do P (V (binOp .add 3 t121_34 (.int .i64 7))) fun t122_35 =>
   Do P (V (binOp .gtr 3 t119_30 t122_35)) fun t123_36 =>
   k12 t123_36
  ) (
   k12 (.bool true)
  )
def A17 : Ann := .s (.n) (.s (.n) (.s (.n) (.s (.n) (.s (.j [37] 274876858368 (.n) (.s (.s (.n) (.n)) (.n))) (.s (.n) (.s (.s (.n) (.lp [9] 39614081257132098428027799040 (.s (.s (.n) (.s (.n) (.n))) (.s (.s (.n) (.j [10] 33776997205279744 (.s (.n) (.s (.n) (.n))) (.j [10] 4722330454072626250752 (.j [64] 36857459350400139264 (.n) (.s (.n) (.n))) (.j [10] 618965297276207267804349440 (.j [81] 4830980911975647053611008 (.n) (.s (.n) (.n))) (.n))))) (.n))))) (.s (.s (.n) (.lp [11] 1361129467644139772596366260930300872704 (.s (.s (.n) (.s (.n) (.n))) (.s (.s (.plan [(0, 256, 1267650600228229401496703205376), (1, 1267650600228229401496703205376, 2535301200456458802993406410752), (2, 2535301200456458802993406410752, 5070602400912917605986812821504), (0, 2, 10141204801825835211973625643008), (0, 64, 20282409603651670423947251286016), (16, 20282409603651670423947251286016, 40564819207303340847894502572032), (0, 2048, 81129638414606681695789005144064), (96, 121694457621910022543683507716096, 162259276829213363391578010288128), (136, 172400481631039198603551635931136, 324518553658426726783156020576256), (256, 324518553658426726783156020576256, 649037107316853453566312041152512), (512, 649037107316853453566312041152512, 1298074214633706907132624082305024), (1540, 1303144817034619824738610895126528, 2596148429267413814265248164610048), (0, 256, 5192296858534827628530496329220096), (8191, 5192296858534827628530496329220096, 10384593717069655257060992658440192), (12287, 12980742146337069071326240823050240, 0)] (.q 0 (.q 1 (.q 2 (.q 3 (.q 4 (.q 5 (.q 6 (.q 7 (.q 8 (.q 12 (.l 9 (.l 10 (.l 11 (.q 13 (.l 14 .done)))))))))))))))) (.plan [(0, 256, 20769187434139310514121985316880384), (1, 20769187434139310514121985316880384, 41538374868278621028243970633760768), (2, 41538374868278621028243970633760768, 83076749736557242056487941267521536), (0, 2, 166153499473114484112975882535043072), (0, 64, 332306998946228968225951765070086144), (0, 128, 664613997892457936451903530140172288), (48, 996920996838686904677855295210258432, 1329227995784915872903807060280344576), (64, 1329227995784915872903807060280344576, 2658455991569831745807614120560689152), (0, 2048, 5316911983139663491615228241121378304), (384, 7975367974709495237422842361682067456, 10633823966279326983230456482242756608), (520, 10799977465752441467343432364777799680, 21267647932558653966460912964485513216), (1024, 21267647932558653966460912964485513216, 42535295865117307932921825928971026432), (2048, 42535295865117307932921825928971026432, 85070591730234615865843651857942052864), (6148, 85153668479971173107900139799209574400, 170141183460469231731687303715884105728), (0, 256, 340282366920938463463374607431768211456), (32767, 340282366920938463463374607431768211456, 680564733841876926926749214863536422912), (49151, 850705917302346158658436518579420528640, 0)] (.q 0 (.q 1 (.q 2 (.q 3 (.q 4 (.q 5 (.q 6 (.q 7 (.q 8 (.q 9 (.q 10 (.q 14 (.l 11 (.l 12 (.l 13 (.q 15 (.l 16 .done))))))))))))))))))) (.n))))) (.s (.s (.n) (.lp [12] 2854451829268953881993248626949239006434430976 (.s (.s (.n) (.s (.n) (.n))) (.s (.plan [(0, 256, 5575186299632655785383929568162090376495104), (1, 5575186299632655785383929568162090376495104, 11150372599265311570767859136324180752990208), (2, 11150372599265311570767859136324180752990208, 22300745198530623141535718272648361505980416), (0, 2, 44601490397061246283071436545296723011960832), (0, 4096, 89202980794122492566142873090593446023921664), (24, 133804471191183738849214309635890169035882496, 178405961588244985132285746181186892047843328), (32, 178405961588244985132285746181186892047843328, 356811923176489970264571492362373784095686656), (68, 379112668375020593406107210635022145601667072, 713623846352979940529142984724747568191373312), (255, 256, 1427247692705959881058285969449495136382746624), (511, 2140871539058939821587428954174242704574119936, 0)] (.q 0 (.q 1 (.q 2 (.q 3 (.q 4 (.q 5 (.l 6 (.q 7 (.q 8 (.l 9 .done))))))))))) (.n))))) (.s (.j [161] 5843152053938199753052622758926233088350964678656 (.n) (.s (.s (.n) (.n)) (.n))) (.s (.n) (.n)))))))))))
set_option maxRecDepth 100000 in
theorem c17 (arg0 arg1 : Value) (K : Value → WP) (w : World) (h : s17 Tryz.prog arg0 arg1 K w) : Runs Tryz.prog 17 [arg0, arg1] K w :=
  runs_of_E wide (fn := Tryz.f17) (c := Tryz.f17.body.getD .skip) 165 A17 [arg0, arg1] w K Tryz.func17 (by kernel_rfl) (by kernel_rfl) (by kernel_rfl) (by kernel_rfl)
    (Eq.mp (by kernel_rfl : s17 Tryz.prog arg0 arg1 K w = E Tryz.prog (Tryz.f17.body.getD .skip) A17 (topK Tryz.prog K Tryz.f17.results) (fun i => (([arg0, arg1] : List Value)[i]?).getD undef) w) h)
theorem ct17 {arg0 arg1 : Value} {h : Hp} {post : Hp → Value → Prop} (hg : ∀ w0, Gs w0 h h [] (s17 Tryz.prog arg0 arg1 (RetP w0 h post))) : Ct Tryz.prog 17 [arg0, arg1] h post := Ct.of (sf := s17 Tryz.prog arg0 arg1) (c17 arg0 arg1) hg
theorem in17 {arg0 arg1 : Value} {S : WP} {K : Value → WP} (hg : G S (s17 Tryz.prog arg0 arg1 K)) : G S (Do Tryz.prog (vCall (.func (.func 17) #[] ⟨[]⟩) [arg0, arg1]) K) := Gs.into (args := [arg0, arg1]) (caps := []) (sf := s17 Tryz.prog arg0 arg1) (c17 arg0 arg1) hg

/- skewer/skewerlaw04.equal : names 0 p, 1 q, 2 p, 3 q -/
def s18 (P : Program) (arg0 arg1 : Value) (K : Value → WP) : WP :=
  Do P (V (Instr.box 44 arg0)) fun p1 =>
  Do P (V (Instr.box 44 arg1)) fun q2 =>
  Do P (V (Instr.fieldAt 44 p1 0)) fun t3_5 =>
  Do P (V (Instr.loadAt 33 t3_5)) fun t4_6 =>
  Do P (V (Instr.fieldAt 44 q2 0)) fun t5_7 =>
  Do P (V (Instr.loadAt 33 t5_7)) fun t6_8 =>
  Do P (vCall (.func (.func 32) #[] ⟨[]⟩) [t4_6, t6_8]) fun t7_9 =>
  Gd t7_9 true (
   Do P (V (Instr.fieldAt 44 p1 1)) fun t8_11 =>
   Do P (V (Instr.indexAt 42 t8_11 (.int .i64 0))) fun t9_12 =>
   Do P (V (Instr.loadAt 33 t9_12)) fun t10_13 =>
   Do P (V (Instr.fieldAt 44 q2 1)) fun t11_14 =>
   Do P (V (Instr.indexAt 42 t11_14 (.int .i64 0))) fun t12_15 =>
   Do P (V (Instr.loadAt 33 t12_15)) fun t13_16 =>
   Do P (vCall (.func (.func 32) #[] ⟨[]⟩) [t10_13, t13_16]) fun t14_17 =>
   Gd t14_17 true (
    Do P (V (Instr.fieldAt 44 p1 1)) fun t15_20 =>
    Do P (V (Instr.indexAt 42 t15_20 (.int .i64 1))) fun t16_21 =>
    Do P (V (Instr.loadAt 33 t16_21)) fun t17_22 =>
    Do P (V (Instr.fieldAt 44 q2 1)) fun t18_23 =>
    Do P (V (Instr.indexAt 42 t18_23 (.int .i64 1))) fun t19_24 =>
    Do P (V (Instr.loadAt 33 t19_24)) fun t20_25 =>
    Do P (vCall (.func (.func 32) #[] ⟨[]⟩) [t17_22, t20_25]) fun t21_26 =>
    Gd t21_26 true (
     Do P (V (Instr.fieldAt 44 p1 2)) fun t22_29 =>
     Do P (V (Instr.loadAt 3 t22_29)) fun t23_30 =>
     Do P (V (Instr.fieldAt 44 q2 2)) fun t24_31 =>
     Do P (V (Instr.loadAt 3 t24_31)) fun t25_32 =>
     Do P (V (EqG .eql 3 (.tmp 30) (.tmp 32) t23_30 t25_32)) fun t26_33 =>
     Gd t26_33 true (
      Do P (V (Instr.fieldAt 44 p1 3)) fun t27_36 =>
      Do P (V (Instr.loadAt 3 t27_36)) fun t28_37 =>
      Do P (V (Instr.fieldAt 44 q2 3)) fun t29_38 =>
      Do P (V (Instr.loadAt 3 t29_38)) fun t30_39 =>
      Do P (V (EqG .eql 3 (.tmp 37) (.tmp 39) t28_37 t30_39)) fun t31_40 =>
      K t31_40
     ) (
      K (.bool false)
     )
    ) (
     K (.bool false)
    )
   ) (
    K (.bool false)
   )
  ) (
   K (.bool false)
  )
def A18 : Ann := .s (.n) (.s (.n) (.n))
set_option maxRecDepth 100000 in
theorem c18 (arg0 arg1 : Value) (K : Value → WP) (w : World) (h : s18 Tryz.prog arg0 arg1 K w) : Runs Tryz.prog 18 [arg0, arg1] K w :=
  runs_of_E wide (fn := Tryz.f18) (c := Tryz.f18.body.getD .skip) 42 A18 [arg0, arg1] w K Tryz.func18 (by kernel_rfl) (by kernel_rfl) (by kernel_rfl) (by kernel_rfl)
    (Eq.mp (by kernel_rfl : s18 Tryz.prog arg0 arg1 K w = E Tryz.prog (Tryz.f18.body.getD .skip) A18 (topK Tryz.prog K Tryz.f18.results) (fun i => (([arg0, arg1] : List Value)[i]?).getD undef) w) h)
theorem ct18 {arg0 arg1 : Value} {h : Hp} {post : Hp → Value → Prop} (hg : ∀ w0, Gs w0 h h [] (s18 Tryz.prog arg0 arg1 (RetP w0 h post))) : Ct Tryz.prog 18 [arg0, arg1] h post := Ct.of (sf := s18 Tryz.prog arg0 arg1) (c18 arg0 arg1) hg
theorem in18 {arg0 arg1 : Value} {S : WP} {K : Value → WP} (hg : G S (s18 Tryz.prog arg0 arg1 K)) : G S (Do Tryz.prog (vCall (.func (.func 18) #[] ⟨[]⟩) [arg0, arg1]) K) := Gs.into (args := [arg0, arg1]) (caps := []) (sf := s18 Tryz.prog arg0 arg1) (c18 arg0 arg1) hg

/- skewer/pos.Valid : names 0 g, 1 p, 2 g, 3 p, 5 r, 6 content, 7 odd -/
def s19 (P : Program) (arg0 arg1 : Value) (K : Value → WP) : WP :=
  Do P (V (Instr.box 39 arg0)) fun g1 =>
  Do P (V (Instr.box 44 arg1)) fun p2 =>
  Do P (V (Instr.loadAt 39 g1)) fun t3_8 =>
  Do P (vBuild 100 [(0, t3_8)]) fun t4_9 =>
  Do P (V (Instr.alloc 100 true (.tuple #[]))) fun r5 =>
  Do P (U (Instr.storeAt 100 r5 t4_9)) fun t6_x =>
  Do P (V (Instr.loadAt 100 r5)) fun t7_10 =>
  Do P (V (Instr.alloc 101 true (.tuple #[]))) fun content8 =>
  Do P (U (Instr.storeAt 101 content8 (.func (.func 47) #[t7_10] ⟨[]⟩))) fun t9_x =>
  Dr <|
  Qk P (V (Instr.fieldAt 44 p2 0)) fun C10 t10_13 =>
  Qk P (V (Instr.loadAt 33 t10_13)) fun C11 t11_14 =>
  Qk P (vBuiltin .len #[33] 3 [t11_14]) fun C12 t12_15 =>
  Qk P (V (Instr.fieldAt 39 g1 0)) fun C13 t13_16 =>
  Qk P (V (Instr.fieldAt 35 t13_16 0)) fun C14 t14_17 =>
  Qk P (V (Instr.loadAt 3 t14_17)) fun C15 t15_18 =>
  Qk P (V (EqG .eql 3 (.tmp 15) (.tmp 18) t12_15 t15_18)) fun C16 t16_19 =>
  Gd t16_19 true (
   Qk P (V (Instr.fieldAt 44 p2 0)) fun C17 t17_21 =>
   Qk P (V (Instr.loadAt 33 t17_21)) fun C18 t18_22 =>
   Do P (vCall (.func (.func 49) #[] ⟨[]⟩) [t18_22, (.func (.func 48) #[] ⟨[content8]⟩)]) fun t19_24 =>
   Qk P (V (Op.unary .not t19_24)) fun C20 t20_25 =>
   Gd t20_25 true (
    Qk P (V (Instr.loadAt 100 r5)) fun C21 t21_28 =>
    Qk P (V (Instr.fieldAt 44 p2 1)) fun C22 t22_29 =>
    Qk P (V (Instr.indexAt 42 t22_29 (.int .i64 0))) fun C23 t23_30 =>
    Qk P (V (Instr.loadAt 33 t23_30)) fun C24 t24_31 =>
    Do P (vCall (.func (.func 50) #[] ⟨[]⟩) [t21_28, t24_31]) fun t25_32 =>
    Gd t25_32 true (
     Qk P (V (Instr.loadAt 100 r5)) fun C26 t26_35 =>
     Qk P (V (Instr.fieldAt 44 p2 1)) fun C27 t27_36 =>
     Qk P (V (Instr.indexAt 42 t27_36 (.int .i64 1))) fun C28 t28_37 =>
     Qk P (V (Instr.loadAt 33 t28_37)) fun C29 t29_38 =>
     Do P (vCall (.func (.func 50) #[] ⟨[]⟩) [t26_35, t29_38]) fun t30_39 =>
     Gd t30_39 true (
      Qk P (V (Instr.fieldAt 44 p2 2)) fun C31 t31_42 =>
      Qk P (V (Instr.loadAt 3 t31_42)) fun C32 t32_43 =>
      Qk P (V (binOp .leq 3 (.int .i64 0) t32_43)) fun C33 t33_44 =>
      Gd t33_44 true (
       Qk P (V (Instr.fieldAt 44 p2 2)) fun C34 t34_47 =>
       Qk P (V (Instr.loadAt 3 t34_47)) fun C35 t35_48 =>
       Qk P (V (Instr.fieldAt 39 g1 2)) fun C36 t36_49 =>
       Qk P (V (Instr.loadAt 3 t36_49)) fun C37 t37_50 =>
       Qk P (V (binOp .shl 3 (.int .i64 1) t37_50)) fun C38 t38_51 =>
       Qk P (V (binOp .lss 3 t35_48 t38_51)) fun C39 t39_52 =>
       Gd t39_52 true (
        Qk P (V (Instr.fieldAt 44 p2 3)) fun C40 t40_55 =>
        Qk P (V (Instr.loadAt 3 t40_55)) fun C41 t41_56 =>
        Qk P (V (EqG .eql 3 (.tmp 56) (.const (.int .i64 0)) t41_56 (.int .i64 0))) fun C42 t42_57 =>
        Gd t42_57 false (
         Qk P (V (Instr.fieldAt 44 p2 3)) fun C43 t43_59 =>
         Qk P (V (Instr.loadAt 3 t43_59)) fun C44 t44_60 =>
         Qk P (V (EqG .eql 3 (.tmp 60) (.const (.int .i64 1)) t44_60 (.int .i64 1))) fun C45 t45_61 =>
         K t45_61
        ) (
         K (.bool true)
        )
       ) (
        K (.bool false)
       )
      ) (
       K (.bool false)
      )
     ) (
      K (.bool false)
     )
    ) (
     K (.bool false)
    )
   ) (
    K (.bool false)
   )
  ) (
   K (.bool false)
  )
def A19 : Ann := .s (.n) (.s (.n) (.s (.n) (.s (.n) (.s (.plan [(0, 8, 8192), (1, 8192, 16384), (2, 16384, 32768), (0, 4, 65536), (8, 65536, 131072), (16, 131072, 262144), (36, 294912, 524288), (64, 524288, 1048576), (128, 1048584, 2097152), (384, 3145728, 4194304), (128, 1048704, 8388608), (1664, 13631488, 16777216), (2176, 17825792, 33554432), (4224, 34603008, 67108864), (10240, 67108864, 134217728), (16384, 134217760, 268435456), (16384, 134217736, 536870912), (81920, 671088640, 1073741824), (147456, 1207959552, 2147483648), (311296, 2550136832, 4294967296), (540672, 4429185024, 8589934592), (1572864, 8589934592, 17179869184), (2097152, 17179869216, 34359738368), (2097152, 17179869192, 68719476736), (10485760, 85899345920, 137438953472), (18874368, 154618822656, 274877906944), (39845888, 326417514496, 549755813888), (69206016, 566935683072, 1099511627776), (201326592, 1099511627776, 2199023255552), (268435456, 2199023255560, 4398046511104), (805306368, 6597069766656, 8796093022208), (1342177280, 10995116277760, 17592186044416), (2415919104, 19791209299968, 35184372088832), (4563402752, 35184372088832, 70368744177664), (8589934592, 70368744177672, 140737488355328), (25769803776, 211106232532992, 281474976710656), (8589934592, 70368744177668, 562949953421312), (77309411328, 633318697598976, 1125899906842624), (146028888064, 1196268651020288, 2251799813685248), (317827579904, 2603643534573568, 4503599627370496), (558345748480, 4573968371548160, 9007199254740992), (1108101562368, 9007199254740992, 18014398509481984), (2199023255552, 18014398509481992, 36028797018963968), (6597069766656, 54043195528445952, 72057594037927936), (10995116277760, 90071992547409920, 144115188075855872), (19791209299968, 162129586585337856, 288230376151711744), (35184372088832, 288230376151711752, 576460752303423488), (105553116266496, 864691128455135232, 1152921504606846976), (175921860444160, 1441151880758558720, 2305843009213693952), (318858372055040, 2612087783874887680, 4611686018427387904), (565148976676864, 4629700416936869888, 9223372036854775808), (2251799813685247, 9223372036854775808, 16)] (.q 0 (.q 1 (.q 2 (.q 3 (.q 4 (.q 5 (.q 6 (.q 7 (.q 8 (.q 9 (.q 10 (.l 11 (.q 12 (.q 13 (.q 14 (.q 15 (.q 16 (.q 17 (.q 18 (.l 19 (.q 20 (.q 21 (.q 22 (.q 23 (.q 24 (.q 25 (.l 26 (.q 27 (.q 28 (.q 29 (.q 30 (.q 31 (.q 32 (.q 33 (.q 34 (.q 35 (.q 36 (.q 37 (.q 38 (.q 39 (.q 40 (.q 41 (.q 42 (.q 43 (.q 44 (.q 45 (.q 46 (.q 47 (.q 48 (.q 49 (.q 50 (.q 51 .done))))))))))))))))))))))))))))))))))))))))))))))))))))) (.n)))))
set_option maxRecDepth 100000 in
theorem c19 (arg0 arg1 : Value) (K : Value → WP) (w : World) (h : s19 Tryz.prog arg0 arg1 K w) : Runs Tryz.prog 19 [arg0, arg1] K w :=
  runs_of_E wide (fn := Tryz.f19) (c := Tryz.f19.body.getD .skip) 64 A19 [arg0, arg1] w K Tryz.func19 (by kernel_rfl) (by kernel_rfl) (by kernel_rfl) (by kernel_rfl)
    (Eq.mp (by kernel_rfl : s19 Tryz.prog arg0 arg1 K w = E Tryz.prog (Tryz.f19.body.getD .skip) A19 (topK Tryz.prog K Tryz.f19.results) (fun i => (([arg0, arg1] : List Value)[i]?).getD undef) w) h)
theorem ct19 {arg0 arg1 : Value} {h : Hp} {post : Hp → Value → Prop} (hg : ∀ w0, Gs w0 h h [] (s19 Tryz.prog arg0 arg1 (RetP w0 h post))) : Ct Tryz.prog 19 [arg0, arg1] h post := Ct.of (sf := s19 Tryz.prog arg0 arg1) (c19 arg0 arg1) hg
theorem in19 {arg0 arg1 : Value} {S : WP} {K : Value → WP} (hg : G S (s19 Tryz.prog arg0 arg1 K)) : G S (Do Tryz.prog (vCall (.func (.func 19) #[] ⟨[]⟩) [arg0, arg1]) K) := Gs.into (args := [arg0, arg1]) (caps := []) (sf := s19 Tryz.prog arg0 arg1) (c19 arg0 arg1) hg

/- skewer/skewerref04.Many : names 0 g, 1 l, 2 n, 3 g, 4 l, 5 n, 7 out, 8 i -/
def s20 (P : Program) (arg0 arg1 arg2 : Value) (K : Value → WP) : WP :=
  Do P (V (Instr.box 39 arg0)) fun g1 =>
  Do P (vBuildSlice 64 0 []) fun t2_9 =>
  Lp (α := Value × Value) (fun c3 s3 => Jk fun _ => -- out i
   Jn (α := Value) (fun j4 => Jk fun _ => -- t18
    If j4 (
     Dr <|
     Qk P (V (Instr.loadAt 39 g1)) fun C5 t5_22 =>
     Qk P (V (Instr.indexAt 62 arg1 s3.2)) fun C6 t6_25 =>
     Qk P (V (Instr.loadAt 30 t6_25)) fun C7 t7_26 =>
     Do P (vCall (.func (.func 15) #[] ⟨[]⟩) [t5_22, t7_26]) fun t8_27 =>
     Do P (vBuildSlice 64 1 [(0, t8_27)]) fun t9_28 =>
     Do P (vBuiltin .append #[64, 64] 64 [s3.1, t9_28]) fun t10_29 =>
     Do P (V (binOp .add 3 s3.2 (.int .i64 1))) fun t11_20 =>
     c3 (t10_29, t11_20)
    ) (
     K s3.1
    )
   ) fun k4 =>
   Do P (vBuiltin .len #[62] 3 [arg1]) fun t12_12 =>
   Do P (V (binOp .lss 3 s3.2 t12_12)) fun t13_13 =>
   Gd t13_13 true (
    Do P (V (binOp .lss 3 s3.2 arg2)) fun t14_17 =>
    k4 t14_17
   ) (
    k4 (.bool false)
   )
  ) (t2_9, (.int .i64 0))
def A20 : Ann := .s (.n) (.s (.n) (.s (.s (.n) (.lp [7, 8] 1073741184 (.s (.j [18] 523264 (.n) (.s (.n) (.n))) (.s (.plan [(0, 128, 2097152), (0, 8, 4194304), (0, 2, 8388608), (0, 256, 16777216), (12, 25165824, 33554432), (16, 33554432, 67108864), (34, 71303168, 134217728), (64, 134217728, 268435456), (193, 270532608, 536870912), (511, 536870912, 128)] (.q 0 (.q 1 (.q 2 (.q 3 (.q 4 (.q 5 (.l 6 (.l 7 (.l 8 (.q 9 .done))))))))))) (.n))))) (.s (.n) (.n))))
set_option maxRecDepth 100000 in
theorem c20 (arg0 arg1 arg2 : Value) (K : Value → WP) (w : World) (h : s20 Tryz.prog arg0 arg1 arg2 K w) : Runs Tryz.prog 20 [arg0, arg1, arg2] K w :=
  runs_of_E wide (fn := Tryz.f20) (c := Tryz.f20.body.getD .skip) 31 A20 [arg0, arg1, arg2] w K Tryz.func20 (by kernel_rfl) (by kernel_rfl) (by kernel_rfl) (by kernel_rfl)
    (Eq.mp (by kernel_rfl : s20 Tryz.prog arg0 arg1 arg2 K w = E Tryz.prog (Tryz.f20.body.getD .skip) A20 (topK Tryz.prog K Tryz.f20.results) (fun i => (([arg0, arg1, arg2] : List Value)[i]?).getD undef) w) h)
theorem ct20 {arg0 arg1 arg2 : Value} {h : Hp} {post : Hp → Value → Prop} (hg : ∀ w0, Gs w0 h h [] (s20 Tryz.prog arg0 arg1 arg2 (RetP w0 h post))) : Ct Tryz.prog 20 [arg0, arg1, arg2] h post := Ct.of (sf := s20 Tryz.prog arg0 arg1 arg2) (c20 arg0 arg1 arg2) hg
theorem in20 {arg0 arg1 arg2 : Value} {S : WP} {K : Value → WP} (hg : G S (s20 Tryz.prog arg0 arg1 arg2 K)) : G S (Do Tryz.prog (vCall (.func (.func 20) #[] ⟨[]⟩) [arg0, arg1, arg2]) K) := Gs.into (args := [arg0, arg1, arg2]) (caps := []) (sf := s20 Tryz.prog arg0 arg1 arg2) (c20 arg0 arg1 arg2) hg

/- skewer/skewerref04.Sort : names 0 l, 1 l, 3 all, 4 out, 5 i -/
def s21 (P : Program) (arg0 : Value) (K : Value → WP) : WP :=
  Do P (vCall (.func (.func 51) #[] ⟨[]⟩) [arg0]) fun t1_7 =>
  Do P (vBuildSlice 64 0 []) fun t2_8 =>
  Lp (α := Value × Value) (fun c3 s3 => Jk fun _ => -- out i
   Do P (vBuiltin .len #[64] 3 [t1_7]) fun t4_11 =>
   Do P (V (binOp .lss 3 s3.2 t4_11)) fun t5_12 =>
   If t5_12 (
    Jn (α := Value) (fun j6 => Jk fun _ => -- out
     Do P (V (binOp .add 3 s3.2 (.int .i64 1))) fun t7_14 =>
     c3 (j6, t7_14)
    ) fun k6 =>
    Jn (α := Value) (fun j8 => Jk fun _ => -- t29
     If j8 (
      Do P (V (Instr.indexAt 64 t1_7 s3.2)) fun t9_33 =>
      Do P (V (Instr.loadAt 44 t9_33)) fun t10_34 =>
      Do P (vBuildSlice 64 1 [(0, t10_34)]) fun t11_35 =>
      Do P (vBuiltin .append #[64, 64] 64 [s3.1, t11_35]) fun t12_36 =>
      k6 t12_36
     ) (
      k6 s3.1
     )
    ) fun k8 =>
    Dr <|
    Qk P (V (EqG .eql 3 (.tmp 15) (.const (.int .i64 0)) s3.2 (.int .i64 0))) fun C13 t13_16 =>
    Gd t13_16 false (
     Qk P (V (Instr.indexAt 64 t1_7 s3.2)) fun C14 t14_20 =>
     Qk P (V (Instr.loadAt 44 t14_20)) fun C15 t15_21 =>
     Qk P (V (binOp .sub 3 s3.2 (.int .i64 1))) fun C16 t16_24 =>
     Qk P (V (Instr.indexAt 64 t1_7 t16_24)) fun C17 t17_25 =>
     Qk P (V (Instr.loadAt 44 t17_25)) fun C18 t18_26 =>
     Do P (vCall (.func (.func 36) #[] ⟨[]⟩) [t15_21, t18_26]) fun t19_27 =>
     Qk P (V (Op.unary .not t19_27)) fun C20 t20_28 =>
     k8 t20_28
    ) (
     k8 (.bool true)
    )
   ) (
    K s3.1
   )
  ) (t2_8, (.int .i64 0))
def A21 : Ann := .s (.n) (.s (.n) (.s (.n) (.s (.s (.n) (.lp [4, 5] 137438953008 (.s (.s (.n) (.s (.n) (.n))) (.j [4] 137438920720 (.j [29] 1073709056 (.plan [(0, 32, 32768), (1, 32768, 65536), (2, 65536, 131072), (4, 131080, 262144), (4, 131104, 524288), (28, 917504, 1048576), (36, 1179648, 2097152), (4, 131080, 4194304), (4, 131104, 8388608), (260, 8519680, 16777216), (644, 21102592, 33554432), (1028, 33685504, 67108864), (2116, 69337088, 134217728), (4100, 134348800, 268435456), (8196, 268566528, 536870912)] (.q 0 (.q 1 (.q 2 (.q 3 (.q 4 (.q 5 (.q 6 (.q 7 (.q 8 (.q 9 (.q 10 (.q 11 (.l 12 (.q 13 (.q 14 .done)))))))))))))))) (.s (.n) (.n))) (.n))))) (.s (.n) (.n)))))
set_option maxRecDepth 100000 in
theorem c21 (arg0 : Value) (K : Value → WP) (w : World) (h : s21 Tryz.prog arg0 K w) : Runs Tryz.prog 21 [arg0] K w :=
  runs_of_E wide (fn := Tryz.f21) (c := Tryz.f21.body.getD .skip) 38 A21 [arg0] w K Tryz.func21 (by kernel_rfl) (by kernel_rfl) (by kernel_rfl) (by kernel_rfl)
    (Eq.mp (by kernel_rfl : s21 Tryz.prog arg0 K w = E Tryz.prog (Tryz.f21.body.getD .skip) A21 (topK Tryz.prog K Tryz.f21.results) (fun i => (([arg0] : List Value)[i]?).getD undef) w) h)
theorem ct21 {arg0 : Value} {h : Hp} {post : Hp → Value → Prop} (hg : ∀ w0, Gs w0 h h [] (s21 Tryz.prog arg0 (RetP w0 h post))) : Ct Tryz.prog 21 [arg0] h post := Ct.of (sf := s21 Tryz.prog arg0) (c21 arg0) hg
theorem in21 {arg0 : Value} {S : WP} {K : Value → WP} (hg : G S (s21 Tryz.prog arg0 K)) : G S (Do Tryz.prog (vCall (.func (.func 21) #[] ⟨[]⟩) [arg0]) K) := Gs.into (args := [arg0]) (caps := []) (sf := s21 Tryz.prog arg0) (c21 arg0) hg

/- skewer/skewerref04.Lists : names 0 a, 1 b, 2 a, 3 b, 5 i -/
def s22 (P : Program) (arg0 arg1 : Value) (K : Value → WP) : WP :=
  Do P (vBuiltin .len #[64] 3 [arg0]) fun t1_7 =>
  Do P (vBuiltin .len #[64] 3 [arg1]) fun t2_9 =>
  Do P (V (EqG .neq 3 (.tmp 7) (.tmp 9) t1_7 t2_9)) fun t3_10 =>
  If t3_10 (
   K (.bool false)
  ) (
   Lp (α := Value) (fun c4 s4 => Jk fun _ => -- i
    Do P (vBuiltin .len #[64] 3 [arg0]) fun t5_13 =>
    Do P (V (binOp .lss 3 s4 t5_13)) fun t6_14 =>
    If t6_14 (
     Dr <|
     Qk P (V (Instr.indexAt 64 arg0 s4)) fun C7 t7_19 =>
     Qk P (V (Instr.loadAt 44 t7_19)) fun C8 t8_20 =>
     Qk P (V (Instr.indexAt 64 arg1 s4)) fun C9 t9_23 =>
     Qk P (V (Instr.loadAt 44 t9_23)) fun C10 t10_24 =>
     Do P (vCall (.func (.func 36) #[] ⟨[]⟩) [t8_20, t10_24]) fun t11_25 =>
     Qk P (V (Op.unary .not t11_25)) fun C12 t12_26 =>
     If t12_26 (
      K (.bool false)
     ) (
      Do P (V (binOp .add 3 s4 (.int .i64 1))) fun t13_16 =>
      c4 t13_16
     )
    ) (
     K (.bool true)
    )
   ) (.int .i64 0)
  )
def A22 : Ann := .s (.n) (.s (.s (.n) (.s (.s (.n) (.n)) (.n))) (.s (.s (.n) (.lp [5] 134215728 (.s (.s (.n) (.s (.n) (.n))) (.s (.s (.plan [(0, 1, 131072), (0, 32, 262144), (3, 393216, 524288), (4, 524288, 1048576), (0, 2, 2097152), (0, 32, 4194304), (48, 6291456, 8388608), (64, 8388608, 16777216), (136, 17825792, 33554432), (256, 33554432, 67108864)] (.q 0 (.q 1 (.q 2 (.q 3 (.q 4 (.q 5 (.q 6 (.q 7 (.l 8 (.q 9 .done))))))))))) (.s (.s (.n) (.n)) (.n))) (.n))))) (.s (.n) (.n))))
set_option maxRecDepth 100000 in
theorem c22 (arg0 arg1 : Value) (K : Value → WP) (w : World) (h : s22 Tryz.prog arg0 arg1 K w) : Runs Tryz.prog 22 [arg0, arg1] K w :=
  runs_of_E wide (fn := Tryz.f22) (c := Tryz.f22.body.getD .skip) 27 A22 [arg0, arg1] w K Tryz.func22 (by kernel_rfl) (by kernel_rfl) (by kernel_rfl) (by kernel_rfl)
    (Eq.mp (by kernel_rfl : s22 Tryz.prog arg0 arg1 K w = E Tryz.prog (Tryz.f22.body.getD .skip) A22 (topK Tryz.prog K Tryz.f22.results) (fun i => (([arg0, arg1] : List Value)[i]?).getD undef) w) h)
theorem ct22 {arg0 arg1 : Value} {h : Hp} {post : Hp → Value → Prop} (hg : ∀ w0, Gs w0 h h [] (s22 Tryz.prog arg0 arg1 (RetP w0 h post))) : Ct Tryz.prog 22 [arg0, arg1] h post := Ct.of (sf := s22 Tryz.prog arg0 arg1) (c22 arg0 arg1) hg
theorem in22 {arg0 arg1 : Value} {S : WP} {K : Value → WP} (hg : G S (s22 Tryz.prog arg0 arg1 K)) : G S (Do Tryz.prog (vCall (.func (.func 22) #[] ⟨[]⟩) [arg0, arg1]) K) := Gs.into (args := [arg0, arg1]) (caps := []) (sf := s22 Tryz.prog arg0 arg1) (c22 arg0 arg1) hg

/- skewer/pos.Sort : names 0 l, 1 l, 3 out -/
def s23 (P : Program) (arg0 : Value) (K : Value → WP) : WP :=
  Do P (vCall (.func (.func 52) #[] ⟨[]⟩) [arg0]) fun t1_5 =>
  Do P (vCall (.func (.func 53) #[] ⟨[]⟩) [t1_5, (.func (.func 24) #[] ⟨[]⟩)]) fun t2_7 =>
  Do P (vCall (.func (.func 54) #[] ⟨[]⟩) [t1_5, (.func (.func 55) #[] ⟨[]⟩)]) fun t3_9 =>
  K t3_9
def A23 : Ann := .s (.n) (.s (.n) (.s (.n) (.s (.n) (.n))))
set_option maxRecDepth 100000 in
theorem c23 (arg0 : Value) (K : Value → WP) (w : World) (h : s23 Tryz.prog arg0 K w) : Runs Tryz.prog 23 [arg0] K w :=
  runs_of_E wide (fn := Tryz.f23) (c := Tryz.f23.body.getD .skip) 10 A23 [arg0] w K Tryz.func23 (by kernel_rfl) (by kernel_rfl) (by kernel_rfl) (by kernel_rfl)
    (Eq.mp (by kernel_rfl : s23 Tryz.prog arg0 K w = E Tryz.prog (Tryz.f23.body.getD .skip) A23 (topK Tryz.prog K Tryz.f23.results) (fun i => (([arg0] : List Value)[i]?).getD undef) w) h)
theorem ct23 {arg0 : Value} {h : Hp} {post : Hp → Value → Prop} (hg : ∀ w0, Gs w0 h h [] (s23 Tryz.prog arg0 (RetP w0 h post))) : Ct Tryz.prog 23 [arg0] h post := Ct.of (sf := s23 Tryz.prog arg0) (c23 arg0) hg
theorem in23 {arg0 : Value} {S : WP} {K : Value → WP} (hg : G S (s23 Tryz.prog arg0 K)) : G S (Do Tryz.prog (vCall (.func (.func 23) #[] ⟨[]⟩) [arg0]) K) := Gs.into (args := [arg0]) (caps := []) (sf := s23 Tryz.prog arg0) (c23 arg0) hg

/- skewer/pos.Compare : names 0 p, 1 q, 2 p, 3 q -/
def s24 (P : Program) (arg0 arg1 : Value) (K : Value → WP) : WP :=
  Do P (V (Instr.box 44 arg0)) fun p1 =>
  Do P (V (Instr.box 44 arg1)) fun q2 =>
  Dr <|
  Qk P (V (Instr.fieldAt 44 p1 0)) fun C3 t3_5 =>
  Qk P (V (Instr.loadAt 33 t3_5)) fun C4 t4_6 =>
  Qk P (V (Instr.fieldAt 44 q2 0)) fun C5 t5_7 =>
  Qk P (V (Instr.loadAt 33 t5_7)) fun C6 t6_8 =>
  Qk P (V (Instr.fieldAt 44 p1 1)) fun C7 t7_10 =>
  Qk P (V (Instr.indexAt 42 t7_10 (.int .i64 0))) fun C8 t8_11 =>
  Qk P (V (Instr.loadAt 33 t8_11)) fun C9 t9_12 =>
  Qk P (V (Instr.fieldAt 44 q2 1)) fun C10 t10_13 =>
  Qk P (V (Instr.indexAt 42 t10_13 (.int .i64 0))) fun C11 t11_14 =>
  Qk P (V (Instr.loadAt 33 t11_14)) fun C12 t12_15 =>
  Qk P (V (Instr.fieldAt 44 p1 1)) fun C13 t13_17 =>
  Qk P (V (Instr.indexAt 42 t13_17 (.int .i64 1))) fun C14 t14_18 =>
  Qk P (V (Instr.loadAt 33 t14_18)) fun C15 t15_19 =>
  Qk P (V (Instr.fieldAt 44 q2 1)) fun C16 t16_20 =>
  Qk P (V (Instr.indexAt 42 t16_20 (.int .i64 1))) fun C17 t17_21 =>
  Qk P (V (Instr.loadAt 33 t17_21)) fun C18 t18_22 =>
  Qk P (V (Instr.fieldAt 44 p1 2)) fun C19 t19_24 =>
  Qk P (V (Instr.loadAt 3 t19_24)) fun C20 t20_25 =>
  Qk P (V (Instr.fieldAt 44 q2 2)) fun C21 t21_26 =>
  Qk P (V (Instr.loadAt 3 t21_26)) fun C22 t22_27 =>
  Qk P (V (Instr.fieldAt 44 p1 3)) fun C23 t23_29 =>
  Qk P (V (Instr.loadAt 3 t23_29)) fun C24 t24_30 =>
  Qk P (V (Instr.fieldAt 44 q2 3)) fun C25 t25_31 =>
  Qk P (V (Instr.loadAt 3 t25_31)) fun C26 t26_32 =>
  Do P (vCall (.func (.func 57) #[] ⟨[]⟩) [t4_6, t6_8]) fun t27_9 =>
  With C26 <|
  With C25 <|
  With C24 <|
  With C23 <|
  With C22 <|
  With C21 <|
  With C20 <|
  With C19 <|
  With C18 <|
  With C17 <|
  With C16 <|
  With C15 <|
  With C14 <|
  With C13 <|
  With C12 <|
  With C11 <|
  With C10 <|
  With C9 <|
  With C8 <|
  With C7 <|
  Do P (vCall (.func (.func 57) #[] ⟨[]⟩) [t9_12, t12_15]) fun t28_16 =>
  With C26 <|
  With C25 <|
  With C24 <|
  With C23 <|
  With C22 <|
  With C21 <|
  With C20 <|
  With C19 <|
  With C18 <|
  With C17 <|
  With C16 <|
  With C15 <|
  With C14 <|
  With C13 <|
  Do P (vCall (.func (.func 57) #[] ⟨[]⟩) [t15_19, t18_22]) fun t29_23 =>
  With C26 <|
  With C25 <|
  With C24 <|
  With C23 <|
  With C22 <|
  With C21 <|
  With C20 <|
  With C19 <|
  Do P (vCall (.func (.func 58) #[] ⟨[]⟩) [t20_25, t22_27]) fun t30_28 =>
  With C26 <|
  With C25 <|
  With C24 <|
  With C23 <|
  Do P (vCall (.func (.func 58) #[] ⟨[]⟩) [t24_30, t26_32]) fun t31_33 =>
  Do P (vBuildSlice 33 5 [(0, t27_9), (1, t28_16), (2, t29_23), (3, t30_28), (4, t31_33)]) fun t32_34 =>
  Do P (vCall (.func (.func 56) #[] ⟨[]⟩) [t32_34]) fun t33_35 =>
  K t33_35
def A24 : Ann := .s (.n) (.s (.plan [(0, 4, 32), (1, 32, 64), (0, 8, 128), (4, 128, 256), (10, 320, 512), (0, 4, 1024), (32, 1024, 2048), (64, 2048, 4096), (0, 8, 8192), (256, 8192, 16384), (512, 16384, 32768), (1168, 36864, 65536), (0, 4, 131072), (4096, 131072, 262144), (8192, 262144, 524288), (0, 8, 1048576), (32768, 1048576, 2097152), (65536, 2097152, 4194304), (149504, 4718592, 8388608), (0, 4, 16777216), (524288, 16777216, 33554432), (0, 8, 67108864), (2097152, 67108864, 134217728), (5505024, 167772160, 268435456), (0, 4, 536870912), (16777216, 536870912, 1073741824), (0, 8, 2147483648), (67108864, 2147483648, 4294967296), (176160768, 5368709120, 8589934592), (277088272, 8866824704, 17179869184), (805306368, 17179869184, 34359738368), (2147483647, 34359738368, 16)] (.q 0 (.q 1 (.q 2 (.q 3 (.q 5 (.q 6 (.q 7 (.q 8 (.q 9 (.q 10 (.q 12 (.q 13 (.q 14 (.q 15 (.q 16 (.q 17 (.q 19 (.q 20 (.q 21 (.q 22 (.q 24 (.q 25 (.q 26 (.q 27 (.l 4 (.l 11 (.l 18 (.l 23 (.l 28 (.l 29 (.l 30 (.q 31 .done))))))))))))))))))))))))))))))))) (.n))
set_option maxRecDepth 100000 in
theorem c24 (arg0 arg1 : Value) (K : Value → WP) (w : World) (h : s24 Tryz.prog arg0 arg1 K w) : Runs Tryz.prog 24 [arg0, arg1] K w :=
  runs_of_E wide (fn := Tryz.f24) (c := Tryz.f24.body.getD .skip) 36 A24 [arg0, arg1] w K Tryz.func24 (by kernel_rfl) (by kernel_rfl) (by kernel_rfl) (by kernel_rfl)
    (Eq.mp (by kernel_rfl : s24 Tryz.prog arg0 arg1 K w = E Tryz.prog (Tryz.f24.body.getD .skip) A24 (topK Tryz.prog K Tryz.f24.results) (fun i => (([arg0, arg1] : List Value)[i]?).getD undef) w) h)
theorem ct24 {arg0 arg1 : Value} {h : Hp} {post : Hp → Value → Prop} (hg : ∀ w0, Gs w0 h h [] (s24 Tryz.prog arg0 arg1 (RetP w0 h post))) : Ct Tryz.prog 24 [arg0, arg1] h post := Ct.of (sf := s24 Tryz.prog arg0 arg1) (c24 arg0 arg1) hg
theorem in24 {arg0 arg1 : Value} {S : WP} {K : Value → WP} (hg : G S (s24 Tryz.prog arg0 arg1 K)) : G S (Do Tryz.prog (vCall (.func (.func 24) #[] ⟨[]⟩) [arg0, arg1]) K) := Gs.into (args := [arg0, arg1]) (caps := []) (sf := s24 Tryz.prog arg0 arg1) (c24 arg0 arg1) hg

/- skewer/skewerref04.Compare : names 0 p, 1 q, 2 p, 3 q, 5 parts, 6 i -/
def s25 (P : Program) (arg0 arg1 : Value) (K : Value → WP) : WP :=
  Do P (V (Instr.box 44 arg0)) fun p1 =>
  Do P (V (Instr.box 44 arg1)) fun q2 =>
  Dr <|
  Qk P (V (Instr.fieldAt 44 p1 0)) fun C3 t3_7 =>
  Qk P (V (Instr.loadAt 33 t3_7)) fun C4 t4_8 =>
  Qk P (V (Instr.fieldAt 44 q2 0)) fun C5 t5_9 =>
  Qk P (V (Instr.loadAt 33 t5_9)) fun C6 t6_10 =>
  Qk P (V (Instr.fieldAt 44 p1 1)) fun C7 t7_12 =>
  Qk P (V (Instr.indexAt 42 t7_12 (.int .i64 0))) fun C8 t8_13 =>
  Qk P (V (Instr.loadAt 33 t8_13)) fun C9 t9_14 =>
  Qk P (V (Instr.fieldAt 44 q2 1)) fun C10 t10_15 =>
  Qk P (V (Instr.indexAt 42 t10_15 (.int .i64 0))) fun C11 t11_16 =>
  Qk P (V (Instr.loadAt 33 t11_16)) fun C12 t12_17 =>
  Qk P (V (Instr.fieldAt 44 p1 1)) fun C13 t13_19 =>
  Qk P (V (Instr.indexAt 42 t13_19 (.int .i64 1))) fun C14 t14_20 =>
  Qk P (V (Instr.loadAt 33 t14_20)) fun C15 t15_21 =>
  Qk P (V (Instr.fieldAt 44 q2 1)) fun C16 t16_22 =>
  Qk P (V (Instr.indexAt 42 t16_22 (.int .i64 1))) fun C17 t17_23 =>
  Qk P (V (Instr.loadAt 33 t17_23)) fun C18 t18_24 =>
  Qk P (V (Instr.fieldAt 44 p1 2)) fun C19 t19_26 =>
  Qk P (V (Instr.loadAt 3 t19_26)) fun C20 t20_27 =>
  Qk P (V (Instr.fieldAt 44 q2 2)) fun C21 t21_28 =>
  Qk P (V (Instr.loadAt 3 t21_28)) fun C22 t22_29 =>
  Qk P (V (Instr.fieldAt 44 p1 3)) fun C23 t23_31 =>
  Qk P (V (Instr.loadAt 3 t23_31)) fun C24 t24_32 =>
  Qk P (V (Instr.fieldAt 44 q2 3)) fun C25 t25_33 =>
  Qk P (V (Instr.loadAt 3 t25_33)) fun C26 t26_34 =>
  Do P (vCall (.func (.func 59) #[] ⟨[]⟩) [t4_8, t6_10]) fun t27_11 =>
  With C26 <|
  With C25 <|
  With C24 <|
  With C23 <|
  With C22 <|
  With C21 <|
  With C20 <|
  With C19 <|
  With C18 <|
  With C17 <|
  With C16 <|
  With C15 <|
  With C14 <|
  With C13 <|
  With C12 <|
  With C11 <|
  With C10 <|
  With C9 <|
  With C8 <|
  With C7 <|
  Do P (vCall (.func (.func 59) #[] ⟨[]⟩) [t9_14, t12_17]) fun t28_18 =>
  With C26 <|
  With C25 <|
  With C24 <|
  With C23 <|
  With C22 <|
  With C21 <|
  With C20 <|
  With C19 <|
  With C18 <|
  With C17 <|
  With C16 <|
  With C15 <|
  With C14 <|
  With C13 <|
  Do P (vCall (.func (.func 59) #[] ⟨[]⟩) [t15_21, t18_24]) fun t29_25 =>
  With C26 <|
  With C25 <|
  With C24 <|
  With C23 <|
  With C22 <|
  With C21 <|
  With C20 <|
  With C19 <|
  Do P (vCall (.func (.func 60) #[] ⟨[]⟩) [t20_27, t22_29]) fun t30_30 =>
  With C26 <|
  With C25 <|
  With C24 <|
  With C23 <|
  Do P (vCall (.func (.func 60) #[] ⟨[]⟩) [t24_32, t26_34]) fun t31_35 =>
  Do P (vBuildSlice 33 5 [(0, t27_11), (1, t28_18), (2, t29_25), (3, t30_30), (4, t31_35)]) fun t32_36 =>
  Lp (α := Value) (fun c33 s33 => Jk fun _ => -- i
   Do P (vBuiltin .len #[33] 3 [t32_36]) fun t34_39 =>
   Do P (V (binOp .lss 3 s33 t34_39)) fun t35_40 =>
   If t35_40 (
    Do P (V (Instr.indexAt 33 t32_36 s33)) fun t36_45 =>
    Do P (V (Instr.loadAt 3 t36_45)) fun t37_46 =>
    Do P (V (EqG .neq 3 (.tmp 46) (.const (.int .i64 0)) t37_46 (.int .i64 0))) fun t38_47 =>
    If t38_47 (
     Do P (V (Instr.indexAt 33 t32_36 s33)) fun t39_50 =>
     Do P (V (Instr.loadAt 3 t39_50)) fun t40_51 =>
     K t40_51
    ) (
     Do P (V (binOp .add 3 s33 (.int .i64 1))) fun t41_42 =>
     c33 t41_42
    )
   ) (
    K (.int .i64 0)
   )
  ) (.int .i64 0)
def A25 : Ann := .s (.n) (.s (.plan [(0, 4, 128), (1, 128, 256), (0, 8, 512), (4, 512, 1024), (10, 1280, 2048), (0, 4, 4096), (32, 4096, 8192), (64, 8192, 16384), (0, 8, 32768), (256, 32768, 65536), (512, 65536, 131072), (1168, 147456, 262144), (0, 4, 524288), (4096, 524288, 1048576), (8192, 1048576, 2097152), (0, 8, 4194304), (32768, 4194304, 8388608), (65536, 8388608, 16777216), (149504, 18874368, 33554432), (0, 4, 67108864), (524288, 67108864, 134217728), (0, 8, 268435456), (2097152, 268435456, 536870912), (5505024, 671088640, 1073741824), (0, 4, 2147483648), (16777216, 2147483648, 4294967296), (0, 8, 8589934592), (67108864, 8589934592, 17179869184), (176160768, 21474836480, 34359738368), (277088272, 35467298816, 68719476736), (1073741823, 68719476736, 32)] (.q 0 (.q 1 (.q 2 (.q 3 (.q 5 (.q 6 (.q 7 (.q 8 (.q 9 (.q 10 (.q 12 (.q 13 (.q 14 (.q 15 (.q 16 (.q 17 (.q 19 (.q 20 (.q 21 (.q 22 (.q 24 (.q 25 (.q 26 (.q 27 (.l 4 (.l 11 (.l 18 (.l 23 (.l 28 (.l 29 (.q 30 .done)))))))))))))))))))))))))))))))) (.s (.s (.n) (.lp [6] 4503462188417104 (.s (.s (.n) (.s (.n) (.n))) (.s (.s (.n) (.s (.s (.n) (.n)) (.n))) (.n))))) (.s (.n) (.n))))
set_option maxRecDepth 100000 in
theorem c25 (arg0 arg1 : Value) (K : Value → WP) (w : World) (h : s25 Tryz.prog arg0 arg1 K w) : Runs Tryz.prog 25 [arg0, arg1] K w :=
  runs_of_E wide (fn := Tryz.f25) (c := Tryz.f25.body.getD .skip) 52 A25 [arg0, arg1] w K Tryz.func25 (by kernel_rfl) (by kernel_rfl) (by kernel_rfl) (by kernel_rfl)
    (Eq.mp (by kernel_rfl : s25 Tryz.prog arg0 arg1 K w = E Tryz.prog (Tryz.f25.body.getD .skip) A25 (topK Tryz.prog K Tryz.f25.results) (fun i => (([arg0, arg1] : List Value)[i]?).getD undef) w) h)
theorem ct25 {arg0 arg1 : Value} {h : Hp} {post : Hp → Value → Prop} (hg : ∀ w0, Gs w0 h h [] (s25 Tryz.prog arg0 arg1 (RetP w0 h post))) : Ct Tryz.prog 25 [arg0, arg1] h post := Ct.of (sf := s25 Tryz.prog arg0 arg1) (c25 arg0 arg1) hg
theorem in25 {arg0 arg1 : Value} {S : WP} {K : Value → WP} (hg : G S (s25 Tryz.prog arg0 arg1 K)) : G S (Do Tryz.prog (vCall (.func (.func 25) #[] ⟨[]⟩) [arg0, arg1]) K) := Gs.into (args := [arg0, arg1]) (caps := []) (sf := s25 Tryz.prog arg0 arg1) (c25 arg0 arg1) hg

/- skewer/pos.Key : names 0 p, 1 p, 3 out, 4 _, 5 n -/
def s26 (P : Program) (arg0 : Value) (K : Value → WP) : WP :=
  Do P (V (Instr.box 44 arg0)) fun p1 =>
  Do P (V (Instr.fieldAt 44 p1 0)) fun t2_6 =>
  Do P (V (Instr.loadAt 33 t2_6)) fun t3_7 =>
  Do P (V (Instr.fieldAt 44 p1 1)) fun t4_8 =>
  Do P (V (Instr.indexAt 42 t4_8 (.int .i64 0))) fun t5_9 =>
  Do P (V (Instr.loadAt 33 t5_9)) fun t6_10 =>
  Do P (V (Instr.fieldAt 44 p1 1)) fun t7_11 =>
  Do P (V (Instr.indexAt 42 t7_11 (.int .i64 1))) fun t8_12 =>
  Do P (V (Instr.loadAt 33 t8_12)) fun t9_13 =>
  Do P (V (Instr.fieldAt 44 p1 2)) fun t10_14 =>
  Do P (V (Instr.loadAt 3 t10_14)) fun t11_15 =>
  Do P (V (Instr.fieldAt 44 p1 3)) fun t12_16 =>
  Do P (V (Instr.loadAt 3 t12_16)) fun t13_17 =>
  Do P (vBuildSlice 33 2 [(0, t11_15), (1, t13_17)]) fun t14_18 =>
  Do P (vBuildSlice 32 4 [(0, t3_7), (1, t6_10), (2, t9_13), (3, t14_18)]) fun t15_19 =>
  Do P (vCall (.func (.func 61) #[] ⟨[]⟩) [t15_19]) fun t16_20 =>
  Do P (vBuiltin .len #[33] 3 [t16_20]) fun t17_21 =>
  Lp (α := Value × Value) (fun c18 s18 => Jk fun _ => -- out t22
   Do P (V (binOp .lss 3 s18.2 t17_21)) fun t19_23 =>
   If t19_23 (
    Do P (V (Instr.indexAt 33 t16_20 s18.2)) fun t20_24 =>
    Do P (V (Instr.loadAt 3 t20_24)) fun t21_25 =>
    Do P (V (convert 3 5 t21_25)) fun t22_28 =>
    Do P (vBuildSlice 22 1 [(0, t22_28)]) fun t23_29 =>
    Do P (vBuiltin .append #[22, 22] 22 [s18.1, t23_29]) fun t24_30 =>
    Do P (V (binOp .add 3 s18.2 (.int .i64 1))) fun t25_31 =>
    c18 (t24_30, t25_31)
   ) (
    Do P (V (convert 22 9 s18.1)) fun t26_33 =>
    K t26_33
   )
  ) ((.slice none 0 0), (.int .i64 0))
def A26 : Ann := .s (.n) (.s (.n) (.s (.s (.n) (.lp [3, 22] 4290773032 (.s (.n) (.s (.s (.n) (.n)) (.s (.s (.n) (.n)) (.n)))))) (.s (.n) (.n))))
set_option maxRecDepth 100000 in
theorem c26 (arg0 : Value) (K : Value → WP) (w : World) (h : s26 Tryz.prog arg0 K w) : Runs Tryz.prog 26 [arg0] K w :=
  runs_of_E wide (fn := Tryz.f26) (c := Tryz.f26.body.getD .skip) 34 A26 [arg0] w K Tryz.func26 (by kernel_rfl) (by kernel_rfl) (by kernel_rfl) (by kernel_rfl)
    (Eq.mp (by kernel_rfl : s26 Tryz.prog arg0 K w = E Tryz.prog (Tryz.f26.body.getD .skip) A26 (topK Tryz.prog K Tryz.f26.results) (fun i => (([arg0] : List Value)[i]?).getD undef) w) h)
theorem ct26 {arg0 : Value} {h : Hp} {post : Hp → Value → Prop} (hg : ∀ w0, Gs w0 h h [] (s26 Tryz.prog arg0 (RetP w0 h post))) : Ct Tryz.prog 26 [arg0] h post := Ct.of (sf := s26 Tryz.prog arg0) (c26 arg0) hg
theorem in26 {arg0 : Value} {S : WP} {K : Value → WP} (hg : G S (s26 Tryz.prog arg0 K)) : G S (Do Tryz.prog (vCall (.func (.func 26) #[] ⟨[]⟩) [arg0]) K) := Gs.into (args := [arg0]) (caps := []) (sf := s26 Tryz.prog arg0) (c26 arg0) hg

/- skewer/skewerref04.Key : names 0 p, 1 p, 3 l, 4 out, 5 i -/
def s27 (P : Program) (arg0 : Value) (K : Value → WP) : WP :=
  Do P (V (Instr.box 44 arg0)) fun p1 =>
  Do P (V (Instr.loadAt 44 p1)) fun t2_6 =>
  Do P (vCall (.func (.func 62) #[] ⟨[]⟩) [t2_6]) fun t3_7 =>
  Do P (vBuildSlice 22 0 []) fun t4_8 =>
  Lp (α := Value × Value) (fun c5 s5 => Jk fun _ => -- out i
   Do P (vBuiltin .len #[33] 3 [t3_7]) fun t6_11 =>
   Do P (V (binOp .lss 3 s5.2 t6_11)) fun t7_12 =>
   If t7_12 (
    Do P (V (Instr.indexAt 33 t3_7 s5.2)) fun t8_18 =>
    Do P (V (Instr.loadAt 3 t8_18)) fun t9_19 =>
    Do P (V (convert 3 5 t9_19)) fun t10_20 =>
    Do P (vBuildSlice 22 1 [(0, t10_20)]) fun t11_21 =>
    Do P (vBuiltin .append #[22, 22] 22 [s5.1, t11_21]) fun t12_22 =>
    Do P (V (binOp .add 3 s5.2 (.int .i64 1))) fun t13_14 =>
    c5 (t12_22, t13_14)
   ) (
    Do P (V (convert 22 9 s5.1)) fun t14_24 =>
    K t14_24
   )
  ) (t4_8, (.int .i64 0))
def A27 : Ann := .s (.n) (.s (.n) (.s (.n) (.s (.s (.n) (.lp [4, 5] 8388144 (.s (.s (.n) (.s (.n) (.n))) (.s (.n) (.n))))) (.s (.n) (.n)))))
set_option maxRecDepth 100000 in
theorem c27 (arg0 : Value) (K : Value → WP) (w : World) (h : s27 Tryz.prog arg0 K w) : Runs Tryz.prog 27 [arg0] K w :=
  runs_of_E wide (fn := Tryz.f27) (c := Tryz.f27.body.getD .skip) 25 A27 [arg0] w K Tryz.func27 (by kernel_rfl) (by kernel_rfl) (by kernel_rfl) (by kernel_rfl)
    (Eq.mp (by kernel_rfl : s27 Tryz.prog arg0 K w = E Tryz.prog (Tryz.f27.body.getD .skip) A27 (topK Tryz.prog K Tryz.f27.results) (fun i => (([arg0] : List Value)[i]?).getD undef) w) h)
theorem ct27 {arg0 : Value} {h : Hp} {post : Hp → Value → Prop} (hg : ∀ w0, Gs w0 h h [] (s27 Tryz.prog arg0 (RetP w0 h post))) : Ct Tryz.prog 27 [arg0] h post := Ct.of (sf := s27 Tryz.prog arg0) (c27 arg0) hg
theorem in27 {arg0 : Value} {S : WP} {K : Value → WP} (hg : G S (s27 Tryz.prog arg0 K)) : G S (Do Tryz.prog (vCall (.func (.func 27) #[] ⟨[]⟩) [arg0]) K) := Gs.into (args := [arg0]) (caps := []) (sf := s27 Tryz.prog arg0) (c27 arg0) hg

/- skewer/skewerref04.Valid : names 0 g, 1 p, 2 g, 3 p, 5 c -/
def s28 (P : Program) (arg0 arg1 : Value) (K : Value → WP) : WP :=
  Do P (V (Instr.box 39 arg0)) fun g1 =>
  Do P (V (Instr.box 44 arg1)) fun p2 =>
  Jn (α := Value) (fun j3 => Jk fun _ => -- t51
   If j3 (
    K (.bool false)
   ) (
    Lp (α := Value) (fun c4 s4 => Jk fun _ => -- c
     Do P (V (Instr.fieldAt 44 p2 0)) fun t5_53 =>
     Do P (V (Instr.loadAt 33 t5_53)) fun t6_54 =>
     Do P (vBuiltin .len #[33] 3 [t6_54]) fun t7_55 =>
     Do P (V (binOp .lss 3 s4 t7_55)) fun t8_56 =>
     If t8_56 (
      Jn (α := Value) (fun j9 => Jk fun _ => -- t76
       If j9 (
        K (.bool false)
       ) (
        Do P (V (binOp .add 3 s4 (.int .i64 1))) fun t10_58 =>
        c4 t10_58
       )
      ) fun k9 =>
      Dr <|
      Qk P (V (Instr.fieldAt 44 p2 0)) fun C11 t11_59 =>
      Qk P (V (Instr.loadAt 33 t11_59)) fun C12 t12_60 =>
      Qk P (V (Instr.indexAt 33 t12_60 s4)) fun C13 t13_62 =>
      Qk P (V (Instr.loadAt 3 t13_62)) fun C14 t14_63 =>
      Qk P (V (binOp .lss 3 t14_63 (.int .i64 0))) fun C15 t15_64 =>
      Gd t15_64 false (
       Qk P (V (Instr.fieldAt 44 p2 0)) fun C16 t16_66 =>
       Qk P (V (Instr.loadAt 33 t16_66)) fun C17 t17_67 =>
       Qk P (V (Instr.indexAt 33 t17_67 s4)) fun C18 t18_69 =>
       Qk P (V (Instr.loadAt 3 t18_69)) fun C19 t19_70 =>
       Qk P (V (Instr.fieldAt 39 g1 1)) fun C20 t20_71 =>
       Qk P (V (Instr.loadAt 36 t20_71)) fun C21 t21_72 =>
       Qk P (vBuiltin .len #[36] 3 [t21_72]) fun C22 t22_73 =>
       Qk P (V (binOp .mul 3 (.int .i64 2) t22_73)) fun C23 t23_74 =>
       Qk P (V (binOp .gtr 3 t19_70 t23_74)) fun C24 t24_75 =>
       k9 t24_75
      ) (
       k9 (.bool true)
      )
     ) (
      K (.bool true)
     )
    ) (.int .i64 0)
   )
  ) fun k3 =>
  Dr <|
  Qk P (V (Instr.fieldAt 44 p2 0)) fun C25 t25_6 =>
  Qk P (V (Instr.loadAt 33 t25_6)) fun C26 t26_7 =>
  Qk P (vBuiltin .len #[33] 3 [t26_7]) fun C27 t27_8 =>
  Qk P (V (Instr.fieldAt 39 g1 0)) fun C28 t28_9 =>
  Qk P (V (Instr.fieldAt 35 t28_9 0)) fun C29 t29_10 =>
  Qk P (V (Instr.loadAt 3 t29_10)) fun C30 t30_11 =>
  Qk P (V (EqG .neq 3 (.tmp 8) (.tmp 11) t27_8 t30_11)) fun C31 t31_12 =>
  Gd t31_12 false (
   Qk P (V (Instr.loadAt 39 g1)) fun C32 t32_14 =>
   Qk P (V (Instr.fieldAt 44 p2 1)) fun C33 t33_15 =>
   Qk P (V (Instr.indexAt 42 t33_15 (.int .i64 0))) fun C34 t34_16 =>
   Qk P (V (Instr.loadAt 33 t34_16)) fun C35 t35_17 =>
   Do P (vCall (.func (.func 63) #[] ⟨[]⟩) [t32_14, t35_17]) fun t36_18 =>
   Qk P (V (Op.unary .not t36_18)) fun C37 t37_19 =>
   Gd t37_19 false (
    Qk P (V (Instr.loadAt 39 g1)) fun C38 t38_22 =>
    Qk P (V (Instr.fieldAt 44 p2 1)) fun C39 t39_23 =>
    Qk P (V (Instr.indexAt 42 t39_23 (.int .i64 1))) fun C40 t40_24 =>
    Qk P (V (Instr.loadAt 33 t40_24)) fun C41 t41_25 =>
    Do P (vCall (.func (.func 63) #[] ⟨[]⟩) [t38_22, t41_25]) fun t42_26 =>
    Qk P (V (Op.unary .not t42_26)) fun C43 t43_27 =>
    Gd t43_27 false (
     Qk P (V (Instr.fieldAt 44 p2 2)) fun C44 t44_30 =>
     Qk P (V (Instr.loadAt 3 t44_30)) fun C45 t45_31 =>
     Qk P (V (binOp .lss 3 t45_31 (.int .i64 0))) fun C46 t46_32 =>
     Gd t46_32 false (
      Qk P (V (Instr.fieldAt 44 p2 2)) fun C47 t47_35 =>
      Qk P (V (Instr.loadAt 3 t47_35)) fun C48 t48_36 =>
      Qk P (V (Instr.fieldAt 39 g1 2)) fun C49 t49_37 =>
      Qk P (V (Instr.loadAt 3 t49_37)) fun C50 t50_38 =>
      Qk P (V (binOp .shl 3 (.int .i64 1) t50_38)) fun C51 t51_39 =>
      Qk P (V (binOp .geq 3 t48_36 t51_39)) fun C52 t52_40 =>
      Gd t52_40 false (
       Qk P (V (Instr.fieldAt 44 p2 3)) fun C53 t53_43 =>
       Qk P (V (Instr.loadAt 3 t53_43)) fun C54 t54_44 =>
       Qk P (V (binOp .lss 3 t54_44 (.int .i64 0))) fun C55 t55_45 =>
       Gd t55_45 false (
        Qk P (V (Instr.fieldAt 44 p2 3)) fun C56 t56_48 =>
        Qk P (V (Instr.loadAt 3 t56_48)) fun C57 t57_49 =>
        Qk P (V (binOp .gtr 3 t57_49 (.int .i64 1))) fun C58 t58_50 =>
        k3 t58_50
       ) (
        k3 (.bool true)
       )
      ) (
       k3 (.bool true)
      )
     ) (
      k3 (.bool true)
     )
    ) (
     k3 (.bool true)
    )
   ) (
    k3 (.bool true)
   )
  ) (
   k3 (.bool true)
  )
def A28 : Ann := .s (.n) (.s (.j [51] 4503599627370432 (.plan [(0, 8, 64), (1, 64, 128), (2, 128, 256), (0, 4, 512), (8, 512, 1024), (16, 1024, 2048), (36, 2304, 4096), (64, 4096, 8192), (128, 8196, 16384), (128, 8200, 32768), (640, 40960, 65536), (1152, 73728, 131072), (2432, 155648, 262144), (4224, 270336, 524288), (8320, 532480, 1048576), (20480, 1048576, 2097152), (32768, 2097156, 4194304), (32768, 2097160, 8388608), (163840, 10485760, 16777216), (294912, 18874368, 33554432), (622592, 39845888, 67108864), (1081344, 69206016, 134217728), (2129920, 136314880, 268435456), (5242880, 268435456, 536870912), (8388608, 536870920, 1073741824), (25165824, 1610612736, 2147483648), (41943040, 2684354560, 4294967296), (75497472, 4831838208, 8589934592), (142606336, 8589934592, 17179869184), (268435456, 17179869192, 34359738368), (805306368, 51539607552, 68719476736), (268435456, 17179869188, 137438953472), (2415919104, 154618822656, 274877906944), (4563402752, 292057776128, 549755813888), (9932111872, 635655159808, 1099511627776), (17448304640, 1116691496960, 2199023255552), (34628173824, 2199023255552, 4398046511104), (68719476736, 4398046511112, 8796093022208), (206158430208, 13194139533312, 17592186044416), (343597383680, 21990232555520, 35184372088832), (618475290624, 39582418599936, 70368744177664), (1168231104512, 70368744177664, 140737488355328), (2199023255552, 140737488355336, 281474976710656), (6597069766656, 422212465065984, 562949953421312), (10995116277760, 703687441776640, 1125899906842624), (19791209299968, 1266637395197952, 2251799813685248)] (.q 0 (.q 1 (.q 2 (.q 3 (.q 4 (.q 5 (.q 6 (.q 7 (.q 8 (.q 9 (.q 10 (.q 11 (.l 12 (.q 13 (.q 14 (.q 15 (.q 16 (.q 17 (.q 18 (.q 19 (.l 20 (.q 21 (.q 22 (.q 23 (.q 24 (.q 25 (.q 26 (.q 27 (.q 28 (.q 29 (.q 30 (.q 31 (.q 32 (.q 33 (.q 34 (.q 35 (.q 36 (.q 37 (.q 38 (.q 39 (.q 40 (.q 41 (.q 42 (.q 43 (.q 44 (.q 45 .done))))))))))))))))))))))))))))))))))))))))))))))) (.s (.s (.n) (.n)) (.n))) (.s (.s (.n) (.lp [5] 151115722948229019467824 (.s (.s (.n) (.s (.n) (.n))) (.s (.j [76] 151115150991076343414784 (.plan [(0, 8, 576460752303423488), (1, 576460752303423488, 1152921504606846976), (0, 32, 2305843009213693952), (6, 3458764513820540928, 4611686018427387904), (8, 4611686018427387904, 9223372036854775808), (16, 9223372036854775808, 18446744073709551616), (32, 18446744073709551616, 36893488147419103232), (64, 36893488147419103240, 73786976294838206464), (192, 110680464442257309696, 147573952589676412928), (64, 36893488147419103264, 295147905179352825856), (832, 479615345916448342016, 590295810358705651712), (1088, 627189298506124754944, 1180591620717411303424), (64, 36893488147419103236, 2361183241434822606848), (4160, 2398076729582241710080, 4722366482869645213696), (8256, 4759259971017064316928, 9444732965739290427392), (16448, 9481626453886709530624, 18889465931478580854784), (34880, 20106951040343411261440, 37778931862957161709568), (65600, 37815825351104580812800, 75557863725914323419136)] (.q 0 (.q 1 (.q 2 (.q 3 (.q 4 (.q 5 (.q 6 (.q 7 (.q 8 (.q 9 (.q 10 (.q 11 (.q 12 (.q 13 (.q 14 (.q 15 (.q 16 (.q 17 .done))))))))))))))))))) (.s (.s (.n) (.n)) (.n))) (.n))))) (.s (.n) (.n))))
set_option maxRecDepth 100000 in
theorem c28 (arg0 arg1 : Value) (K : Value → WP) (w : World) (h : s28 Tryz.prog arg0 arg1 K w) : Runs Tryz.prog 28 [arg0, arg1] K w :=
  runs_of_E wide (fn := Tryz.f28) (c := Tryz.f28.body.getD .skip) 77 A28 [arg0, arg1] w K Tryz.func28 (by kernel_rfl) (by kernel_rfl) (by kernel_rfl) (by kernel_rfl)
    (Eq.mp (by kernel_rfl : s28 Tryz.prog arg0 arg1 K w = E Tryz.prog (Tryz.f28.body.getD .skip) A28 (topK Tryz.prog K Tryz.f28.results) (fun i => (([arg0, arg1] : List Value)[i]?).getD undef) w) h)
theorem ct28 {arg0 arg1 : Value} {h : Hp} {post : Hp → Value → Prop} (hg : ∀ w0, Gs w0 h h [] (s28 Tryz.prog arg0 arg1 (RetP w0 h post))) : Ct Tryz.prog 28 [arg0, arg1] h post := Ct.of (sf := s28 Tryz.prog arg0 arg1) (c28 arg0 arg1) hg
theorem in28 {arg0 arg1 : Value} {S : WP} {K : Value → WP} (hg : G S (s28 Tryz.prog arg0 arg1 K)) : G S (Do Tryz.prog (vCall (.func (.func 28) #[] ⟨[]⟩) [arg0, arg1]) K) := Gs.into (args := [arg0, arg1]) (caps := []) (sf := s28 Tryz.prog arg0 arg1) (c28 arg0 arg1) hg

/- skewer/pos.Find : names 0 l, 1 p, 2 l, 3 p, 5 i, 6 ok -/
def s29 (P : Program) (arg0 arg1 : Value) (K : Value → WP) : WP :=
  Do P (V (Instr.box 44 arg1)) fun p1 =>
  Do P (V (Instr.loadAt 44 p1)) fun t2_9 =>
  Do P (vCall (.func (.func 64) #[] ⟨[]⟩) [arg0, t2_9, (.func (.func 24) #[] ⟨[]⟩)]) fun t3_10 =>
  Do P (V (Instr.extract t3_10 0)) fun t4_11 =>
  Do P (V (Instr.extract t3_10 1)) fun t5_12 =>
  If t5_12 (
   K t4_11
  ) (
   K (.int .i64 (-1))
  )
def A29 : Ann := .s (.n) (.s (.s (.n) (.s (.n) (.s (.s (.n) (.n)) (.n)))) (.s (.n) (.n)))
set_option maxRecDepth 100000 in
theorem c29 (arg0 arg1 : Value) (K : Value → WP) (w : World) (h : s29 Tryz.prog arg0 arg1 K w) : Runs Tryz.prog 29 [arg0, arg1] K w :=
  runs_of_E wide (fn := Tryz.f29) (c := Tryz.f29.body.getD .skip) 15 A29 [arg0, arg1] w K Tryz.func29 (by kernel_rfl) (by kernel_rfl) (by kernel_rfl) (by kernel_rfl)
    (Eq.mp (by kernel_rfl : s29 Tryz.prog arg0 arg1 K w = E Tryz.prog (Tryz.f29.body.getD .skip) A29 (topK Tryz.prog K Tryz.f29.results) (fun i => (([arg0, arg1] : List Value)[i]?).getD undef) w) h)
theorem ct29 {arg0 arg1 : Value} {h : Hp} {post : Hp → Value → Prop} (hg : ∀ w0, Gs w0 h h [] (s29 Tryz.prog arg0 arg1 (RetP w0 h post))) : Ct Tryz.prog 29 [arg0, arg1] h post := Ct.of (sf := s29 Tryz.prog arg0 arg1) (c29 arg0 arg1) hg
theorem in29 {arg0 arg1 : Value} {S : WP} {K : Value → WP} (hg : G S (s29 Tryz.prog arg0 arg1 K)) : G S (Do Tryz.prog (vCall (.func (.func 29) #[] ⟨[]⟩) [arg0, arg1]) K) := Gs.into (args := [arg0, arg1]) (caps := []) (sf := s29 Tryz.prog arg0 arg1) (c29 arg0 arg1) hg

/- skewer/skewerref04.Find : names 0 l, 1 p, 2 l, 3 p, 5 low, 6 high, 7 mid, 8 c -/
def s30 (P : Program) (arg0 arg1 : Value) (K : Value → WP) : WP :=
  Do P (V (Instr.box 44 arg1)) fun p1 =>
  Do P (vBuiltin .len #[64] 3 [arg0]) fun t2_10 =>
  Lp (α := Value × Value) (fun c3 s3 => Jk fun _ => -- low high
   Do P (V (binOp .lss 3 s3.1 s3.2)) fun t4_13 =>
   If t4_13 (
    Do P (V (binOp .add 3 s3.1 s3.2)) fun t5_16 =>
    Do P (V (binOp .quo 3 t5_16 (.int .i64 2))) fun t6_17 =>
    Dr <|
    Qk P (V (Instr.loadAt 44 p1)) fun C7 t7_18 =>
    Qk P (V (Instr.indexAt 64 arg0 t6_17)) fun C8 t8_21 =>
    Qk P (V (Instr.loadAt 44 t8_21)) fun C9 t9_22 =>
    Do P (vCall (.func (.func 25) #[] ⟨[]⟩) [t7_18, t9_22]) fun t10_23 =>
    Do P (V (EqG .eql 3 (.tmp 24) (.const (.int .i64 0)) t10_23 (.int .i64 0))) fun t11_25 =>
    If t11_25 (
     K t6_17
    ) (
     Do P (V (binOp .lss 3 t10_23 (.int .i64 0))) fun t12_28 =>
     If t12_28 (
      c3 (s3.1, t6_17)
     ) (
      Do P (V (binOp .add 3 t6_17 (.int .i64 1))) fun t13_31 =>
      c3 (t13_31, s3.2)
     )
    )
   ) (
    K (.int .i64 (-1))
   )
  ) ((.int .i64 0), t2_10)
def A30 : Ann := .s (.n) (.s (.n) (.s (.n) (.s (.lp [5, 6] 4294965744 (.s (.s (.n) (.s (.n) (.n))) (.s (.n) (.s (.plan [(0, 8, 262144), (0, 1, 524288), (0, 128, 1048576), (6, 1572864, 2097152), (8, 2097152, 4194304), (17, 4456448, 8388608), (63, 8388608, 256)] (.q 0 (.q 1 (.q 2 (.q 3 (.q 4 (.l 5 (.q 6 .done)))))))) (.s (.s (.n) (.s (.s (.n) (.n)) (.n))) (.s (.n) (.s (.n) (.n)))))))) (.s (.n) (.n)))))
set_option maxRecDepth 100000 in
theorem c30 (arg0 arg1 : Value) (K : Value → WP) (w : World) (h : s30 Tryz.prog arg0 arg1 K w) : Runs Tryz.prog 30 [arg0, arg1] K w :=
  runs_of_E wide (fn := Tryz.f30) (c := Tryz.f30.body.getD .skip) 32 A30 [arg0, arg1] w K Tryz.func30 (by kernel_rfl) (by kernel_rfl) (by kernel_rfl) (by kernel_rfl)
    (Eq.mp (by kernel_rfl : s30 Tryz.prog arg0 arg1 K w = E Tryz.prog (Tryz.f30.body.getD .skip) A30 (topK Tryz.prog K Tryz.f30.results) (fun i => (([arg0, arg1] : List Value)[i]?).getD undef) w) h)
theorem ct30 {arg0 arg1 : Value} {h : Hp} {post : Hp → Value → Prop} (hg : ∀ w0, Gs w0 h h [] (s30 Tryz.prog arg0 arg1 (RetP w0 h post))) : Ct Tryz.prog 30 [arg0, arg1] h post := Ct.of (sf := s30 Tryz.prog arg0 arg1) (c30 arg0 arg1) hg
theorem in30 {arg0 arg1 : Value} {S : WP} {K : Value → WP} (hg : G S (s30 Tryz.prog arg0 arg1 K)) : G S (Do Tryz.prog (vCall (.func (.func 30) #[] ⟨[]⟩) [arg0, arg1]) K) := Gs.into (args := [arg0, arg1]) (caps := []) (sf := s30 Tryz.prog arg0 arg1) (c30 arg0 arg1) hg

/- skewer/pos.Print : names 0 _, 1 p, 2 _, 3 p, 5 cells, 6 _, 7 n -/
def s31 (P : Program) (arg0 arg1 : Value) (K : Value → WP) : WP :=
  Do P (V (Instr.box 39 arg0)) fun t1_2 =>
  Do P (V (Instr.box 44 arg1)) fun p2 =>
  Do P (V (Instr.alloc 116 true (.tuple #[]))) fun cells3 =>
  Do P (V (Instr.fieldAt 44 p2 0)) fun t4_8 =>
  Do P (V (Instr.loadAt 33 t4_8)) fun t5_9 =>
  Do P (vBuiltin .len #[33] 3 [t5_9]) fun t6_10 =>
  Lp (α := Value) (fun c7 s7 => Jk fun _ => -- t11
   Do P (V (binOp .lss 3 s7 t6_10)) fun t8_12 =>
   If t8_12 (
    Do P (V (Instr.indexAt 33 t5_9 s7)) fun t9_13 =>
    Do P (V (Instr.loadAt 3 t9_13)) fun t10_14 =>
    Do P (vCall (.func (.func 66) #[] ⟨[]⟩) [t10_14]) fun t11_16 =>
    Do P (vCall (.func (.func 65) #[] ⟨[]⟩) [cells3, t11_16]) fun t12_17 =>
    Do P (V (binOp .add 3 s7 (.int .i64 1))) fun t13_18 =>
    c7 t13_18
   ) (
    Dr <|
    Qk P (V (Instr.fieldAt 44 p2 1)) fun C14 t14_20 =>
    Qk P (V (Instr.indexAt 42 t14_20 (.int .i64 0))) fun C15 t15_21 =>
    Qk P (V (Instr.loadAt 33 t15_21)) fun C16 t16_22 =>
    Qk P (V (Instr.fieldAt 44 p2 1)) fun C17 t17_24 =>
    Qk P (V (Instr.indexAt 42 t17_24 (.int .i64 1))) fun C18 t18_25 =>
    Qk P (V (Instr.loadAt 33 t18_25)) fun C19 t19_26 =>
    Qk P (V (Instr.fieldAt 44 p2 2)) fun C20 t20_28 =>
    Qk P (V (Instr.loadAt 3 t20_28)) fun C21 t21_29 =>
    Qk P (V (Instr.fieldAt 44 p2 3)) fun C22 t22_31 =>
    Qk P (V (Instr.loadAt 3 t22_31)) fun C23 t23_32 =>
    Do P (vCall (.func (.func 68) #[] ⟨[]⟩) [cells3]) fun t24_19 =>
    With C23 <|
    With C22 <|
    With C21 <|
    With C20 <|
    With C19 <|
    With C18 <|
    With C17 <|
    With C16 <|
    With C15 <|
    With C14 <|
    Do P (vCall (.func (.func 69) #[] ⟨[]⟩) [t16_22]) fun t25_23 =>
    With C23 <|
    With C22 <|
    With C21 <|
    With C20 <|
    With C19 <|
    With C18 <|
    With C17 <|
    Do P (vCall (.func (.func 69) #[] ⟨[]⟩) [t19_26]) fun t26_27 =>
    With C23 <|
    With C22 <|
    With C21 <|
    With C20 <|
    Do P (vCall (.func (.func 70) #[] ⟨[]⟩) [t21_29]) fun t27_30 =>
    With C23 <|
    With C22 <|
    Do P (vCall (.func (.func 70) #[] ⟨[]⟩) [t23_32]) fun t28_33 =>
    Do P (vBuildSlice 46 5 [(0, t24_19), (1, t25_23), (2, t26_27), (3, t27_30), (4, t28_33)]) fun t29_34 =>
    Do P (vCall (.func (.func 67) #[] ⟨[]⟩) [t29_34, (.string ⟨#[47]⟩)]) fun t30_35 =>
    K t30_35
   )
  ) (.int .i64 0)
def A31 : Ann := .s (.n) (.s (.n) (.s (.s (.n) (.lp [11] 522368 (.s (.n) (.s (.s (.n) (.n)) (.s (.s (.n) (.n)) (.n)))))) (.s (.plan [(0, 32, 524288), (0, 8, 1048576), (2, 1048576, 2097152), (4, 2097152, 4194304), (9, 4194304, 8388608), (0, 8, 16777216), (32, 16777216, 33554432), (64, 33554432, 67108864), (144, 67108864, 134217728), (0, 8, 268435456), (512, 268435456, 536870912), (1280, 536870912, 1073741824), (0, 8, 2147483648), (4096, 2147483648, 4294967296), (10240, 4294967296, 8589934592), (18705, 9806807040, 17179869184), (49152, 17179869184, 34359738368), (131071, 34359738368, 16)] (.q 1 (.q 2 (.q 3 (.q 5 (.q 6 (.q 7 (.q 9 (.q 10 (.q 12 (.q 13 (.l 0 (.l 4 (.l 8 (.l 11 (.l 14 (.l 15 (.l 16 (.q 17 .done))))))))))))))))))) (.n))))
set_option maxRecDepth 100000 in
theorem c31 (arg0 arg1 : Value) (K : Value → WP) (w : World) (h : s31 Tryz.prog arg0 arg1 K w) : Runs Tryz.prog 31 [arg0, arg1] K w :=
  runs_of_E wide (fn := Tryz.f31) (c := Tryz.f31.body.getD .skip) 36 A31 [arg0, arg1] w K Tryz.func31 (by kernel_rfl) (by kernel_rfl) (by kernel_rfl) (by kernel_rfl)
    (Eq.mp (by kernel_rfl : s31 Tryz.prog arg0 arg1 K w = E Tryz.prog (Tryz.f31.body.getD .skip) A31 (topK Tryz.prog K Tryz.f31.results) (fun i => (([arg0, arg1] : List Value)[i]?).getD undef) w) h)
theorem ct31 {arg0 arg1 : Value} {h : Hp} {post : Hp → Value → Prop} (hg : ∀ w0, Gs w0 h h [] (s31 Tryz.prog arg0 arg1 (RetP w0 h post))) : Ct Tryz.prog 31 [arg0, arg1] h post := Ct.of (sf := s31 Tryz.prog arg0 arg1) (c31 arg0 arg1) hg
theorem in31 {arg0 arg1 : Value} {S : WP} {K : Value → WP} (hg : G S (s31 Tryz.prog arg0 arg1 K)) : G S (Do Tryz.prog (vCall (.func (.func 31) #[] ⟨[]⟩) [arg0, arg1]) K) := Gs.into (args := [arg0, arg1]) (caps := []) (sf := s31 Tryz.prog arg0 arg1) (c31 arg0 arg1) hg

/- skewer/skewerref01.Ints : names 0 a, 1 b, 2 a, 3 b, 5 i -/
def s32 (P : Program) (arg0 arg1 : Value) (K : Value → WP) : WP :=
  Do P (vBuiltin .len #[33] 3 [arg0]) fun t1_7 =>
  Do P (vBuiltin .len #[33] 3 [arg1]) fun t2_9 =>
  Do P (V (EqG .neq 3 (.tmp 7) (.tmp 9) t1_7 t2_9)) fun t3_10 =>
  If t3_10 (
   K (.bool false)
  ) (
   Lp (α := Value) (fun c4 s4 => Jk fun _ => -- i
    Do P (vBuiltin .len #[33] 3 [arg0]) fun t5_13 =>
    Do P (V (binOp .lss 3 s4 t5_13)) fun t6_14 =>
    If t6_14 (
     Dr <|
     Qk P (V (Instr.indexAt 33 arg0 s4)) fun C7 t7_19 =>
     Qk P (V (Instr.loadAt 3 t7_19)) fun C8 t8_20 =>
     Qk P (V (Instr.indexAt 33 arg1 s4)) fun C9 t9_23 =>
     Qk P (V (Instr.loadAt 3 t9_23)) fun C10 t10_24 =>
     Qk P (V (EqG .neq 3 (.tmp 20) (.tmp 24) t8_20 t10_24)) fun C11 t11_25 =>
     If t11_25 (
      K (.bool false)
     ) (
      Do P (V (binOp .add 3 s4 (.int .i64 1))) fun t12_16 =>
      c4 t12_16
     )
    ) (
     K (.bool true)
    )
   ) (.int .i64 0)
  )
def A32 : Ann := .s (.n) (.s (.s (.n) (.s (.s (.n) (.n)) (.n))) (.s (.s (.n) (.lp [5] 67106864 (.s (.s (.n) (.s (.n) (.n))) (.s (.s (.plan [(0, 1, 131072), (0, 32, 262144), (3, 393216, 524288), (4, 524288, 1048576), (0, 2, 2097152), (0, 32, 4194304), (48, 6291456, 8388608), (64, 8388608, 16777216), (136, 17825792, 33554432)] (.q 0 (.q 1 (.q 2 (.q 3 (.q 4 (.q 5 (.q 6 (.q 7 (.q 8 .done)))))))))) (.s (.s (.n) (.n)) (.n))) (.n))))) (.s (.n) (.n))))
set_option maxRecDepth 100000 in
theorem c32 (arg0 arg1 : Value) (K : Value → WP) (w : World) (h : s32 Tryz.prog arg0 arg1 K w) : Runs Tryz.prog 32 [arg0, arg1] K w :=
  runs_of_E wide (fn := Tryz.f32) (c := Tryz.f32.body.getD .skip) 26 A32 [arg0, arg1] w K Tryz.func32 (by kernel_rfl) (by kernel_rfl) (by kernel_rfl) (by kernel_rfl)
    (Eq.mp (by kernel_rfl : s32 Tryz.prog arg0 arg1 K w = E Tryz.prog (Tryz.f32.body.getD .skip) A32 (topK Tryz.prog K Tryz.f32.results) (fun i => (([arg0, arg1] : List Value)[i]?).getD undef) w) h)
theorem ct32 {arg0 arg1 : Value} {h : Hp} {post : Hp → Value → Prop} (hg : ∀ w0, Gs w0 h h [] (s32 Tryz.prog arg0 arg1 (RetP w0 h post))) : Ct Tryz.prog 32 [arg0, arg1] h post := Ct.of (sf := s32 Tryz.prog arg0 arg1) (c32 arg0 arg1) hg
theorem in32 {arg0 arg1 : Value} {S : WP} {K : Value → WP} (hg : G S (s32 Tryz.prog arg0 arg1 K)) : G S (Do Tryz.prog (vCall (.func (.func 32) #[] ⟨[]⟩) [arg0, arg1]) K) := Gs.into (args := [arg0, arg1]) (caps := []) (sf := s32 Tryz.prog arg0 arg1) (c32 arg0 arg1) hg

/- skewer/pos.Count : names 0 g, 1 p, 2 side, 3 g, 4 p, 5 side, 7 out, 8 _, 9 n -/
def s33 (P : Program) (arg0 arg1 arg2 : Value) (K : Value → WP) : WP :=
  Do P (V (Instr.box 39 arg0)) fun g1 =>
  Do P (V (Instr.box 44 arg1)) fun p2 =>
  Do P (V (Instr.fieldAt 39 g1 1)) fun t3_10 =>
  Do P (V (Instr.loadAt 36 t3_10)) fun t4_11 =>
  Do P (vBuiltin .len #[36] 3 [t4_11]) fun t5_12 =>
  Do P (V (Instr.makeSlice 33 t5_12 t5_12)) fun t6_13 =>
  Do P (V (Instr.fieldAt 44 p2 0)) fun t7_14 =>
  Do P (V (Instr.loadAt 33 t7_14)) fun t8_15 =>
  Do P (vBuiltin .len #[33] 3 [t8_15]) fun t9_16 =>
  Lp (α := Value) (fun c10 s10 => Jk fun _ => -- t17
   Do P (V (binOp .lss 3 s10 t9_16)) fun t11_18 =>
   If t11_18 (
    Jn (α := Unit) (fun j12 => Jk fun _ => -- 
     Do P (V (binOp .add 3 s10 (.int .i64 1))) fun t13_38 =>
     c10 t13_38
    ) fun k12 =>
    Do P (V (Instr.indexAt 33 t8_15 s10)) fun t14_19 =>
    Do P (V (Instr.loadAt 3 t14_19)) fun t15_20 =>
    Jn (α := Value) (fun j16 => Jk fun _ => -- t29
     If j16 (
      Do P (V (binOp .sub 3 t15_20 (.int .i64 1))) fun t17_32 =>
      Do P (V (binOp .quo 3 t17_32 (.int .i64 2))) fun t18_33 =>
      Do P (V (Instr.indexAt 33 t6_13 t18_33)) fun t19_34 =>
      Do P (V (Instr.loadAt 3 t19_34)) fun t20_35 =>
      Do P (V (binOp .add 3 t20_35 (.int .i64 1))) fun t21_36 =>
      Do P (V (Instr.indexAt 33 t6_13 t18_33)) fun t22_37 =>
      Do P (U (Instr.storeAt 3 t22_37 t21_36)) fun t23_x =>
      k12 ()
     ) (
      k12 ()
     )
    ) fun k16 =>
    Do P (V (binOp .gtr 3 t15_20 (.int .i64 0))) fun t24_22 =>
    Gd t24_22 true (
     Do P (V (binOp .sub 3 t15_20 (.int .i64 1))) fun t25_25 =>
     Do P (V (binOp .rem 3 t25_25 (.int .i64 2))) fun t26_26 =>
     Do P (V (EqG .eql 3 (.tmp 26) (.tmp 27) t26_26 arg2)) fun t27_28 =>
     k16 t27_28
    ) (
     k16 (.bool false)
    )
   ) (
    K t6_13
   )
  ) (.int .i64 0)
def A33 : Ann := .s (.n) (.s (.n) (.s (.s (.n) (.lp [17] 549755683328 (.s (.n) (.s (.s (.n) (.n)) (.j [] 274877383168 (.s (.n) (.j [29] 1071644672 (.n) (.s (.n) (.n)))) (.n)))))) (.s (.n) (.n))))
set_option maxRecDepth 100000 in
theorem c33 (arg0 arg1 arg2 : Value) (K : Value → WP) (w : World) (h : s33 Tryz.prog arg0 arg1 arg2 K w) : Runs Tryz.prog 33 [arg0, arg1, arg2] K w :=
  runs_of_E wide (fn := Tryz.f33) (c := Tryz.f33.body.getD .skip) 40 A33 [arg0, arg1, arg2] w K Tryz.func33 (by kernel_rfl) (by kernel_rfl) (by kernel_rfl) (by kernel_rfl)
    (Eq.mp (by kernel_rfl : s33 Tryz.prog arg0 arg1 arg2 K w = E Tryz.prog (Tryz.f33.body.getD .skip) A33 (topK Tryz.prog K Tryz.f33.results) (fun i => (([arg0, arg1, arg2] : List Value)[i]?).getD undef) w) h)
theorem ct33 {arg0 arg1 arg2 : Value} {h : Hp} {post : Hp → Value → Prop} (hg : ∀ w0, Gs w0 h h [] (s33 Tryz.prog arg0 arg1 arg2 (RetP w0 h post))) : Ct Tryz.prog 33 [arg0, arg1, arg2] h post := Ct.of (sf := s33 Tryz.prog arg0 arg1 arg2) (c33 arg0 arg1 arg2) hg
theorem in33 {arg0 arg1 arg2 : Value} {S : WP} {K : Value → WP} (hg : G S (s33 Tryz.prog arg0 arg1 arg2 K)) : G S (Do Tryz.prog (vCall (.func (.func 33) #[] ⟨[]⟩) [arg0, arg1, arg2]) K) := Gs.into (args := [arg0, arg1, arg2]) (caps := []) (sf := s33 Tryz.prog arg0 arg1 arg2) (c33 arg0 arg1 arg2) hg

/- skewer/skewerref04.Count : names 0 g, 1 p, 2 side, 3 g, 4 p, 5 side, 7 out, 8 c -/
def s34 (P : Program) (arg0 arg1 arg2 : Value) (K : Value → WP) : WP :=
  Do P (V (Instr.box 39 arg0)) fun g1 =>
  Do P (V (Instr.box 44 arg1)) fun p2 =>
  Do P (V (Instr.fieldAt 39 g1 1)) fun t3_9 =>
  Do P (V (Instr.loadAt 36 t3_9)) fun t4_10 =>
  Do P (vBuiltin .len #[36] 3 [t4_10]) fun t5_11 =>
  Do P (V (Instr.makeSlice 33 t5_11 t5_11)) fun t6_12 =>
  Lp (α := Value) (fun c7 s7 => Jk fun _ => -- c
   Do P (V (Instr.fieldAt 44 p2 0)) fun t8_14 =>
   Do P (V (Instr.loadAt 33 t8_14)) fun t9_15 =>
   Do P (vBuiltin .len #[33] 3 [t9_15]) fun t10_16 =>
   Do P (V (binOp .lss 3 s7 t10_16)) fun t11_17 =>
   If t11_17 (
    Jn (α := Unit) (fun j12 => Jk fun _ => -- 
     Do P (V (binOp .add 3 s7 (.int .i64 1))) fun t13_19 =>
     c7 t13_19
    ) fun k12 =>
    Jn (α := Value) (fun j14 => Jk fun _ => -- t36
     If j14 (
      Do P (V (Instr.fieldAt 44 p2 0)) fun t15_38 =>
      Do P (V (Instr.loadAt 33 t15_38)) fun t16_39 =>
      Do P (V (Instr.indexAt 33 t16_39 s7)) fun t17_41 =>
      Do P (V (Instr.loadAt 3 t17_41)) fun t18_42 =>
      Do P (V (binOp .sub 3 t18_42 (.int .i64 1))) fun t19_43 =>
      Do P (V (binOp .quo 3 t19_43 (.int .i64 2))) fun t20_44 =>
      Do P (V (Instr.indexAt 33 t6_12 t20_44)) fun t21_45 =>
      Do P (V (Instr.loadAt 3 t21_45)) fun t22_46 =>
      Do P (V (binOp .add 3 t22_46 (.int .i64 1))) fun t23_47 =>
      Do P (V (Instr.indexAt 33 t6_12 t20_44)) fun t24_48 =>
      Do P (U (Instr.storeAt 3 t24_48 t23_47)) fun t25_x =>
      k12 ()
     ) (
      k12 ()
     )
    ) fun k14 =>
    Do P (V (Instr.fieldAt 44 p2 0)) fun t26_20 =>
    Do P (V (Instr.loadAt 33 t26_20)) fun t27_21 =>
    Do P (V (Instr.indexAt 33 t27_21 s7)) fun t28_23 =>
    Do P (V (Instr.loadAt 3 t28_23)) fun t29_24 =>
    Do P (V (binOp .gtr 3 t29_24 (.int .i64 0))) fun t30_25 =>
    Gd t30_25 true (
     Do P (V (Instr.fieldAt 44 p2 0)) fun t31_27 =>
     Do P (V (Instr.loadAt 33 t31_27)) fun t32_28 =>
     Do P (V (Instr.indexAt 33 t32_28 s7)) fun t33_30 =>
     Do P (V (Instr.loadAt 3 t33_30)) fun t34_31 =>
     Do P (V (binOp .sub 3 t34_31 (.int .i64 1))) fun t35_32 =>
     Do P (V (binOp .rem 3 t35_32 (.int .i64 2))) fun t36_33 =>
     Do P (V (EqG .eql 3 (.tmp 33) (.tmp 34) t36_33 arg2)) fun t37_35 =>
     k14 t37_35
    ) (
     k14 (.bool false)
    )
   ) (
    K t6_12
   )
  ) (.int .i64 0)
def A34 : Ann := .s (.n) (.s (.n) (.s (.s (.n) (.lp [8] 562949953413376 (.s (.s (.n) (.s (.n) (.n))) (.j [] 562949952372736 (.j [36] 137437904896 (.n) (.s (.n) (.n))) (.n))))) (.s (.n) (.n))))
set_option maxRecDepth 100000 in
theorem c34 (arg0 arg1 arg2 : Value) (K : Value → WP) (w : World) (h : s34 Tryz.prog arg0 arg1 arg2 K w) : Runs Tryz.prog 34 [arg0, arg1, arg2] K w :=
  runs_of_E wide (fn := Tryz.f34) (c := Tryz.f34.body.getD .skip) 50 A34 [arg0, arg1, arg2] w K Tryz.func34 (by kernel_rfl) (by kernel_rfl) (by kernel_rfl) (by kernel_rfl)
    (Eq.mp (by kernel_rfl : s34 Tryz.prog arg0 arg1 arg2 K w = E Tryz.prog (Tryz.f34.body.getD .skip) A34 (topK Tryz.prog K Tryz.f34.results) (fun i => (([arg0, arg1, arg2] : List Value)[i]?).getD undef) w) h)
theorem ct34 {arg0 arg1 arg2 : Value} {h : Hp} {post : Hp → Value → Prop} (hg : ∀ w0, Gs w0 h h [] (s34 Tryz.prog arg0 arg1 arg2 (RetP w0 h post))) : Ct Tryz.prog 34 [arg0, arg1, arg2] h post := Ct.of (sf := s34 Tryz.prog arg0 arg1 arg2) (c34 arg0 arg1 arg2) hg
theorem in34 {arg0 arg1 arg2 : Value} {S : WP} {K : Value → WP} (hg : G S (s34 Tryz.prog arg0 arg1 arg2 K)) : G S (Do Tryz.prog (vCall (.func (.func 34) #[] ⟨[]⟩) [arg0, arg1, arg2]) K) := Gs.into (args := [arg0, arg1, arg2]) (caps := []) (sf := s34 Tryz.prog arg0 arg1 arg2) (c34 arg0 arg1 arg2) hg

/- skewer/skewerlaw04.has : names 0 l, 1 p, 2 l, 3 p, 5 i -/
def s35 (P : Program) (arg0 arg1 : Value) (K : Value → WP) : WP :=
  Do P (V (Instr.box 44 arg1)) fun p1 =>
  Lp (α := Value) (fun c2 s2 => Jk fun _ => -- i
   Do P (vBuiltin .len #[64] 3 [arg0]) fun t3_8 =>
   Do P (V (binOp .lss 3 s2 t3_8)) fun t4_9 =>
   If t4_9 (
    Dr <|
    Qk P (V (Instr.indexAt 64 arg0 s2)) fun C5 t5_14 =>
    Qk P (V (Instr.loadAt 44 t5_14)) fun C6 t6_15 =>
    Qk P (V (Instr.loadAt 44 p1)) fun C7 t7_16 =>
    Do P (vCall (.func (.func 18) #[] ⟨[]⟩) [t6_15, t7_16]) fun t8_17 =>
    If t8_17 (
     K (.bool true)
    ) (
     Do P (V (binOp .add 3 s2 (.int .i64 1))) fun t9_11 =>
     c2 t9_11
    )
   ) (
    K (.bool false)
   )
  ) (.int .i64 0)
def A35 : Ann := .s (.n) (.s (.s (.n) (.lp [5] 262128 (.s (.s (.n) (.s (.n) (.n))) (.s (.s (.plan [(0, 1, 4096), (0, 32, 8192), (3, 12288, 16384), (4, 16384, 32768), (0, 8, 65536), (24, 98304, 131072)] (.q 0 (.q 1 (.q 2 (.q 3 (.q 4 (.l 5 .done))))))) (.s (.s (.n) (.n)) (.n))) (.n))))) (.s (.n) (.n)))
set_option maxRecDepth 100000 in
theorem c35 (arg0 arg1 : Value) (K : Value → WP) (w : World) (h : s35 Tryz.prog arg0 arg1 K w) : Runs Tryz.prog 35 [arg0, arg1] K w :=
  runs_of_E wide (fn := Tryz.f35) (c := Tryz.f35.body.getD .skip) 18 A35 [arg0, arg1] w K Tryz.func35 (by kernel_rfl) (by kernel_rfl) (by kernel_rfl) (by kernel_rfl)
    (Eq.mp (by kernel_rfl : s35 Tryz.prog arg0 arg1 K w = E Tryz.prog (Tryz.f35.body.getD .skip) A35 (topK Tryz.prog K Tryz.f35.results) (fun i => (([arg0, arg1] : List Value)[i]?).getD undef) w) h)
theorem ct35 {arg0 arg1 : Value} {h : Hp} {post : Hp → Value → Prop} (hg : ∀ w0, Gs w0 h h [] (s35 Tryz.prog arg0 arg1 (RetP w0 h post))) : Ct Tryz.prog 35 [arg0, arg1] h post := Ct.of (sf := s35 Tryz.prog arg0 arg1) (c35 arg0 arg1) hg
theorem in35 {arg0 arg1 : Value} {S : WP} {K : Value → WP} (hg : G S (s35 Tryz.prog arg0 arg1 K)) : G S (Do Tryz.prog (vCall (.func (.func 35) #[] ⟨[]⟩) [arg0, arg1]) K) := Gs.into (args := [arg0, arg1]) (caps := []) (sf := s35 Tryz.prog arg0 arg1) (c35 arg0 arg1) hg

/- skewer/skewerref04.Same : names 0 p, 1 q, 2 p, 3 q -/
def s36 (P : Program) (arg0 arg1 : Value) (K : Value → WP) : WP :=
  Do P (V (Instr.box 44 arg0)) fun p1 =>
  Do P (V (Instr.box 44 arg1)) fun q2 =>
  Do P (V (Instr.loadAt 44 p1)) fun t3_5 =>
  Do P (V (Instr.loadAt 44 q2)) fun t4_6 =>
  Do P (vCall (.func (.func 25) #[] ⟨[]⟩) [t3_5, t4_6]) fun t5_7 =>
  Do P (V (EqG .eql 3 (.tmp 7) (.const (.int .i64 0)) t5_7 (.int .i64 0))) fun t6_8 =>
  K t6_8
def A36 : Ann := .s (.n) (.s (.n) (.n))
set_option maxRecDepth 100000 in
theorem c36 (arg0 arg1 : Value) (K : Value → WP) (w : World) (h : s36 Tryz.prog arg0 arg1 K w) : Runs Tryz.prog 36 [arg0, arg1] K w :=
  runs_of_E wide (fn := Tryz.f36) (c := Tryz.f36.body.getD .skip) 9 A36 [arg0, arg1] w K Tryz.func36 (by kernel_rfl) (by kernel_rfl) (by kernel_rfl) (by kernel_rfl)
    (Eq.mp (by kernel_rfl : s36 Tryz.prog arg0 arg1 K w = E Tryz.prog (Tryz.f36.body.getD .skip) A36 (topK Tryz.prog K Tryz.f36.results) (fun i => (([arg0, arg1] : List Value)[i]?).getD undef) w) h)
theorem ct36 {arg0 arg1 : Value} {h : Hp} {post : Hp → Value → Prop} (hg : ∀ w0, Gs w0 h h [] (s36 Tryz.prog arg0 arg1 (RetP w0 h post))) : Ct Tryz.prog 36 [arg0, arg1] h post := Ct.of (sf := s36 Tryz.prog arg0 arg1) (c36 arg0 arg1) hg
theorem in36 {arg0 arg1 : Value} {S : WP} {K : Value → WP} (hg : G S (s36 Tryz.prog arg0 arg1 K)) : G S (Do Tryz.prog (vCall (.func (.func 36) #[] ⟨[]⟩) [arg0, arg1]) K) := Gs.into (args := [arg0, arg1]) (caps := []) (sf := s36 Tryz.prog arg0 arg1) (c36 arg0 arg1) hg

/- skewer/skewerref01.Made : names 0 w, 1 h, 2 cut, 3 w, 4 h, 5 cut, 7 b, 8 _ -/
def s37 (P : Program) (arg0 arg1 arg2 : Value) (K : Value → WP) : WP :=
  Do P (V (Instr.alloc 35 true (.tuple #[]))) fun t1_6 =>
  Do P (V (binOp .rem 5 arg0 (.int .u8 3))) fun t2_11 =>
  Do P (V (convert 5 3 t2_11)) fun t3_12 =>
  Do P (V (binOp .add 3 (.int .i64 1) t3_12)) fun t4_13 =>
  Do P (V (binOp .rem 5 arg1 (.int .u8 3))) fun t5_15 =>
  Do P (V (convert 5 3 t5_15)) fun t6_16 =>
  Do P (V (binOp .add 3 (.int .i64 1) t6_16)) fun t7_17 =>
  Do P (vCall (.func (.func 71) #[] ⟨[]⟩) [t4_13, t7_17]) fun t8_18 =>
  Do P (V (Instr.extract t8_18 0)) fun t9_19 =>
  Do P (V (Instr.extract t8_18 1)) fun t10_20 =>
  Do P (V (Instr.alloc 35 true (.tuple #[]))) fun b11 =>
  Do P (U (Instr.storeAt 35 b11 t9_19)) fun t12_x =>
  Jn (α := Unit) (fun j13 => Jk fun _ => -- 
   Do P (V (Instr.loadAt 35 b11)) fun t14_33 =>
   Do P (U (Instr.storeAt 35 t1_6 t14_33)) fun t15_x =>
   RetC P 35 t1_6 K
  ) fun k13 =>
  Do P (V (binOp .gtr 5 arg2 (.int .u8 200))) fun t16_22 =>
  If t16_22 (
   Dr <|
   Qk P (V (Instr.loadAt 35 b11)) fun C17 t17_24 =>
   Qk P (V (convert 5 3 arg2)) fun C18 t18_26 =>
   Qk P (V (Instr.fieldAt 35 b11 0)) fun C19 t19_27 =>
   Qk P (V (Instr.loadAt 3 t19_27)) fun C20 t20_28 =>
   Qk P (V (binOp .rem 3 t18_26 t20_28)) fun C21 t21_29 =>
   Do P (vCall (.func (.func 72) #[] ⟨[]⟩) [t17_24, t21_29]) fun t22_30 =>
   Qk P (V (Instr.extract t22_30 0)) fun C23 t23_31 =>
   Qk P (V (Instr.extract t22_30 1)) fun C24 t24_32 =>
   Do P (U (Instr.storeAt 35 b11 t23_31)) fun t25_x =>
   With C24 <|
   k13 ()
  ) (
   k13 ()
  )
def A37 : Ann := .s (.n) (.s (.n) (.j [] 8587837440 (.s (.n) (.s (.plan [(0, 128, 16777216), (0, 4, 33554432), (2, 33554432, 67108864), (0, 128, 134217728), (8, 134217728, 268435456), (20, 335544320, 536870912), (33, 553648128, 1073741824), (64, 1073741824, 8388608), (128, 8388608, 2147483648), (128, 8388608, 4294967296), (511, 2147483776, 0)] (.q 0 (.q 1 (.q 2 (.q 3 (.q 4 (.q 5 (.l 6 (.q 7 (.q 8 (.q 9 (.l 10 .done)))))))))))) (.n))) (.s (.n) (.n))))
set_option maxRecDepth 100000 in
theorem c37 (arg0 arg1 arg2 : Value) (K : Value → WP) (w : World) (h : s37 Tryz.prog arg0 arg1 arg2 K w) : Runs Tryz.prog 37 [arg0, arg1, arg2] K w :=
  runs_of_E wide (fn := Tryz.f37) (c := Tryz.f37.body.getD .skip) 34 A37 [arg0, arg1, arg2] w K Tryz.func37 (by kernel_rfl) (by kernel_rfl) (by kernel_rfl) (by kernel_rfl)
    (Eq.mp (by kernel_rfl : s37 Tryz.prog arg0 arg1 arg2 K w = E Tryz.prog (Tryz.f37.body.getD .skip) A37 (topK Tryz.prog K Tryz.f37.results) (fun i => (([arg0, arg1, arg2] : List Value)[i]?).getD undef) w) h)
theorem ct37 {arg0 arg1 arg2 : Value} {h : Hp} {post : Hp → Value → Prop} (hg : ∀ w0, Gs w0 h h [] (s37 Tryz.prog arg0 arg1 arg2 (RetP w0 h post))) : Ct Tryz.prog 37 [arg0, arg1, arg2] h post := Ct.of (sf := s37 Tryz.prog arg0 arg1 arg2) (c37 arg0 arg1 arg2) hg
theorem in37 {arg0 arg1 arg2 : Value} {S : WP} {K : Value → WP} (hg : G S (s37 Tryz.prog arg0 arg1 arg2 K)) : G S (Do Tryz.prog (vCall (.func (.func 37) #[] ⟨[]⟩) [arg0, arg1, arg2]) K) := Gs.into (args := [arg0, arg1, arg2]) (caps := []) (sf := s37 Tryz.prog arg0 arg1 arg2) (c37 arg0 arg1 arg2) hg

/- skewer/skewerref02.Made : names 0 n, 1 dirs, 2 kinds, 3 rights, 4 n, 5 dirs, 6 kinds, 7 rights -/
def s38 (P : Program) (arg0 arg1 arg2 arg3 : Value) (K : Value → WP) : WP :=
  Do P (V (binOp .quo 5 arg0 (.int .u8 16))) fun t1_11 =>
  Do P (V (binOp .quo 5 arg0 (.int .u8 16))) fun t2_13 =>
  Do P (V (binOp .rem 5 arg0 (.int .u8 5))) fun t3_15 =>
  Do P (V (binOp .add 5 t2_13 t3_15)) fun t4_16 =>
  Do P (V (binOp .quo 5 arg0 (.int .u8 3))) fun t5_18 =>
  Do P (vBuildSlice 22 5 [(0, arg0), (1, t1_11), (2, t4_16), (3, t5_18), (4, arg0)]) fun t6_20 =>
  Do P (vCall (.func (.func 74) #[] ⟨[]⟩) [t6_20]) fun t7_21 =>
  Do P (vCall (.func (.func 73) #[] ⟨[]⟩) [t7_21, arg1, arg2, arg3]) fun t8_25 =>
  K t8_25
def A38 : Ann := .s (.n) (.s (.n) (.n))
set_option maxRecDepth 100000 in
theorem c38 (arg0 arg1 arg2 arg3 : Value) (K : Value → WP) (w : World) (h : s38 Tryz.prog arg0 arg1 arg2 arg3 K w) : Runs Tryz.prog 38 [arg0, arg1, arg2, arg3] K w :=
  runs_of_E wide (fn := Tryz.f38) (c := Tryz.f38.body.getD .skip) 26 A38 [arg0, arg1, arg2, arg3] w K Tryz.func38 (by kernel_rfl) (by kernel_rfl) (by kernel_rfl) (by kernel_rfl)
    (Eq.mp (by kernel_rfl : s38 Tryz.prog arg0 arg1 arg2 arg3 K w = E Tryz.prog (Tryz.f38.body.getD .skip) A38 (topK Tryz.prog K Tryz.f38.results) (fun i => (([arg0, arg1, arg2, arg3] : List Value)[i]?).getD undef) w) h)
theorem ct38 {arg0 arg1 arg2 arg3 : Value} {h : Hp} {post : Hp → Value → Prop} (hg : ∀ w0, Gs w0 h h [] (s38 Tryz.prog arg0 arg1 arg2 arg3 (RetP w0 h post))) : Ct Tryz.prog 38 [arg0, arg1, arg2, arg3] h post := Ct.of (sf := s38 Tryz.prog arg0 arg1 arg2 arg3) (c38 arg0 arg1 arg2 arg3) hg
theorem in38 {arg0 arg1 arg2 arg3 : Value} {S : WP} {K : Value → WP} (hg : G S (s38 Tryz.prog arg0 arg1 arg2 arg3 K)) : G S (Do Tryz.prog (vCall (.func (.func 38) #[] ⟨[]⟩) [arg0, arg1, arg2, arg3]) K) := Gs.into (args := [arg0, arg1, arg2, arg3]) (caps := []) (sf := s38 Tryz.prog arg0 arg1 arg2 arg3) (c38 arg0 arg1 arg2 arg3) hg

/- skewer/skewerref04.sign : names 0 n, 1 n -/
def s39 (P : Program) (arg0 : Value) (K : Value → WP) : WP :=
  Do P (V (EqG .eql 3 (.tmp 3) (.const (.int .i64 0)) arg0 (.int .i64 0))) fun t1_4 =>
  If t1_4 (
   K (.string ⟨#[46]⟩)
  ) (
   Do P (V (binOp .rem 3 arg0 (.int .i64 2))) fun t2_6 =>
   Do P (V (EqG .eql 3 (.tmp 6) (.const (.int .i64 1)) t2_6 (.int .i64 1))) fun t3_7 =>
   If t3_7 (
    Do P (V (binOp .sub 3 arg0 (.int .i64 1))) fun t4_9 =>
    Do P (V (binOp .quo 3 t4_9 (.int .i64 2))) fun t5_10 =>
    Do P (V (binOp .add 3 (.int .i64 65) t5_10)) fun t6_11 =>
    Do P (V (convert 3 5 t6_11)) fun t7_12 =>
    Do P (vBuildSlice 22 1 [(0, t7_12)]) fun t8_13 =>
    Do P (V (convert 22 9 t8_13)) fun t9_14 =>
    K t9_14
   ) (
    Do P (V (binOp .sub 3 arg0 (.int .i64 1))) fun t10_16 =>
    Do P (V (binOp .quo 3 t10_16 (.int .i64 2))) fun t11_17 =>
    Do P (V (binOp .add 3 (.int .i64 97) t11_17)) fun t12_18 =>
    Do P (V (convert 3 5 t12_18)) fun t13_19 =>
    Do P (vBuildSlice 22 1 [(0, t13_19)]) fun t14_20 =>
    Do P (V (convert 22 9 t14_20)) fun t15_21 =>
    K t15_21
   )
  )
def A39 : Ann := .s (.n) (.s (.s (.n) (.s (.s (.n) (.n)) (.n))) (.s (.s (.n) (.s (.s (.n) (.n)) (.n))) (.s (.n) (.n))))
set_option maxRecDepth 100000 in
theorem c39 (arg0 : Value) (K : Value → WP) (w : World) (h : s39 Tryz.prog arg0 K w) : Runs Tryz.prog 39 [arg0] K w :=
  runs_of_E wide (fn := Tryz.f39) (c := Tryz.f39.body.getD .skip) 22 A39 [arg0] w K Tryz.func39 (by kernel_rfl) (by kernel_rfl) (by kernel_rfl) (by kernel_rfl)
    (Eq.mp (by kernel_rfl : s39 Tryz.prog arg0 K w = E Tryz.prog (Tryz.f39.body.getD .skip) A39 (topK Tryz.prog K Tryz.f39.results) (fun i => (([arg0] : List Value)[i]?).getD undef) w) h)
theorem ct39 {arg0 : Value} {h : Hp} {post : Hp → Value → Prop} (hg : ∀ w0, Gs w0 h h [] (s39 Tryz.prog arg0 (RetP w0 h post))) : Ct Tryz.prog 39 [arg0] h post := Ct.of (sf := s39 Tryz.prog arg0) (c39 arg0) hg
theorem in39 {arg0 : Value} {S : WP} {K : Value → WP} (hg : G S (s39 Tryz.prog arg0 K)) : G S (Do Tryz.prog (vCall (.func (.func 39) #[] ⟨[]⟩) [arg0]) K) := Gs.into (args := [arg0]) (caps := []) (sf := s39 Tryz.prog arg0) (c39 arg0) hg

/- skewer/skewerref04.decimal : names 0 n, 1 n, 3 out -/
def s40 (P : Program) (arg0 : Value) (K : Value → WP) : WP :=
  Do P (V (binOp .rem 3 arg0 (.int .i64 10))) fun t1_5 =>
  Do P (V (binOp .add 3 (.int .i64 48) t1_5)) fun t2_6 =>
  Do P (V (convert 3 5 t2_6)) fun t3_7 =>
  Do P (vBuildSlice 22 1 [(0, t3_7)]) fun t4_8 =>
  Do P (V (convert 22 9 t4_8)) fun t5_9 =>
  Do P (V (binOp .geq 3 arg0 (.int .i64 10))) fun t6_11 =>
  If t6_11 (
   Do P (V (binOp .quo 3 arg0 (.int .i64 10))) fun t7_13 =>
   Do P (V (binOp .add 3 (.int .i64 48) t7_13)) fun t8_14 =>
   Do P (V (convert 3 5 t8_14)) fun t9_15 =>
   Do P (vBuildSlice 22 1 [(0, t9_15)]) fun t10_16 =>
   Do P (V (convert 22 9 t10_16)) fun t11_17 =>
   Do P (V (binOp .add 9 t11_17 t5_9)) fun t12_19 =>
   K t12_19
  ) (
   K t5_9
  )
def A40 : Ann := .s (.n) (.s (.n) (.s (.s (.n) (.s (.n) (.n))) (.s (.n) (.n))))
set_option maxRecDepth 100000 in
theorem c40 (arg0 : Value) (K : Value → WP) (w : World) (h : s40 Tryz.prog arg0 K w) : Runs Tryz.prog 40 [arg0] K w :=
  runs_of_E wide (fn := Tryz.f40) (c := Tryz.f40.body.getD .skip) 21 A40 [arg0] w K Tryz.func40 (by kernel_rfl) (by kernel_rfl) (by kernel_rfl) (by kernel_rfl)
    (Eq.mp (by kernel_rfl : s40 Tryz.prog arg0 K w = E Tryz.prog (Tryz.f40.body.getD .skip) A40 (topK Tryz.prog K Tryz.f40.results) (fun i => (([arg0] : List Value)[i]?).getD undef) w) h)
theorem ct40 {arg0 : Value} {h : Hp} {post : Hp → Value → Prop} (hg : ∀ w0, Gs w0 h h [] (s40 Tryz.prog arg0 (RetP w0 h post))) : Ct Tryz.prog 40 [arg0] h post := Ct.of (sf := s40 Tryz.prog arg0) (c40 arg0) hg
theorem in40 {arg0 : Value} {S : WP} {K : Value → WP} (hg : G S (s40 Tryz.prog arg0 K)) : G S (Do Tryz.prog (vCall (.func (.func 40) #[] ⟨[]⟩) [arg0]) K) := Gs.into (args := [arg0]) (caps := []) (sf := s40 Tryz.prog arg0) (c40 arg0) hg

/- skewer/game.Valid : names 0 g, 1 g, 3 i, 4 k, 5 wrong -/
def s42 (P : Program) (arg0 : Value) (K : Value → WP) : WP :=
  Do P (V (Instr.box 39 arg0)) fun g1 =>
  Jn (α := Value) (fun j2 => Jk fun _ => -- t49
   If j2 (
    K (.bool false)
   ) (
    Do P (V (Instr.fieldAt 39 g1 1)) fun t3_50 =>
    Do P (V (Instr.loadAt 36 t3_50)) fun t4_51 =>
    Do P (vBuiltin .len #[36] 3 [t4_51]) fun t5_52 =>
    Lp (α := Value) (fun c6 s6 => Jk fun _ => -- t53
     Do P (V (binOp .lss 3 s6 t5_52)) fun t7_54 =>
     If t7_54 (
      Do P (V (Instr.indexAt 36 t4_51 s6)) fun t8_56 =>
      Do P (V (Instr.loadAt 59 t8_56)) fun t9_57 =>
      Do P (V (Instr.alloc 59 true (.tuple #[]))) fun k10 =>
      Do P (U (Instr.storeAt 59 k10 t9_57)) fun t11_x =>
      Jn (α := Value) (fun j12 => Jk fun _ => -- t82
       If j12 (
        K (.bool false)
       ) (
        Do P (V (binOp .add 3 s6 (.int .i64 1))) fun t13_83 =>
        c6 t13_83
       )
      ) fun k12 =>
      Do P (V (Instr.fieldAt 59 k10 0)) fun t14_59 =>
      Do P (V (Instr.loadAt 9 t14_59)) fun t15_60 =>
      Do P (vCall (.func (.func 80) #[] ⟨[]⟩) [t15_60]) fun t16_61 =>
      Do P (V (Op.unary .not t16_61)) fun t17_62 =>
      Gd t17_62 false (
       Do P (V (Instr.loadAt 39 g1)) fun t18_64 =>
       Do P (V (Instr.fieldAt 59 k10 0)) fun t19_65 =>
       Do P (V (Instr.loadAt 9 t19_65)) fun t20_66 =>
       Do P (vCall (.func (.func 81) #[] ⟨[]⟩) [t18_64, t20_66]) fun t21_67 =>
       Do P (V (EqG .neq 3 (.tmp 67) (.tmp 68) t21_67 s6)) fun t22_69 =>
       Gd t22_69 false (
        Do P (V (Instr.fieldAt 59 k10 1)) fun t23_72 =>
        Do P (V (Instr.loadAt 57 t23_72)) fun t24_73 =>
        Do P (vBuiltin .len #[57] 3 [t24_73]) fun t25_74 =>
        Do P (V (binOp .gtr 3 t25_74 (.int .i64 8))) fun t26_75 =>
        Gd t26_75 false (
         Do P (V (Instr.fieldAt 59 k10 1)) fun t27_78 =>
         Do P (V (Instr.loadAt 57 t27_78)) fun t28_79 =>
         Do P (vCall (.func (.func 82) #[] ⟨[]⟩) [t28_79, (.func (.func 78) #[] ⟨[g1]⟩)]) fun t29_81 =>
         k12 t29_81
        ) (
         k12 (.bool true)
        )
       ) (
        k12 (.bool true)
       )
      ) (
       k12 (.bool true)
      )
     ) (
      Do P (V (Instr.fieldAt 39 g1 4)) fun t30_84 =>
      Do P (V (Instr.loadAt 37 t30_84)) fun t31_85 =>
      Do P (vCall (.func (.func 83) #[] ⟨[]⟩) [t31_85, (.func (.func 84) #[] ⟨[g1]⟩)]) fun t32_87 =>
      Do P (V (Op.unary .not t32_87)) fun t33_88 =>
      K t33_88
     )
    ) (.int .i64 0)
   )
  ) fun k2 =>
  Do P (V (Instr.fieldAt 39 g1 0)) fun t34_6 =>
  Do P (V (Instr.loadAt 35 t34_6)) fun t35_7 =>
  Do P (vCall (.func (.func 76) #[] ⟨[]⟩) [t35_7]) fun t36_8 =>
  Do P (V (Op.unary .not t36_8)) fun t37_9 =>
  Gd t37_9 false (
   Do P (V (Instr.fieldAt 39 g1 1)) fun t38_11 =>
   Do P (V (Instr.loadAt 36 t38_11)) fun t39_12 =>
   Do P (vBuiltin .len #[36] 3 [t39_12]) fun t40_13 =>
   Do P (V (binOp .lss 3 t40_13 (.int .i64 1))) fun t41_14 =>
   Gd t41_14 false (
    Do P (V (Instr.fieldAt 39 g1 1)) fun t42_17 =>
    Do P (V (Instr.loadAt 36 t42_17)) fun t43_18 =>
    Do P (vBuiltin .len #[36] 3 [t43_18]) fun t44_19 =>
    Do P (V (binOp .gtr 3 t44_19 (.int .i64 6))) fun t45_20 =>
    Gd t45_20 false (
     Do P (V (Instr.fieldAt 39 g1 2)) fun t46_23 =>
     Do P (V (Instr.loadAt 3 t46_23)) fun t47_24 =>
     Do P (V (binOp .lss 3 t47_24 (.int .i64 0))) fun t48_25 =>
     Gd t48_25 false (
      Do P (V (Instr.fieldAt 39 g1 2)) fun t49_28 =>
      Do P (V (Instr.loadAt 3 t49_28)) fun t50_29 =>
      Do P (V (binOp .gtr 3 t50_29 (.int .i64 4))) fun t51_30 =>
      Gd t51_30 false (
       Do P (V (Instr.fieldAt 39 g1 4)) fun t52_33 =>
       Do P (V (Instr.loadAt 37 t52_33)) fun t53_34 =>
       Do P (vBuiltin .len #[37] 3 [t53_34]) fun t54_35 =>
       Do P (V (binOp .gtr 3 t54_35 (.int .i64 6))) fun t55_36 =>
       Gd t55_36 false (
        Do P (V (Instr.fieldAt 39 g1 5)) fun t56_39 =>
        Do P (V (Instr.loadAt 3 t56_39)) fun t57_40 =>
        Do P (vCall (.func (.func 77) #[] ⟨[]⟩) [t57_40]) fun t58_41 =>
        Do P (V (Op.unary .not t58_41)) fun t59_42 =>
        Gd t59_42 false (
         Do P (V (Instr.fieldAt 39 g1 6)) fun t60_45 =>
         Do P (V (Instr.loadAt 3 t60_45)) fun t61_46 =>
         Do P (vCall (.func (.func 77) #[] ⟨[]⟩) [t61_46]) fun t62_47 =>
         Do P (V (Op.unary .not t62_47)) fun t63_48 =>
         k2 t63_48
        ) (
         k2 (.bool true)
        )
       ) (
        k2 (.bool true)
       )
      ) (
       k2 (.bool true)
      )
     ) (
      k2 (.bool true)
     )
    ) (
     k2 (.bool true)
    )
   ) (
    k2 (.bool true)
   )
  ) (
   k2 (.bool true)
  )
def A42 : Ann := .s (.n) (.s (.j [49] 1125899906842560 (.n) (.s (.s (.n) (.n)) (.n))) (.s (.s (.n) (.lp [53] 19342813104826867540557884 (.s (.n) (.s (.s (.n) (.n)) (.s (.s (.n) (.s (.n) (.j [82] 9671405980456281094225920 (.n) (.s (.s (.n) (.n)) (.n))))) (.n)))))) (.s (.n) (.n))))
set_option maxRecDepth 100000 in
theorem c42 (arg0 : Value) (K : Value → WP) (w : World) (h : s42 Tryz.prog arg0 K w) : Runs Tryz.prog 42 [arg0] K w :=
  runs_of_E wide (fn := Tryz.f42) (c := Tryz.f42.body.getD .skip) 89 A42 [arg0] w K Tryz.func42 (by kernel_rfl) (by kernel_rfl) (by kernel_rfl) (by kernel_rfl)
    (Eq.mp (by kernel_rfl : s42 Tryz.prog arg0 K w = E Tryz.prog (Tryz.f42.body.getD .skip) A42 (topK Tryz.prog K Tryz.f42.results) (fun i => (([arg0] : List Value)[i]?).getD undef) w) h)
theorem ct42 {arg0 : Value} {h : Hp} {post : Hp → Value → Prop} (hg : ∀ w0, Gs w0 h h [] (s42 Tryz.prog arg0 (RetP w0 h post))) : Ct Tryz.prog 42 [arg0] h post := Ct.of (sf := s42 Tryz.prog arg0) (c42 arg0) hg
theorem in42 {arg0 : Value} {S : WP} {K : Value → WP} (hg : G S (s42 Tryz.prog arg0 K)) : G S (Do Tryz.prog (vCall (.func (.func 42) #[] ⟨[]⟩) [arg0]) K) := Gs.into (args := [arg0]) (caps := []) (sf := s42 Tryz.prog arg0) (c42 arg0) hg

/- skewer/pos.contents : names 0 s, 1 s, 3 out, 4 i, 5 n, 6 c -/
def s44 (P : Program) (arg0 : Value) (K : Value → WP) : WP :=
  Do P (vBuiltin .len #[9] 3 [arg0]) fun t1_8 =>
  Lp (α := Value × Value) (fun c2 s2 => Jk fun _ => -- out t9
   Do P (V (binOp .lss 3 s2.2 t1_8)) fun t3_10 =>
   If t3_10 (
    Jn (α := Value) (fun j4 => Jk fun _ => -- n
     Do P (vBuildSlice 33 1 [(0, j4)]) fun t5_43 =>
     Do P (vBuiltin .append #[33, 33] 33 [s2.1, t5_43]) fun t6_44 =>
     Do P (V (binOp .add 3 s2.2 (.int .i64 1))) fun t7_45 =>
     c2 (t6_44, t7_45)
    ) fun k4 =>
    Do P (V (Instr.index 9 arg0 s2.2)) fun t8_14 =>
    Do P (V (convert 5 3 t8_14)) fun t9_15 =>
    Do P (V (EqG .eql 3 (.tmp 17) (.const (.int .i64 46)) t9_15 (.int .i64 46))) fun t10_18 =>
    If t10_18 (
     k4 (.int .i64 0)
    ) (
     Jn (α := Value) (fun j11 => Jk fun _ => -- t19
      If j11 (
       Do P (V (binOp .sub 3 t9_15 (.int .i64 65))) fun t12_27 =>
       Do P (V (binOp .mul 3 (.int .i64 2) t12_27)) fun t13_28 =>
       Do P (V (binOp .add 3 (.int .i64 1) t13_28)) fun t14_29 =>
       k4 t14_29
      ) (
       Jn (α := Value) (fun j15 => Jk fun _ => -- t30
        If j15 (
         Do P (V (binOp .sub 3 t9_15 (.int .i64 97))) fun t16_38 =>
         Do P (V (binOp .mul 3 (.int .i64 2) t16_38)) fun t17_39 =>
         Do P (V (binOp .add 3 (.int .i64 2) t17_39)) fun t18_40 =>
         k4 t18_40
        ) (
         k4 (.int .i64 (-1))
        )
       ) fun k15 =>
       Do P (V (binOp .leq 3 (.int .i64 97) t9_15)) fun t19_32 =>
       Gd t19_32 true (
        Do P (V (binOp .leq 3 t9_15 (.int .i64 122))) fun t20_35 =>
        k15 t20_35
       ) (
        k15 (.bool false)
       )
      )
     ) fun k11 =>
     Do P (V (binOp .leq 3 (.int .i64 65) t9_15)) fun t21_21 =>
     Gd t21_21 true (
      Do P (V (binOp .leq 3 t9_15 (.int .i64 90))) fun t22_24 =>
      k11 t22_24
     ) (
      k11 (.bool false)
     )
    )
   ) (
    K s2.1
   )
  ) ((.slice none 0 0), (.int .i64 0))
def A44 : Ann := .s (.n) (.s (.n) (.s (.s (.n) (.lp [3, 9] 70368744177272 (.s (.n) (.s (.s (.n) (.n)) (.s (.s (.n) (.s (.n) (.j [5] 2199023251552 (.s (.n) (.s (.n) (.s (.n) (.j [19] 66584576 (.n) (.s (.n) (.j [30] 136365211648 (.n) (.s (.n) (.n)))))))) (.n)))) (.n)))))) (.s (.n) (.n))))
set_option maxRecDepth 100000 in
theorem c44 (arg0 : Value) (K : Value → WP) (w : World) (h : s44 Tryz.prog arg0 K w) : Runs Tryz.prog 44 [arg0] K w :=
  runs_of_E wide (fn := Tryz.f44) (c := Tryz.f44.body.getD .skip) 47 A44 [arg0] w K Tryz.func44 (by kernel_rfl) (by kernel_rfl) (by kernel_rfl) (by kernel_rfl)
    (Eq.mp (by kernel_rfl : s44 Tryz.prog arg0 K w = E Tryz.prog (Tryz.f44.body.getD .skip) A44 (topK Tryz.prog K Tryz.f44.results) (fun i => (([arg0] : List Value)[i]?).getD undef) w) h)
theorem ct44 {arg0 : Value} {h : Hp} {post : Hp → Value → Prop} (hg : ∀ w0, Gs w0 h h [] (s44 Tryz.prog arg0 (RetP w0 h post))) : Ct Tryz.prog 44 [arg0] h post := Ct.of (sf := s44 Tryz.prog arg0) (c44 arg0) hg
theorem in44 {arg0 : Value} {S : WP} {K : Value → WP} (hg : G S (s44 Tryz.prog arg0 K)) : G S (Do Tryz.prog (vCall (.func (.func 44) #[] ⟨[]⟩) [arg0]) K) := Gs.into (args := [arg0]) (caps := []) (sf := s44 Tryz.prog arg0) (c44 arg0) hg

/- skewer/pos.numbers : names 0 s, 1 s, 3 out, 4 i -/
def s45 (P : Program) (arg0 : Value) (K : Value → WP) : WP :=
  Do P (vBuiltin .len #[9] 3 [arg0]) fun t1_6 =>
  Lp (α := Value × Value) (fun c2 s2 => Jk fun _ => -- out t7
   Do P (V (binOp .lss 3 s2.2 t1_6)) fun t3_8 =>
   If t3_8 (
    Do P (V (Instr.index 9 arg0 s2.2)) fun t4_13 =>
    Do P (V (convert 5 3 t4_13)) fun t5_14 =>
    Do P (V (binOp .sub 3 t5_14 (.int .i64 48))) fun t6_15 =>
    Do P (vBuildSlice 33 1 [(0, t6_15)]) fun t7_16 =>
    Do P (vBuiltin .append #[33, 33] 33 [s2.1, t7_16]) fun t8_17 =>
    Do P (V (binOp .add 3 s2.2 (.int .i64 1))) fun t9_18 =>
    c2 (t8_17, t9_18)
   ) (
    K s2.1
   )
  ) ((.slice none 0 0), (.int .i64 0))
def A45 : Ann := .s (.n) (.s (.n) (.s (.s (.n) (.lp [3, 7] 524184 (.s (.n) (.s (.s (.n) (.n)) (.s (.s (.n) (.n)) (.n)))))) (.s (.n) (.n))))
set_option maxRecDepth 100000 in
theorem c45 (arg0 : Value) (K : Value → WP) (w : World) (h : s45 Tryz.prog arg0 K w) : Runs Tryz.prog 45 [arg0] K w :=
  runs_of_E wide (fn := Tryz.f45) (c := Tryz.f45.body.getD .skip) 20 A45 [arg0] w K Tryz.func45 (by kernel_rfl) (by kernel_rfl) (by kernel_rfl) (by kernel_rfl)
    (Eq.mp (by kernel_rfl : s45 Tryz.prog arg0 K w = E Tryz.prog (Tryz.f45.body.getD .skip) A45 (topK Tryz.prog K Tryz.f45.results) (fun i => (([arg0] : List Value)[i]?).getD undef) w) h)
theorem ct45 {arg0 : Value} {h : Hp} {post : Hp → Value → Prop} (hg : ∀ w0, Gs w0 h h [] (s45 Tryz.prog arg0 (RetP w0 h post))) : Ct Tryz.prog 45 [arg0] h post := Ct.of (sf := s45 Tryz.prog arg0) (c45 arg0) hg
theorem in45 {arg0 : Value} {S : WP} {K : Value → WP} (hg : G S (s45 Tryz.prog arg0 K)) : G S (Do Tryz.prog (vCall (.func (.func 45) #[] ⟨[]⟩) [arg0]) K) := Gs.into (args := [arg0]) (caps := []) (sf := s45 Tryz.prog arg0) (c45 arg0) hg

/- skewer/skewerref04.digit : names 0 c, 1 c -/
def s46 (P : Program) (arg0 : Value) (K : Value → WP) : WP :=
  Jn (α := Value) (fun j1 => Jk fun _ => -- t8
   If j1 (
    K (.int .i64 99)
   ) (
    Do P (V (binOp .sub 5 arg0 (.int .u8 48))) fun t2_10 =>
    Do P (V (convert 5 3 t2_10)) fun t3_11 =>
    K t3_11
   )
  ) fun k1 =>
  Do P (V (binOp .lss 5 arg0 (.int .u8 48))) fun t4_4 =>
  Gd t4_4 false (
   Do P (V (binOp .gtr 5 arg0 (.int .u8 57))) fun t5_7 =>
   k1 t5_7
  ) (
   k1 (.bool true)
  )
def A46 : Ann := .s (.n) (.s (.j [8] 504 (.n) (.s (.s (.n) (.n)) (.n))) (.s (.n) (.n)))
set_option maxRecDepth 100000 in
theorem c46 (arg0 : Value) (K : Value → WP) (w : World) (h : s46 Tryz.prog arg0 K w) : Runs Tryz.prog 46 [arg0] K w :=
  runs_of_E wide (fn := Tryz.f46) (c := Tryz.f46.body.getD .skip) 12 A46 [arg0] w K Tryz.func46 (by kernel_rfl) (by kernel_rfl) (by kernel_rfl) (by kernel_rfl)
    (Eq.mp (by kernel_rfl : s46 Tryz.prog arg0 K w = E Tryz.prog (Tryz.f46.body.getD .skip) A46 (topK Tryz.prog K Tryz.f46.results) (fun i => (([arg0] : List Value)[i]?).getD undef) w) h)
theorem ct46 {arg0 : Value} {h : Hp} {post : Hp → Value → Prop} (hg : ∀ w0, Gs w0 h h [] (s46 Tryz.prog arg0 (RetP w0 h post))) : Ct Tryz.prog 46 [arg0] h post := Ct.of (sf := s46 Tryz.prog arg0) (c46 arg0) hg
theorem in46 {arg0 : Value} {S : WP} {K : Value → WP} (hg : G S (s46 Tryz.prog arg0 K)) : G S (Do Tryz.prog (vCall (.func (.func 46) #[] ⟨[]⟩) [arg0]) K) := Gs.into (args := [arg0]) (caps := []) (sf := s46 Tryz.prog arg0) (c46 arg0) hg

/- (skewer/pos.rules).content : names 0 g, 1 n, 2 g, 3 n -/
def s47 (P : Program) (arg0 arg1 : Value) (K : Value → WP) : WP :=
  Do P (V (Instr.box 100 arg0)) fun g1 =>
  Do P (V (binOp .leq 3 (.int .i64 0) arg1)) fun t2_6 =>
  Gd t2_6 true (
   Do P (V (Instr.fieldAt 100 g1 0)) fun t3_9 =>
   Do P (V (Instr.fieldAt 39 t3_9 1)) fun t4_10 =>
   Do P (V (Instr.loadAt 36 t4_10)) fun t5_11 =>
   Do P (vBuiltin .len #[36] 3 [t5_11]) fun t6_12 =>
   Do P (V (binOp .mul 3 (.int .i64 2) t6_12)) fun t7_13 =>
   Do P (V (binOp .leq 3 arg1 t7_13)) fun t8_14 =>
   K t8_14
  ) (
   K (.bool false)
  )
def A47 : Ann := .s (.n) (.s (.n) (.n))
set_option maxRecDepth 100000 in
theorem c47 (arg0 arg1 : Value) (K : Value → WP) (w : World) (h : s47 Tryz.prog arg0 arg1 K w) : Runs Tryz.prog 47 [arg0, arg1] K w :=
  runs_of_E wide (fn := Tryz.f47) (c := Tryz.f47.body.getD .skip) 16 A47 [arg0, arg1] w K Tryz.func47 (by kernel_rfl) (by kernel_rfl) (by kernel_rfl) (by kernel_rfl)
    (Eq.mp (by kernel_rfl : s47 Tryz.prog arg0 arg1 K w = E Tryz.prog (Tryz.f47.body.getD .skip) A47 (topK Tryz.prog K Tryz.f47.results) (fun i => (([arg0, arg1] : List Value)[i]?).getD undef) w) h)
theorem ct47 {arg0 arg1 : Value} {h : Hp} {post : Hp → Value → Prop} (hg : ∀ w0, Gs w0 h h [] (s47 Tryz.prog arg0 arg1 (RetP w0 h post))) : Ct Tryz.prog 47 [arg0, arg1] h post := Ct.of (sf := s47 Tryz.prog arg0 arg1) (c47 arg0 arg1) hg
theorem in47 {arg0 arg1 : Value} {S : WP} {K : Value → WP} (hg : G S (s47 Tryz.prog arg0 arg1 K)) : G S (Do Tryz.prog (vCall (.func (.func 47) #[] ⟨[]⟩) [arg0, arg1]) K) := Gs.into (args := [arg0, arg1]) (caps := []) (sf := s47 Tryz.prog arg0 arg1) (c47 arg0 arg1) hg

/- skewer/pos.Valid$1 : names 0 n, 2 n -/
def s48 (P : Program) (arg0 arg1 : Value) (K : Value → WP) : WP :=
  Do P (V (Instr.loadAt 101 arg1)) fun t1_4 =>
  Do P (vCall t1_4 [arg0]) fun t2_6 =>
  Do P (V (Op.unary .not t2_6)) fun t3_7 =>
  K t3_7
def A48 : Ann := .s (.n) (.s (.n) (.n))
set_option maxRecDepth 100000 in
theorem c48 (arg0 arg1 : Value) (K : Value → WP) (w : World) (h : s48 Tryz.prog arg0 arg1 K w) : Runs Tryz.prog 48 [arg0, arg1] K w :=
  runs_of_E wide (fn := Tryz.f48) (c := Tryz.f48.body.getD .skip) 8 A48 [arg0, arg1] w K Tryz.func48 (by kernel_rfl) (by kernel_rfl) (by kernel_rfl) (by kernel_rfl)
    (Eq.mp (by kernel_rfl : s48 Tryz.prog arg0 arg1 K w = E Tryz.prog (Tryz.f48.body.getD .skip) A48 (topK Tryz.prog K Tryz.f48.results) (fun i => (([arg0, arg1] : List Value)[i]?).getD undef) w) h)
theorem ct48 {arg0 arg1 : Value} {h : Hp} {post : Hp → Value → Prop} (hg : ∀ w0, Gs w0 h h [] (s48 Tryz.prog arg0 arg1 (RetP w0 h post))) : Ct Tryz.prog 48 [arg0, arg1] h post := Ct.of (sf := s48 Tryz.prog arg0 arg1) (c48 arg0 arg1) hg
theorem in48 {arg0 arg1 : Value} {S : WP} {K : Value → WP} (hg : G S (s48 Tryz.prog arg0 arg1 K)) : G S (Do Tryz.prog (vCall (.func (.func 48) #[] ⟨[arg1]⟩) [arg0]) K) := Gs.into (args := [arg0]) (caps := [arg1]) (sf := s48 Tryz.prog arg0 arg1) (c48 arg0 arg1) hg

/- slices.ContainsFunc[[]int,int] : names 0 s, 1 f, 2 s, 3 f -/
def s49 (P : Program) (arg0 arg1 : Value) (K : Value → WP) : WP :=
  Do P (vCall (.func (.func 88) #[] ⟨[]⟩) [arg0, arg1]) fun t1_7 =>
  Do P (V (binOp .geq 3 t1_7 (.int .i64 0))) fun t2_8 =>
  K t2_8
def A49 : Ann := .s (.n) (.s (.n) (.n))
set_option maxRecDepth 100000 in
theorem c49 (arg0 arg1 : Value) (K : Value → WP) (w : World) (h : s49 Tryz.prog arg0 arg1 K w) : Runs Tryz.prog 49 [arg0, arg1] K w :=
  runs_of_E wide (fn := Tryz.f49) (c := Tryz.f49.body.getD .skip) 9 A49 [arg0, arg1] w K Tryz.func49 (by kernel_rfl) (by kernel_rfl) (by kernel_rfl) (by kernel_rfl)
    (Eq.mp (by kernel_rfl : s49 Tryz.prog arg0 arg1 K w = E Tryz.prog (Tryz.f49.body.getD .skip) A49 (topK Tryz.prog K Tryz.f49.results) (fun i => (([arg0, arg1] : List Value)[i]?).getD undef) w) h)
theorem ct49 {arg0 arg1 : Value} {h : Hp} {post : Hp → Value → Prop} (hg : ∀ w0, Gs w0 h h [] (s49 Tryz.prog arg0 arg1 (RetP w0 h post))) : Ct Tryz.prog 49 [arg0, arg1] h post := Ct.of (sf := s49 Tryz.prog arg0 arg1) (c49 arg0 arg1) hg
theorem in49 {arg0 arg1 : Value} {S : WP} {K : Value → WP} (hg : G S (s49 Tryz.prog arg0 arg1 K)) : G S (Do Tryz.prog (vCall (.func (.func 49) #[] ⟨[]⟩) [arg0, arg1]) K) := Gs.into (args := [arg0, arg1]) (caps := []) (sf := s49 Tryz.prog arg0 arg1) (c49 arg0 arg1) hg

/- (skewer/pos.rules).hand : names 0 g, 1 l, 2 g, 3 l, 5 k, 6 n -/
def s50 (P : Program) (arg0 arg1 : Value) (K : Value → WP) : WP :=
  Do P (V (Instr.box 100 arg0)) fun g1 =>
  Do P (vBuiltin .len #[33] 3 [arg1]) fun t2_8 =>
  Do P (V (Instr.fieldAt 100 g1 0)) fun t3_9 =>
  Do P (V (Instr.fieldAt 39 t3_9 1)) fun t4_10 =>
  Do P (V (Instr.loadAt 36 t4_10)) fun t5_11 =>
  Do P (vBuiltin .len #[36] 3 [t5_11]) fun t6_12 =>
  Do P (V (EqG .neq 3 (.tmp 8) (.tmp 12) t2_8 t6_12)) fun t7_13 =>
  If t7_13 (
   K (.bool false)
  ) (
   Do P (vBuiltin .len #[33] 3 [arg1]) fun t8_15 =>
   Lp (α := Value) (fun c9 s9 => Jk fun _ => -- t16
    Do P (V (binOp .lss 3 s9 t8_15)) fun t10_17 =>
    If t10_17 (
     Do P (V (Instr.indexAt 33 arg1 s9)) fun t11_19 =>
     Do P (V (Instr.loadAt 3 t11_19)) fun t12_20 =>
     Jn (α := Value) (fun j13 => Jk fun _ => -- t40
      If j13 (
       K (.bool false)
      ) (
       Do P (V (binOp .add 3 s9 (.int .i64 1))) fun t14_41 =>
       c9 t14_41
      )
     ) fun k13 =>
     Do P (V (binOp .lss 3 t12_20 (.int .i64 0))) fun t15_22 =>
     Gd t15_22 false (
      Do P (V (binOp .gtr 3 t12_20 (.int .i64 8))) fun t16_25 =>
      Gd t16_25 false (
       Do P (V (binOp .gtr 3 t12_20 (.int .i64 0))) fun t17_29 =>
       Gd t17_29 true (
        Do P (V (Instr.fieldAt 100 g1 0)) fun t18_31 =>
        Do P (V (Instr.fieldAt 39 t18_31 1)) fun t19_32 =>
        Do P (V (Instr.loadAt 36 t19_32)) fun t20_33 =>
        Do P (V (Instr.indexAt 36 t20_33 s9)) fun t21_35 =>
        Do P (V (Instr.fieldAt 59 t21_35 2)) fun t22_36 =>
        Do P (V (Instr.loadAt 4 t22_36)) fun t23_37 =>
        Do P (V (Op.unary .not t23_37)) fun t24_38 =>
        k13 t24_38
       ) (
        k13 (.bool false)
       )
      ) (
       k13 (.bool true)
      )
     ) (
      k13 (.bool true)
     )
    ) (
     K (.bool true)
    )
   ) (.int .i64 0)
  )
def A50 : Ann := .s (.n) (.s (.s (.n) (.s (.s (.n) (.n)) (.n))) (.s (.s (.n) (.lp [16] 4398046445680 (.s (.n) (.s (.s (.n) (.n)) (.s (.s (.n) (.j [40] 2199021158400 (.n) (.s (.s (.n) (.n)) (.n)))) (.n)))))) (.s (.n) (.n))))
set_option maxRecDepth 100000 in
theorem c50 (arg0 arg1 : Value) (K : Value → WP) (w : World) (h : s50 Tryz.prog arg0 arg1 K w) : Runs Tryz.prog 50 [arg0, arg1] K w :=
  runs_of_E wide (fn := Tryz.f50) (c := Tryz.f50.body.getD .skip) 42 A50 [arg0, arg1] w K Tryz.func50 (by kernel_rfl) (by kernel_rfl) (by kernel_rfl) (by kernel_rfl)
    (Eq.mp (by kernel_rfl : s50 Tryz.prog arg0 arg1 K w = E Tryz.prog (Tryz.f50.body.getD .skip) A50 (topK Tryz.prog K Tryz.f50.results) (fun i => (([arg0, arg1] : List Value)[i]?).getD undef) w) h)
theorem ct50 {arg0 arg1 : Value} {h : Hp} {post : Hp → Value → Prop} (hg : ∀ w0, Gs w0 h h [] (s50 Tryz.prog arg0 arg1 (RetP w0 h post))) : Ct Tryz.prog 50 [arg0, arg1] h post := Ct.of (sf := s50 Tryz.prog arg0 arg1) (c50 arg0 arg1) hg
theorem in50 {arg0 arg1 : Value} {S : WP} {K : Value → WP} (hg : G S (s50 Tryz.prog arg0 arg1 K)) : G S (Do Tryz.prog (vCall (.func (.func 50) #[] ⟨[]⟩) [arg0, arg1]) K) := Gs.into (args := [arg0, arg1]) (caps := []) (sf := s50 Tryz.prog arg0 arg1) (c50 arg0 arg1) hg

/- skewer/skewerref04.half : names 0 l, 1 l, 3 a, 4 b, 5 out, 6 i, 7 k -/
def s51 (P : Program) (arg0 : Value) (K : Value → WP) : WP :=
  Do P (vBuiltin .len #[64] 3 [arg0]) fun t1_9 =>
  Do P (V (binOp .lss 3 t1_9 (.int .i64 2))) fun t2_10 =>
  If t2_10 (
   K arg0
  ) (
   Do P (vBuiltin .len #[64] 3 [arg0]) fun t3_14 =>
   Do P (V (binOp .quo 3 t3_14 (.int .i64 2))) fun t4_15 =>
   Do P (V (Instr.sliceAt 64 arg0 none (some t4_15) none)) fun t5_16 =>
   Do P (vCall (.func (.func 51) #[] ⟨[]⟩) [t5_16]) fun t6_17 =>
   Do P (vBuiltin .len #[64] 3 [arg0]) fun t7_20 =>
   Do P (V (binOp .quo 3 t7_20 (.int .i64 2))) fun t8_21 =>
   Do P (V (Instr.sliceAt 64 arg0 (some t8_21) none none)) fun t9_22 =>
   Do P (vCall (.func (.func 51) #[] ⟨[]⟩) [t9_22]) fun t10_23 =>
   Do P (vBuildSlice 64 0 []) fun t11_24 =>
   Lp (α := Value × Value × Value) (fun c12 s12 => Jk fun _ => -- out i k
    Jn (α := Value) (fun j13 => Jk fun _ => -- t34
     If j13 (
      Jn (α := Value) (fun j14 => Jk fun _ => -- t56
       If j14 (
        Do P (V (Instr.indexAt 64 t6_17 s12.2.1)) fun t15_60 =>
        Do P (V (Instr.loadAt 44 t15_60)) fun t16_61 =>
        Do P (vBuildSlice 64 1 [(0, t16_61)]) fun t17_62 =>
        Do P (vBuiltin .append #[64, 64] 64 [s12.1, t17_62]) fun t18_63 =>
        Do P (V (binOp .add 3 s12.2.1 (.int .i64 1))) fun t19_65 =>
        c12 (t18_63, t19_65, s12.2.2)
       ) (
        Do P (V (Instr.indexAt 64 t10_23 s12.2.2)) fun t20_69 =>
        Do P (V (Instr.loadAt 44 t20_69)) fun t21_70 =>
        Do P (vBuildSlice 64 1 [(0, t21_70)]) fun t22_71 =>
        Do P (vBuiltin .append #[64, 64] 64 [s12.1, t22_71]) fun t23_72 =>
        Do P (V (binOp .add 3 s12.2.2 (.int .i64 1))) fun t24_74 =>
        c12 (t23_72, s12.2.1, t24_74)
       )
      ) fun k14 =>
      Dr <|
      Qk P (vBuiltin .len #[64] 3 [t10_23]) fun C25 t25_37 =>
      Qk P (V (binOp .geq 3 s12.2.2 t25_37)) fun C26 t26_38 =>
      Gd t26_38 false (
       Qk P (vBuiltin .len #[64] 3 [t6_17]) fun C27 t27_42 =>
       Qk P (V (binOp .lss 3 s12.2.1 t27_42)) fun C28 t28_43 =>
       Gd t28_43 true (
        Qk P (V (Instr.indexAt 64 t6_17 s12.2.1)) fun C29 t29_47 =>
        Qk P (V (Instr.loadAt 44 t29_47)) fun C30 t30_48 =>
        Qk P (V (Instr.indexAt 64 t10_23 s12.2.2)) fun C31 t31_51 =>
        Qk P (V (Instr.loadAt 44 t31_51)) fun C32 t32_52 =>
        Do P (vCall (.func (.func 25) #[] ⟨[]⟩) [t30_48, t32_52]) fun t33_53 =>
        Qk P (V (binOp .leq 3 t33_53 (.int .i64 0))) fun C34 t34_54 =>
        k14 t34_54
       ) (
        k14 (.bool false)
       )
      ) (
       k14 (.bool true)
      )
     ) (
      K s12.1
     )
    ) fun k13 =>
    Do P (vBuiltin .len #[64] 3 [t6_17]) fun t35_27 =>
    Do P (V (binOp .lss 3 s12.2.1 t35_27)) fun t36_28 =>
    Gd t36_28 false (
     Do P (vBuiltin .len #[64] 3 [t10_23]) fun t37_32 =>
     Do P (V (binOp .lss 3 s12.2.2 t37_32)) fun t38_33 =>
     k13 t38_33
    ) (
     k13 (.bool true)
    )
   ) (t11_24, (.int .i64 0), (.int .i64 0))
  )
def A51 : Ann := .s (.n) (.s (.s (.n) (.s (.s (.n) (.n)) (.n))) (.s (.n) (.s (.n) (.s (.n) (.s (.n) (.s (.n) (.s (.lp [5, 6, 7] 37778931862957128155360 (.s (.j [34] 34326183936 (.n) (.s (.n) (.n))) (.j [56] 144115153716117504 (.plan [(0, 128, 34359738368), (0, 16, 68719476736), (2, 68719476736, 137438953472), (5, 171798691840, 274877906944), (8, 274877906944, 549755813888), (16, 549755813952, 1099511627776), (16, 549755813896, 2199023255552), (80, 2748779069440, 4398046511104), (176, 6047313952768, 8796093022208), (272, 9345848836096, 17592186044416), (512, 17592186044424, 35184372088832), (512, 17592186044480, 70368744177664), (3584, 123145302310912, 140737488355328), (4608, 158329674399744, 281474976710656), (512, 17592186044432, 562949953421312), (512, 17592186044544, 1125899906842624), (49664, 1706442046308352, 2251799813685248), (66048, 2269391999729664, 4503599627370496), (139776, 4802666790125568, 9007199254740992), (262656, 9024791440785408, 18014398509481984), (524816, 18032540451340288, 36028797018963968), (1048592, 36029346774777856, 72057594037927936)] (.q 0 (.q 1 (.q 2 (.q 3 (.q 4 (.q 5 (.q 6 (.q 7 (.q 8 (.q 9 (.q 10 (.q 11 (.q 12 (.q 13 (.q 14 (.q 15 (.q 16 (.q 17 (.l 18 (.q 19 (.q 20 (.q 21 .done))))))))))))))))))))))) (.s (.s (.n) (.n)) (.s (.n) (.n)))))) (.s (.n) (.n)))))))))
set_option maxRecDepth 100000 in
theorem c51 (arg0 : Value) (K : Value → WP) (w : World) (h : s51 Tryz.prog arg0 K w) : Runs Tryz.prog 51 [arg0] K w :=
  runs_of_E wide (fn := Tryz.f51) (c := Tryz.f51.body.getD .skip) 76 A51 [arg0] w K Tryz.func51 (by kernel_rfl) (by kernel_rfl) (by kernel_rfl) (by kernel_rfl)
    (Eq.mp (by kernel_rfl : s51 Tryz.prog arg0 K w = E Tryz.prog (Tryz.f51.body.getD .skip) A51 (topK Tryz.prog K Tryz.f51.results) (fun i => (([arg0] : List Value)[i]?).getD undef) w) h)
theorem ct51 {arg0 : Value} {h : Hp} {post : Hp → Value → Prop} (hg : ∀ w0, Gs w0 h h [] (s51 Tryz.prog arg0 (RetP w0 h post))) : Ct Tryz.prog 51 [arg0] h post := Ct.of (sf := s51 Tryz.prog arg0) (c51 arg0) hg
theorem in51 {arg0 : Value} {S : WP} {K : Value → WP} (hg : G S (s51 Tryz.prog arg0 K)) : G S (Do Tryz.prog (vCall (.func (.func 51) #[] ⟨[]⟩) [arg0]) K) := Gs.into (args := [arg0]) (caps := []) (sf := s51 Tryz.prog arg0) (c51 arg0) hg

/- slices.Clone[[]skewer/api.Pos,skewer/api.Pos] : names 0 s, 1 s -/
def s52 (P : Program) (arg0 : Value) (K : Value → WP) : WP :=
  Do P (V (EqG .eql 64 (.tmp 3) (.const (.slice none 0 0)) arg0 (.slice none 0 0))) fun t1_4 =>
  If t1_4 (
   K (.slice none 0 0)
  ) (
   Do P (vBuildSlice 64 0 []) fun t2_5 =>
   Do P (vBuiltin .append #[64, 64] 64 [t2_5, arg0]) fun t3_7 =>
   K t3_7
  )
def A52 : Ann := .s (.n) (.s (.s (.n) (.s (.s (.n) (.n)) (.n))) (.s (.n) (.n)))
set_option maxRecDepth 100000 in
theorem c52 (arg0 : Value) (K : Value → WP) (w : World) (h : s52 Tryz.prog arg0 K w) : Runs Tryz.prog 52 [arg0] K w :=
  runs_of_E wide (fn := Tryz.f52) (c := Tryz.f52.body.getD .skip) 8 A52 [arg0] w K Tryz.func52 (by kernel_rfl) (by kernel_rfl) (by kernel_rfl) (by kernel_rfl)
    (Eq.mp (by kernel_rfl : s52 Tryz.prog arg0 K w = E Tryz.prog (Tryz.f52.body.getD .skip) A52 (topK Tryz.prog K Tryz.f52.results) (fun i => (([arg0] : List Value)[i]?).getD undef) w) h)
theorem ct52 {arg0 : Value} {h : Hp} {post : Hp → Value → Prop} (hg : ∀ w0, Gs w0 h h [] (s52 Tryz.prog arg0 (RetP w0 h post))) : Ct Tryz.prog 52 [arg0] h post := Ct.of (sf := s52 Tryz.prog arg0) (c52 arg0) hg
theorem in52 {arg0 : Value} {S : WP} {K : Value → WP} (hg : G S (s52 Tryz.prog arg0 K)) : G S (Do Tryz.prog (vCall (.func (.func 52) #[] ⟨[]⟩) [arg0]) K) := Gs.into (args := [arg0]) (caps := []) (sf := s52 Tryz.prog arg0) (c52 arg0) hg

end Go.Proofs.YtcmokdokcghooaaGreatDoor
