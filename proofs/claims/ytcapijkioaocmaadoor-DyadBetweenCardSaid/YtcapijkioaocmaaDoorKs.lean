/-
  The shallow forms of functions of the program, printed by a program of the prover; and what the types are.
-/
import Derived.Test.YtcapijkioaocmaaDoorKb
import Derived.Test.YtcapijkioaocmaaDoorProg
set_option linter.unusedVariables false
set_option maxRecDepth 100000
namespace Go.Proofs.YtcapijkioaocmaaDoor
open Go Go.Sk

theorem wide : Tryd.prog.follows .mixedOrders = true := by kernel_rfl
instance g3 : IsGo Tryd.prog 3 := ⟨by kernel_rfl⟩
instance g4 : IsGo Tryd.prog 4 := ⟨by kernel_rfl⟩
instance g5 : IsGo Tryd.prog 5 := ⟨by kernel_rfl⟩
instance g6 : IsGo Tryd.prog 6 := ⟨by kernel_rfl⟩
instance g7 : IsGo Tryd.prog 7 := ⟨by kernel_rfl⟩
instance g8 : IsGo Tryd.prog 8 := ⟨by kernel_rfl⟩
instance g9 : IsGo Tryd.prog 9 := ⟨by kernel_rfl⟩
instance g10 : IsGo Tryd.prog 10 := ⟨by kernel_rfl⟩
instance g11 : IsGo Tryd.prog 11 := ⟨by kernel_rfl⟩
instance g12 : IsGo Tryd.prog 12 := ⟨by kernel_rfl⟩
instance g13 : IsGo Tryd.prog 13 := ⟨by kernel_rfl⟩
instance g14 : IsGo Tryd.prog 14 := ⟨by kernel_rfl⟩
instance g15 : IsGo Tryd.prog 15 := ⟨by kernel_rfl⟩
instance g16 : IsGo Tryd.prog 16 := ⟨by kernel_rfl⟩
instance g17 : IsGo Tryd.prog 17 := ⟨by kernel_rfl⟩
instance g18 : IsGo Tryd.prog 18 := ⟨by kernel_rfl⟩
instance g19 : IsGo Tryd.prog 19 := ⟨by kernel_rfl⟩
instance g20 : IsGo Tryd.prog 20 := ⟨by kernel_rfl⟩
instance g21 : IsGo Tryd.prog 21 := ⟨by kernel_rfl⟩
instance g22 : IsGo Tryd.prog 22 := ⟨by kernel_rfl⟩
instance g23 : IsGo Tryd.prog 23 := ⟨by kernel_rfl⟩
instance g24 : IsGo Tryd.prog 24 := ⟨by kernel_rfl⟩
instance g25 : IsGo Tryd.prog 25 := ⟨by kernel_rfl⟩
instance g26 : IsGo Tryd.prog 26 := ⟨by kernel_rfl⟩
instance g27 : IsGo Tryd.prog 27 := ⟨by kernel_rfl⟩
instance g28 : IsGo Tryd.prog 28 := ⟨by kernel_rfl⟩
instance g29 : IsGo Tryd.prog 29 := ⟨by kernel_rfl⟩
instance g30 : IsGo Tryd.prog 30 := ⟨by kernel_rfl⟩
instance g31 : IsGo Tryd.prog 31 := ⟨by kernel_rfl⟩
instance g32 : IsGo Tryd.prog 32 := ⟨by kernel_rfl⟩
instance g33 : IsGo Tryd.prog 33 := ⟨by kernel_rfl⟩
instance g34 : IsGo Tryd.prog 34 := ⟨by kernel_rfl⟩
instance g35 : IsGo Tryd.prog 35 := ⟨by kernel_rfl⟩
instance g36 : IsGo Tryd.prog 36 := ⟨by kernel_rfl⟩
instance g37 : IsGo Tryd.prog 37 := ⟨by kernel_rfl⟩
instance g38 : IsGo Tryd.prog 38 := ⟨by kernel_rfl⟩
instance g39 : IsGo Tryd.prog 39 := ⟨by kernel_rfl⟩
instance g40 : IsGo Tryd.prog 40 := ⟨by kernel_rfl⟩
instance g41 : IsGo Tryd.prog 41 := ⟨by kernel_rfl⟩
instance g42 : IsGo Tryd.prog 42 := ⟨by kernel_rfl⟩
instance g43 : IsGo Tryd.prog 43 := ⟨by kernel_rfl⟩
instance g44 : IsGo Tryd.prog 44 := ⟨by kernel_rfl⟩
instance g45 : IsGo Tryd.prog 45 := ⟨by kernel_rfl⟩
instance g46 : IsGo Tryd.prog 46 := ⟨by kernel_rfl⟩
instance g47 : IsGo Tryd.prog 47 := ⟨by kernel_rfl⟩
instance g48 : IsGo Tryd.prog 48 := ⟨by kernel_rfl⟩
instance g50 : IsGo Tryd.prog 50 := ⟨by kernel_rfl⟩
instance g51 : IsGo Tryd.prog 51 := ⟨by kernel_rfl⟩
instance g52 : IsGo Tryd.prog 52 := ⟨by kernel_rfl⟩
instance g53 : IsGo Tryd.prog 53 := ⟨by kernel_rfl⟩
instance g59 : IsGo Tryd.prog 59 := ⟨by kernel_rfl⟩
instance g60 : IsGo Tryd.prog 60 := ⟨by kernel_rfl⟩
instance : TOne Tryd.prog 1 := ⟨by kernel_rfl⟩
instance : TSize Tryd.prog 1 1 := ⟨by kernel_rfl⟩
instance : TZero Tryd.prog 1 [.nilFunc] := ⟨by kernel_rfl⟩
instance : TOne Tryd.prog 2 := ⟨by kernel_rfl⟩
instance : TSize Tryd.prog 2 1 := ⟨by kernel_rfl⟩
instance : TZero Tryd.prog 2 [(.int .i64 0)] := ⟨by kernel_rfl⟩
instance : TInt Tryd.prog 2 .i64 := ⟨by kernel_rfl⟩
instance : TOne Tryd.prog 3 := ⟨by kernel_rfl⟩
instance : TSize Tryd.prog 3 1 := ⟨by kernel_rfl⟩
instance : TZero Tryd.prog 3 [(.int .i64 0)] := ⟨by kernel_rfl⟩
instance : TInt Tryd.prog 3 .i64 := ⟨by kernel_rfl⟩
instance : TOne Tryd.prog 4 := ⟨by kernel_rfl⟩
instance : TSize Tryd.prog 4 1 := ⟨by kernel_rfl⟩
instance : TZero Tryd.prog 4 [(.bool false)] := ⟨by kernel_rfl⟩
instance : TBool Tryd.prog 4 := ⟨by kernel_rfl⟩
instance : TOne Tryd.prog 5 := ⟨by kernel_rfl⟩
instance : TSize Tryd.prog 5 1 := ⟨by kernel_rfl⟩
instance : TZero Tryd.prog 5 [(.int .u8 0)] := ⟨by kernel_rfl⟩
instance : TInt Tryd.prog 5 .u8 := ⟨by kernel_rfl⟩
instance : TOne Tryd.prog 6 := ⟨by kernel_rfl⟩
instance : TSize Tryd.prog 6 1 := ⟨by kernel_rfl⟩
instance : TZero Tryd.prog 6 [(.int .u8 0)] := ⟨by kernel_rfl⟩
instance : TInt Tryd.prog 6 .u8 := ⟨by kernel_rfl⟩
instance : TAgg Tryd.prog 7 4 := ⟨by kernel_rfl⟩
instance : TSize Tryd.prog 7 4 := ⟨by kernel_rfl⟩
instance : TZero Tryd.prog 7 [(.int .i64 0), (.int .i64 0), (.bool false), (.int .u8 0)] := ⟨by kernel_rfl⟩
instance : TStruct Tryd.prog 7 [(0, 1), (1, 1), (2, 1), (3, 1)] := ⟨by kernel_rfl⟩
instance : TField Tryd.prog 7 0 0 := ⟨by kernel_rfl⟩
instance : TField Tryd.prog 7 1 1 := ⟨by kernel_rfl⟩
instance : TField Tryd.prog 7 2 2 := ⟨by kernel_rfl⟩
instance : TField Tryd.prog 7 3 3 := ⟨by kernel_rfl⟩
instance : TFieldV Tryd.prog 7 0 0 1 false := ⟨by kernel_rfl⟩
instance : TFieldV Tryd.prog 7 1 1 1 false := ⟨by kernel_rfl⟩
instance : TFieldV Tryd.prog 7 2 2 1 false := ⟨by kernel_rfl⟩
instance : TFieldV Tryd.prog 7 3 3 1 false := ⟨by kernel_rfl⟩
instance : TOne Tryd.prog 9 := ⟨by kernel_rfl⟩
instance : TSize Tryd.prog 9 1 := ⟨by kernel_rfl⟩
instance : TZero Tryd.prog 9 [(.string ⟨#[]⟩)] := ⟨by kernel_rfl⟩
instance : TStr Tryd.prog 9 := ⟨by kernel_rfl⟩
instance : TOne Tryd.prog 21 := ⟨by kernel_rfl⟩
instance : TSize Tryd.prog 21 1 := ⟨by kernel_rfl⟩
instance : TZero Tryd.prog 21 [(.int .i32 0)] := ⟨by kernel_rfl⟩
instance : TInt Tryd.prog 21 .i32 := ⟨by kernel_rfl⟩
instance : TAgg Tryd.prog 23 3 := ⟨by kernel_rfl⟩
instance : TSize Tryd.prog 23 3 := ⟨by kernel_rfl⟩
instance : TZero Tryd.prog 23 [(.int .i32 0), (.int .u8 0), (.int .u8 0)] := ⟨by kernel_rfl⟩
instance : TStruct Tryd.prog 23 [(0, 1), (1, 1), (2, 1)] := ⟨by kernel_rfl⟩
instance : TField Tryd.prog 23 0 0 := ⟨by kernel_rfl⟩
instance : TField Tryd.prog 23 1 1 := ⟨by kernel_rfl⟩
instance : TField Tryd.prog 23 2 2 := ⟨by kernel_rfl⟩
instance : TFieldV Tryd.prog 23 0 0 1 false := ⟨by kernel_rfl⟩
instance : TFieldV Tryd.prog 23 1 1 1 false := ⟨by kernel_rfl⟩
instance : TFieldV Tryd.prog 23 2 2 1 false := ⟨by kernel_rfl⟩
instance : TAgg Tryd.prog 24 2 := ⟨by kernel_rfl⟩
instance : TSize Tryd.prog 24 2 := ⟨by kernel_rfl⟩
instance : TZero Tryd.prog 24 [(.int .i64 0), (.int .i64 0)] := ⟨by kernel_rfl⟩
instance : TArr Tryd.prog 24 2 3 1 := ⟨by kernel_rfl⟩
instance : TAgg Tryd.prog 27 2 := ⟨by kernel_rfl⟩
instance : TSize Tryd.prog 27 2 := ⟨by kernel_rfl⟩
instance : TZero Tryd.prog 27 [(.int .i64 0), (.int .i64 0)] := ⟨by kernel_rfl⟩
instance : TStruct Tryd.prog 27 [(0, 1), (1, 1)] := ⟨by kernel_rfl⟩
instance : TField Tryd.prog 27 0 0 := ⟨by kernel_rfl⟩
instance : TField Tryd.prog 27 1 1 := ⟨by kernel_rfl⟩
instance : TFieldV Tryd.prog 27 0 0 1 false := ⟨by kernel_rfl⟩
instance : TFieldV Tryd.prog 27 1 1 1 false := ⟨by kernel_rfl⟩
instance : EqTy Tryd.prog 27 2 := EqTy.of (by kernel_rfl) (by kernel_rfl) (by kernel_rfl)
instance : TOne Tryd.prog 29 := ⟨by kernel_rfl⟩
instance : TSize Tryd.prog 29 1 := ⟨by kernel_rfl⟩
instance : TZero Tryd.prog 29 [(.int .i64 0)] := ⟨by kernel_rfl⟩
instance : TInt Tryd.prog 29 .i64 := ⟨by kernel_rfl⟩
instance : TAgg Tryd.prog 31 3 := ⟨by kernel_rfl⟩
instance : TSize Tryd.prog 31 3 := ⟨by kernel_rfl⟩
instance : TZero Tryd.prog 31 [(.int .i64 0), (.int .i64 0), (.int .i64 0)] := ⟨by kernel_rfl⟩
instance : TStruct Tryd.prog 31 [(0, 2), (2, 1)] := ⟨by kernel_rfl⟩
instance : TField Tryd.prog 31 0 0 := ⟨by kernel_rfl⟩
instance : TField Tryd.prog 31 1 2 := ⟨by kernel_rfl⟩
instance : TFieldV Tryd.prog 31 0 0 2 true := ⟨by kernel_rfl⟩
instance : TFieldV Tryd.prog 31 1 2 1 false := ⟨by kernel_rfl⟩
instance : EqTy Tryd.prog 31 3 := EqTy.of (by kernel_rfl) (by kernel_rfl) (by kernel_rfl)
instance : TOne Tryd.prog 48 := ⟨by kernel_rfl⟩
instance : TSize Tryd.prog 48 1 := ⟨by kernel_rfl⟩
instance : TZero Tryd.prog 48 [(.slice none 0 0)] := ⟨by kernel_rfl⟩
instance : TSlice Tryd.prog 48 9 1 16 := ⟨by kernel_rfl⟩
instance : TOne Tryd.prog 53 := ⟨by kernel_rfl⟩
instance : TSize Tryd.prog 53 1 := ⟨by kernel_rfl⟩
instance : TZero Tryd.prog 53 [(.int .u64 0)] := ⟨by kernel_rfl⟩
instance : TInt Tryd.prog 53 .u64 := ⟨by kernel_rfl⟩
instance : TOne Tryd.prog 54 := ⟨by kernel_rfl⟩
instance : TSize Tryd.prog 54 1 := ⟨by kernel_rfl⟩
instance : TZero Tryd.prog 54 [.nilFunc] := ⟨by kernel_rfl⟩
instance : TAgg Tryd.prog 55 2 := ⟨by kernel_rfl⟩
instance : TSize Tryd.prog 55 2 := ⟨by kernel_rfl⟩
instance : TZero Tryd.prog 55 [(.int .i64 0), (.int .i64 0)] := ⟨by kernel_rfl⟩
instance : TStruct Tryd.prog 55 [(0, 1), (1, 1)] := ⟨by kernel_rfl⟩
instance : TField Tryd.prog 55 0 0 := ⟨by kernel_rfl⟩
instance : TField Tryd.prog 55 1 1 := ⟨by kernel_rfl⟩
instance : TFieldV Tryd.prog 55 0 0 1 false := ⟨by kernel_rfl⟩
instance : TFieldV Tryd.prog 55 1 1 1 false := ⟨by kernel_rfl⟩
instance : EqTy Tryd.prog 55 2 := EqTy.of (by kernel_rfl) (by kernel_rfl) (by kernel_rfl)
instance : TAgg Tryd.prog 56 2 := ⟨by kernel_rfl⟩
instance : TSize Tryd.prog 56 2 := ⟨by kernel_rfl⟩
instance : TZero Tryd.prog 56 [.nilFunc, .nilFunc] := ⟨by kernel_rfl⟩
instance : TArr Tryd.prog 56 2 54 1 := ⟨by kernel_rfl⟩
instance : TAgg Tryd.prog 63 3 := ⟨by kernel_rfl⟩
instance : TSize Tryd.prog 63 3 := ⟨by kernel_rfl⟩
instance : TZero Tryd.prog 63 [(.int .i64 0), (.int .i64 0), (.int .i64 0)] := ⟨by kernel_rfl⟩
instance : TArr Tryd.prog 63 3 3 1 := ⟨by kernel_rfl⟩
instance : TOne Tryd.prog 68 := ⟨by kernel_rfl⟩
instance : TSize Tryd.prog 68 1 := ⟨by kernel_rfl⟩
instance : TZero Tryd.prog 68 [.nilIface] := ⟨by kernel_rfl⟩
instance : TOne Tryd.prog 73 := ⟨by kernel_rfl⟩
instance : TSize Tryd.prog 73 1 := ⟨by kernel_rfl⟩
instance : TZero Tryd.prog 73 [(.int .u32 0)] := ⟨by kernel_rfl⟩
instance : TInt Tryd.prog 73 .u32 := ⟨by kernel_rfl⟩
instance : TOne Tryd.prog 75 := ⟨by kernel_rfl⟩
instance : TSize Tryd.prog 75 1 := ⟨by kernel_rfl⟩
instance : TZero Tryd.prog 75 [(.int .u64 0)] := ⟨by kernel_rfl⟩
instance : TInt Tryd.prog 75 .u64 := ⟨by kernel_rfl⟩
instance : TOne Tryd.prog 76 := ⟨by kernel_rfl⟩
instance : TSize Tryd.prog 76 1 := ⟨by kernel_rfl⟩
instance : TZero Tryd.prog 76 [(.slice none 0 0)] := ⟨by kernel_rfl⟩
instance : TSlice Tryd.prog 76 3 1 8 := ⟨by kernel_rfl⟩
instance : TOne Tryd.prog 79 := ⟨by kernel_rfl⟩
instance : TSize Tryd.prog 79 1 := ⟨by kernel_rfl⟩
instance : TZero Tryd.prog 79 [(.slice none 0 0)] := ⟨by kernel_rfl⟩
instance : TSlice Tryd.prog 79 5 1 1 := ⟨by kernel_rfl⟩
instance : TAgg Tryd.prog 83 64 := ⟨by kernel_rfl⟩
instance : TSize Tryd.prog 83 64 := ⟨by kernel_rfl⟩
instance : TZero Tryd.prog 83 [(.int .u8 0), (.int .u8 0), (.int .u8 0), (.int .u8 0), (.int .u8 0), (.int .u8 0), (.int .u8 0), (.int .u8 0), (.int .u8 0), (.int .u8 0), (.int .u8 0), (.int .u8 0), (.int .u8 0), (.int .u8 0), (.int .u8 0), (.int .u8 0), (.int .u8 0), (.int .u8 0), (.int .u8 0), (.int .u8 0), (.int .u8 0), (.int .u8 0), (.int .u8 0), (.int .u8 0), (.int .u8 0), (.int .u8 0), (.int .u8 0), (.int .u8 0), (.int .u8 0), (.int .u8 0), (.int .u8 0), (.int .u8 0), (.int .u8 0), (.int .u8 0), (.int .u8 0), (.int .u8 0), (.int .u8 0), (.int .u8 0), (.int .u8 0), (.int .u8 0), (.int .u8 0), (.int .u8 0), (.int .u8 0), (.int .u8 0), (.int .u8 0), (.int .u8 0), (.int .u8 0), (.int .u8 0), (.int .u8 0), (.int .u8 0), (.int .u8 0), (.int .u8 0), (.int .u8 0), (.int .u8 0), (.int .u8 0), (.int .u8 0), (.int .u8 0), (.int .u8 0), (.int .u8 0), (.int .u8 0), (.int .u8 0), (.int .u8 0), (.int .u8 0), (.int .u8 0)] := ⟨by kernel_rfl⟩
instance : TArr Tryd.prog 83 64 5 1 := ⟨by kernel_rfl⟩

/- skewer/skewerlaw19.DyadMatchesReference : names 0 x, 1 y, 2 n, 3 x, 4 y, 5 n, 7 up, 8 a, 9 b -/
def s3 (P : Program) (arg0 arg1 arg2 : Value) (K : Value → WP) : WP :=
  Do P (V (Instr.box 23 arg0)) fun x1 =>
  Do P (V (Instr.box 23 arg1)) fun y2 =>
  Do P (V (Instr.box 24 arg2)) fun n3 =>
  Do P (vCall (.func (.func 11) #[] ⟨[]⟩) []) fun t4_10 =>
  Do P (V (Instr.loadAt 23 x1)) fun t5_11 =>
  Do P (vCall (.func (.func 12) #[] ⟨[]⟩) [t5_11]) fun t6_12 =>
  Do P (V (Instr.alloc 27 true (.tuple #[]))) fun a7 =>
  Do P (U (Instr.storeAt 27 a7 t6_12)) fun t8_x =>
  Do P (V (Instr.loadAt 23 y2)) fun t9_13 =>
  Do P (vCall (.func (.func 12) #[] ⟨[]⟩) [t9_13]) fun t10_14 =>
  Do P (V (Instr.alloc 27 true (.tuple #[]))) fun b11 =>
  Do P (U (Instr.storeAt 27 b11 t10_14)) fun t12_x =>
  Jn (α := Value) (fun j13 => Jk fun _ => -- t68
   If j13 (
    K (.bool false)
   ) (
    Dr <|
    Gd t4_10 true (
     Qk P (V (Instr.loadAt 27 a7)) fun C14 t14_71 =>
     Qk P (V (Instr.loadAt 27 b11)) fun C15 t15_72 =>
     Qk P (V (Instr.loadAt 27 a7)) fun C16 t16_74 =>
     Qk P (V (Instr.loadAt 27 b11)) fun C17 t17_75 =>
     Do P (vCall (.func (.func 23) #[] ⟨[]⟩) [t14_71, t15_72]) fun t18_73 =>
     With C17 <|
     With C16 <|
     Do P (vCall (.func (.func 24) #[] ⟨[]⟩) [t16_74, t17_75]) fun t19_76 =>
     Qk P (V (EqG .eql 3 (.tmp 73) (.tmp 76) t18_73 t19_76)) fun C20 t20_77 =>
     Gd t20_77 true (
      Qk P (V (Instr.loadAt 27 a7)) fun C21 t21_80 =>
      Qk P (V (Instr.loadAt 27 b11)) fun C22 t22_81 =>
      Qk P (V (Instr.loadAt 27 a7)) fun C23 t23_86 =>
      Qk P (V (Instr.loadAt 27 b11)) fun C24 t24_87 =>
      Do P (vCall (.func (.func 25) #[] ⟨[]⟩) [t21_80, t22_81]) fun t25_82 =>
      With C24 <|
      With C23 <|
      Qk P (V (Instr.extract t25_82 0)) fun C26 t26_83 =>
      Qk P (V (Instr.extract t25_82 1)) fun C27 t27_84 =>
      Do P (vCall (.func (.func 13) #[] ⟨[]⟩) [t26_83, t27_84]) fun t28_85 =>
      With C24 <|
      With C23 <|
      Do P (vCall (.func (.func 26) #[] ⟨[]⟩) [t23_86, t24_87]) fun t29_88 =>
      Qk P (V (Instr.extract t29_88 0)) fun C30 t30_89 =>
      Qk P (V (Instr.extract t29_88 1)) fun C31 t31_90 =>
      Do P (vCall (.func (.func 13) #[] ⟨[]⟩) [t30_89, t31_90]) fun t32_91 =>
      Qk P (V (EqG .eql 31 (.tmp 85) (.tmp 91) t28_85 t32_91)) fun C33 t33_92 =>
      Gd t33_92 true (
       Qk P (V (Instr.loadAt 27 a7)) fun C34 t34_95 =>
       Qk P (V (Instr.loadAt 27 a7)) fun C35 t35_97 =>
       Do P (vCall (.func (.func 27) #[] ⟨[]⟩) [t34_95]) fun t36_96 =>
       With C35 <|
       Do P (vCall (.func (.func 28) #[] ⟨[]⟩) [t35_97]) fun t37_98 =>
       Qk P (V (EqG .eql 9 (.tmp 96) (.tmp 98) t36_96 t37_98)) fun C38 t38_99 =>
       Gd t38_99 true (
        Qk P (V (Instr.loadAt 27 a7)) fun C39 t39_102 =>
        Qk P (V (Instr.loadAt 27 a7)) fun C40 t40_108 =>
        Do P (vCall (.func (.func 28) #[] ⟨[]⟩) [t39_102]) fun t41_103 =>
        With C40 <|
        Do P (vCall (.func (.func 29) #[] ⟨[]⟩) [t41_103]) fun t42_104 =>
        With C40 <|
        Qk P (V (Instr.extract t42_104 0)) fun C43 t43_105 =>
        Qk P (V (Instr.extract t42_104 1)) fun C44 t44_106 =>
        Do P (vCall (.func (.func 13) #[] ⟨[]⟩) [t43_105, t44_106]) fun t45_107 =>
        With C40 <|
        Do P (vCall (.func (.func 28) #[] ⟨[]⟩) [t40_108]) fun t46_109 =>
        Do P (vCall (.func (.func 30) #[] ⟨[]⟩) [t46_109]) fun t47_110 =>
        Qk P (V (Instr.extract t47_110 0)) fun C48 t48_111 =>
        Qk P (V (Instr.extract t47_110 1)) fun C49 t49_112 =>
        Do P (vCall (.func (.func 13) #[] ⟨[]⟩) [t48_111, t49_112]) fun t50_113 =>
        Qk P (V (EqG .eql 31 (.tmp 107) (.tmp 113) t45_107 t50_113)) fun C51 t51_114 =>
        K t51_114
       ) (
        K (.bool false)
       )
      ) (
       K (.bool false)
      )
     ) (
      K (.bool false)
     )
    ) (
     K (.bool false)
    )
   )
  ) fun k13 =>
  Dr <|
  Qk P (V (Instr.indexAt 24 n3 (.int .i64 0))) fun C52 t52_15 =>
  Qk P (V (Instr.loadAt 3 t52_15)) fun C53 t53_16 =>
  Qk P (V (Instr.indexAt 24 n3 (.int .i64 1))) fun C54 t54_17 =>
  Qk P (V (Instr.loadAt 3 t54_17)) fun C55 t55_18 =>
  Qk P (V (Instr.indexAt 24 n3 (.int .i64 0))) fun C56 t56_23 =>
  Qk P (V (Instr.loadAt 3 t56_23)) fun C57 t57_24 =>
  Qk P (V (Instr.indexAt 24 n3 (.int .i64 1))) fun C58 t58_25 =>
  Qk P (V (Instr.loadAt 3 t58_25)) fun C59 t59_26 =>
  Do P (vCall (.func (.func 14) #[] ⟨[]⟩) [t53_16, t55_18]) fun t60_19 =>
  With C59 <|
  With C58 <|
  With C57 <|
  With C56 <|
  Qk P (V (Instr.extract t60_19 0)) fun C61 t61_20 =>
  Qk P (V (Instr.extract t60_19 1)) fun C62 t62_21 =>
  Do P (vCall (.func (.func 13) #[] ⟨[]⟩) [t61_20, t62_21]) fun t63_22 =>
  With C59 <|
  With C58 <|
  With C57 <|
  With C56 <|
  Do P (vCall (.func (.func 15) #[] ⟨[]⟩) [t57_24, t59_26]) fun t64_27 =>
  Qk P (V (Instr.extract t64_27 0)) fun C65 t65_28 =>
  Qk P (V (Instr.extract t64_27 1)) fun C66 t66_29 =>
  Do P (vCall (.func (.func 13) #[] ⟨[]⟩) [t65_28, t66_29]) fun t67_30 =>
  Qk P (V (EqG .neq 31 (.tmp 22) (.tmp 30) t63_22 t67_30)) fun C68 t68_31 =>
  Gd t68_31 false (
   Qk P (V (Instr.indexAt 24 n3 (.int .i64 0))) fun C69 t69_33 =>
   Qk P (V (Instr.loadAt 3 t69_33)) fun C70 t70_34 =>
   Qk P (V (Instr.indexAt 24 n3 (.int .i64 1))) fun C71 t71_35 =>
   Qk P (V (Instr.loadAt 3 t71_35)) fun C72 t72_36 =>
   Qk P (V (Instr.indexAt 24 n3 (.int .i64 0))) fun C73 t73_39 =>
   Qk P (V (Instr.loadAt 3 t73_39)) fun C74 t74_40 =>
   Qk P (V (Instr.indexAt 24 n3 (.int .i64 1))) fun C75 t75_41 =>
   Qk P (V (Instr.loadAt 3 t75_41)) fun C76 t76_42 =>
   Do P (vCall (.func (.func 17) #[] ⟨[]⟩) [t70_34, t72_36]) fun t77_37 =>
   With C76 <|
   With C75 <|
   With C74 <|
   With C73 <|
   Do P (vCall (.func (.func 16) #[] ⟨[]⟩) [t77_37]) fun t78_38 =>
   With C76 <|
   With C75 <|
   With C74 <|
   With C73 <|
   Do P (vCall (.func (.func 17) #[] ⟨[]⟩) [t74_40, t76_42]) fun t79_43 =>
   Do P (vCall (.func (.func 18) #[] ⟨[]⟩) [t79_43]) fun t80_44 =>
   Qk P (V (EqG .neq 4 (.tmp 38) (.tmp 44) t78_38 t80_44)) fun C81 t81_45 =>
   Gd t81_45 false (
    Qk P (V (Instr.loadAt 27 a7)) fun C82 t82_48 =>
    Qk P (V (Instr.loadAt 27 b11)) fun C83 t83_49 =>
    Qk P (V (Instr.loadAt 27 a7)) fun C84 t84_54 =>
    Qk P (V (Instr.loadAt 27 b11)) fun C85 t85_55 =>
    Do P (vCall (.func (.func 19) #[] ⟨[]⟩) [t82_48, t83_49]) fun t86_50 =>
    With C85 <|
    With C84 <|
    Qk P (V (Instr.extract t86_50 0)) fun C87 t87_51 =>
    Qk P (V (Instr.extract t86_50 1)) fun C88 t88_52 =>
    Do P (vCall (.func (.func 13) #[] ⟨[]⟩) [t87_51, t88_52]) fun t89_53 =>
    With C85 <|
    With C84 <|
    Do P (vCall (.func (.func 20) #[] ⟨[]⟩) [t84_54, t85_55]) fun t90_56 =>
    Qk P (V (Instr.extract t90_56 0)) fun C91 t91_57 =>
    Qk P (V (Instr.extract t90_56 1)) fun C92 t92_58 =>
    Do P (vCall (.func (.func 13) #[] ⟨[]⟩) [t91_57, t92_58]) fun t93_59 =>
    Qk P (V (EqG .neq 31 (.tmp 53) (.tmp 59) t89_53 t93_59)) fun C94 t94_60 =>
    Gd t94_60 false (
     Qk P (V (Instr.loadAt 27 a7)) fun C95 t95_63 =>
     Qk P (V (Instr.loadAt 27 a7)) fun C96 t96_65 =>
     Do P (vCall (.func (.func 21) #[] ⟨[]⟩) [t95_63]) fun t97_64 =>
     With C96 <|
     Do P (vCall (.func (.func 22) #[] ⟨[]⟩) [t96_65]) fun t98_66 =>
     Qk P (V (EqG .neq 27 (.tmp 64) (.tmp 66) t97_64 t98_66)) fun C99 t99_67 =>
     k13 t99_67
    ) (
     k13 (.bool true)
    )
   ) (
    k13 (.bool true)
   )
  ) (
   k13 (.bool true)
  )
def A3 : Ann := .s (.n) (.s (.n) (.s (.n) (.s (.n) (.s (.j [68] 590295810358705618944 (.plan [(0, 32, 32768), (1, 32768, 65536), (0, 32, 131072), (4, 131072, 262144), (10, 327680, 524288), (16, 524288, 1048576), (16, 524288, 2097152), (112, 3145728, 4194304), (0, 32, 8388608), (256, 8388608, 16777216), (0, 32, 33554432), (1024, 33554432, 67108864), (2688, 83886080, 134217728), (4096, 134217728, 268435456), (4096, 134217728, 536870912), (28672, 805306368, 1073741824), (32896, 1077936128, 2147483648), (98304, 2147483648, 4294967296), (131072, 4294967328, 8589934592), (393216, 12884901888, 17179869184), (131072, 4294967328, 34359738368), (1179648, 38654705664, 68719476736), (2752512, 90194313216, 137438953472), (4325376, 141733920768, 274877906944), (131072, 4294967328, 549755813888), (16908288, 554050781184, 1099511627776), (131072, 4294967328, 2199023255552), (67239936, 2203318222848, 4398046511104), (176291840, 5501853106176, 8796093022208), (268566528, 8800387989504, 17592186044416), (545390592, 17871358918656, 35184372088832), (1073872896, 35188667056128, 70368744177664), (2684354560, 70368744177664, 140737488355328), (4294967296, 140737488355584, 281474976710656), (4294967296, 140737488355840, 562949953421312), (30064771072, 985162418487296, 1125899906842624), (38654705664, 1266637395197952, 2251799813685248), (38654705664, 1266637395197952, 4503599627370496), (244813135872, 6896136929411072, 9007199254740992), (4294967296, 140737488355584, 18014398509481984), (4294967296, 140737488355840, 36028797018963968), (1928440315904, 54183933016801280, 72057594037927936), (2203318222848, 72198331526283264, 144115188075855872), (2203318222848, 72198331526283264, 288230376151711744), (15397457756160, 432486301715922944, 576460752303423488), (17871358918656, 585608689046519808, 1152921504606846976), (35188667056128, 1153062242095202304, 2305843009213693952), (87960930222080, 2305843009213693952, 4611686018427387904), (140737488355328, 4611686018427388160, 9223372036854775808), (422212465065984, 13835058055282163712, 18446744073709551616), (140737488355328, 4611686018427388160, 36893488147419103232), (1829587348619264, 41505174165846491136, 73786976294838206464), (2955487255461888, 96845406386975145984, 147573952589676412928), (4644337115725824, 152185638608103800832, 295147905179352825856)] (.q 0 (.q 1 (.q 2 (.q 3 (.q 8 (.q 9 (.q 10 (.q 11 (.l 4 (.q 5 (.q 6 (.l 7 (.l 12 (.q 13 (.q 14 (.l 15 (.q 16 (.q 17 (.q 18 (.q 19 (.q 20 (.q 21 (.q 24 (.q 25 (.q 26 (.q 27 (.l 22 (.l 23 (.l 28 (.l 29 (.q 30 (.q 31 (.q 32 (.q 33 (.q 34 (.q 39 (.q 40 (.l 35 (.q 36 (.q 37 (.l 38 (.l 41 (.q 42 (.q 43 (.l 44 (.q 45 (.q 46 (.q 47 (.q 48 (.q 50 (.l 49 (.l 51 (.q 52 (.q 53 .done))))))))))))))))))))))))))))))))))))))))))))))))))))))) (.s (.s (.n) (.n)) (.n))) (.s (.plan [(0, 128, 590295810358705651712), (1, 590295810358705651712, 1180591620717411303424), (2, 1180591620717411303680, 2361183241434822606848), (2, 1180591620717411303936, 4722366482869645213696), (14, 8264141345021879123968, 9444732965739290427392), (2, 1180591620717411303680, 18889465931478580854784), (2, 1180591620717411303936, 37778931862957161709568), (114, 57848989415153153867776, 75557863725914323419136), (146, 86183188312371025149952, 151115727451828646838272), (258, 152296319072546058141696, 302231454903657293676544), (640, 302231454903657293676544, 604462909807314587353088), (1024, 604462909807314587353344, 1208925819614629174706176), (1024, 604462909807314587353600, 2417851639229258349412352), (7168, 4231240368651202111471616, 4835703278458516698824704), (9216, 5440166188265831286177792, 9671406556917033397649408), (9216, 5440166188265831286177792, 19342813113834066795298816), (58368, 29618682580558414780301312, 38685626227668133590597632), (1024, 604462909807314587353344, 77371252455336267181195264), (1024, 604462909807314587353600, 154742504910672534362390528), (459776, 232718220275816116130938880, 309485009821345068724781056), (525312, 310089472731152383312134144, 618970019642690137449562112), (525312, 310089472731152383312134144, 1237940039285380274899124224), (3671040, 1857514521837877726936039424, 2475880078570760549798248448), (4260864, 2515170167708235997976199168, 4951760157141521099596496896), (8389632, 4952364620051328414183849984, 9903520314283042199192993792), (20971520, 9903520314283042199192993792, 19807040628566084398385987584), (33554432, 19807040628566084398385987840, 39614081257132168796771975168), (100663296, 59421121885698253195157962752, 79228162514264337593543950336), (33554432, 19807040628566084398385987840, 158456325028528675187087900672), (436207616, 178263365657094759585473888256, 316912650057057350374175801344), (704643072, 415947853199887772366105739264, 633825300114114700748351602688), (1107296256, 653632340742680785146737590272, 1267650600228229401496703205376), (2684354560, 1267650600228229401496703205376, 2535301200456458802993406410752), (4294967296, 2535301200456458802993406411008, 5070602400912917605986812821504), (12884901888, 7605903601369376408980219232256, 10141204801825835211973625643008), (21474836480, 12676506002282294014967032053760, 20282409603651670423947251286016), (38654705664, 22817710804108129226940657696768, 40564819207303340847894502572032), (38654705664, 22817710804108129226940657696768, 81129638414606681695789005144064), (244813135872, 124229758822366481346676914126848, 162259276829213363391578010288128), (4294967296, 2535301200456458802993406411008, 324518553658426726783156020576256), (828928688128, 327053854858883185586149426987008, 649037107316853453566312041152512), (1103806595072, 651572408517309912369305447563264, 1298074214633706907132624082305024), (2203318222848, 1300609515834163365935617488715776, 2596148429267413814265248164610048), (2203318222848, 1300609515834163365935617488715776, 5192296858534827628530496329220096), (15397457756160, 7790980589002697901598737900240896, 10384593717069655257060992658440192), (17871358918656, 10549388295099325079255564075139072, 20769187434139310514121985316880384), (35188667056128, 20771722735339766972924978723291136, 41538374868278621028243970633760768), (140737488355327, 41538374868278621028243970633760768, 64)] (.q 0 (.q 1 (.q 2 (.q 3 (.q 5 (.q 6 (.l 4 (.l 7 (.q 8 (.q 9 (.q 10 (.q 11 (.q 12 (.q 17 (.q 18 (.l 13 (.q 14 (.q 15 (.l 16 (.l 19 (.q 20 (.q 21 (.l 22 (.q 23 (.q 24 (.q 25 (.q 26 (.q 28 (.l 27 (.l 29 (.q 30 (.q 31 (.q 32 (.q 33 (.q 39 (.l 34 (.l 35 (.q 36 (.q 37 (.l 38 (.l 40 (.l 41 (.q 42 (.q 43 (.l 44 (.q 45 (.q 46 (.q 47 .done))))))))))))))))))))))))))))))))))))))))))))))))) (.n))))))
set_option maxRecDepth 100000 in
theorem c3 (arg0 arg1 arg2 : Value) (K : Value → WP) (w : World) (h : s3 Tryd.prog arg0 arg1 arg2 K w) : Runs Tryd.prog 3 [arg0, arg1, arg2] K w :=
  runs_of_E wide (fn := Tryd.f3) (c := Tryd.f3.body.getD .skip) 116 A3 [arg0, arg1, arg2] w K Tryd.func3 (by kernel_rfl) (by kernel_rfl) (by kernel_rfl) (by kernel_rfl)
    (Eq.mp (by kernel_rfl : s3 Tryd.prog arg0 arg1 arg2 K w = E Tryd.prog (Tryd.f3.body.getD .skip) A3 (topK Tryd.prog K Tryd.f3.results) (fun i => (([arg0, arg1, arg2] : List Value)[i]?).getD undef) w) h)
theorem ct3 {arg0 arg1 arg2 : Value} {h : Hp} {post : Hp → Value → Prop} (hg : ∀ w0, Gs w0 h h [] (s3 Tryd.prog arg0 arg1 arg2 (RetP w0 h post))) : Ct Tryd.prog 3 [arg0, arg1, arg2] h post := Ct.of (sf := s3 Tryd.prog arg0 arg1 arg2) (c3 arg0 arg1 arg2) hg
theorem in3 {arg0 arg1 arg2 : Value} {S : WP} {K : Value → WP} (hg : G S (s3 Tryd.prog arg0 arg1 arg2 K)) : G S (Do Tryd.prog (vCall (.func (.func 3) #[] ⟨[]⟩) [arg0, arg1, arg2]) K) := Gs.into (args := [arg0, arg1, arg2]) (caps := []) (sf := s3 Tryd.prog arg0 arg1 arg2) (c3 arg0 arg1 arg2) hg

/- skewer/skewerlaw19.DyadSums : names 0 x, 1 y, 2 z, 3 x, 4 y, 5 z, 7 up, 8 a, 9 b, 10 c, 11 s, 12 t -/
def s4 (P : Program) (arg0 arg1 arg2 : Value) (K : Value → WP) : WP :=
  Do P (V (Instr.box 23 arg0)) fun x1 =>
  Do P (V (Instr.box 23 arg1)) fun y2 =>
  Do P (V (Instr.box 23 arg2)) fun z3 =>
  Do P (vCall (.func (.func 11) #[] ⟨[]⟩) []) fun t4_13 =>
  Do P (V (Instr.loadAt 23 x1)) fun t5_14 =>
  Do P (vCall (.func (.func 12) #[] ⟨[]⟩) [t5_14]) fun t6_15 =>
  Do P (V (Instr.alloc 27 true (.tuple #[]))) fun a7 =>
  Do P (U (Instr.storeAt 27 a7 t6_15)) fun t8_x =>
  Do P (V (Instr.loadAt 23 y2)) fun t9_16 =>
  Do P (vCall (.func (.func 12) #[] ⟨[]⟩) [t9_16]) fun t10_17 =>
  Do P (V (Instr.alloc 27 true (.tuple #[]))) fun b11 =>
  Do P (U (Instr.storeAt 27 b11 t10_17)) fun t12_x =>
  Do P (V (Instr.loadAt 23 z3)) fun t13_18 =>
  Do P (vCall (.func (.func 12) #[] ⟨[]⟩) [t13_18]) fun t14_19 =>
  Do P (V (Instr.alloc 27 true (.tuple #[]))) fun c15 =>
  Do P (U (Instr.storeAt 27 c15 t14_19)) fun t16_x =>
  Do P (V (Instr.loadAt 27 a7)) fun t17_20 =>
  Do P (V (Instr.loadAt 27 b11)) fun t18_21 =>
  Do P (vCall (.func (.func 19) #[] ⟨[]⟩) [t17_20, t18_21]) fun t19_22 =>
  Do P (V (Instr.extract t19_22 0)) fun t20_23 =>
  Do P (V (Instr.extract t19_22 1)) fun t21_24 =>
  Do P (vCall (.func (.func 13) #[] ⟨[]⟩) [t20_23, t21_24]) fun t22_25 =>
  Do P (V (Instr.alloc 31 true (.tuple #[]))) fun s23 =>
  Do P (U (Instr.storeAt 31 s23 t22_25)) fun t24_x =>
  Jn (α := Value) (fun j25 => Jk fun _ => -- t68
   If j25 (
    K (.bool false)
   ) (
    Do P (V (Instr.fieldAt 31 s23 1)) fun t26_69 =>
    Do P (V (Instr.loadAt 29 t26_69)) fun t27_70 =>
    Do P (V (EqG .neq 29 (.tmp 70) (.const (.int .i64 0)) t27_70 (.int .i64 0))) fun t28_71 =>
    If t28_71 (
     Gd t4_13 true (
      Do P (V (Instr.loadAt 31 s23)) fun t29_74 =>
      Do P (vBuild 31 [(1, (.int .i64 190))]) fun t30_75 =>
      Do P (V (EqG .eql 31 (.tmp 74) (.tmp 75) t29_74 t30_75)) fun t31_76 =>
      K t31_76
     ) (
      K (.bool false)
     )
    ) (
     Jn (α := Value) (fun j32 => Jk fun _ => -- t94
      If j32 (
       K (.bool false)
      ) (
       Do P (V (Instr.loadAt 27 b11)) fun t33_95 =>
       Do P (V (Instr.loadAt 27 c15)) fun t34_96 =>
       Do P (vCall (.func (.func 19) #[] ⟨[]⟩) [t33_95, t34_96]) fun t35_97 =>
       Do P (V (Instr.extract t35_97 0)) fun t36_98 =>
       Do P (V (Instr.extract t35_97 1)) fun t37_99 =>
       Do P (vCall (.func (.func 13) #[] ⟨[]⟩) [t36_98, t37_99]) fun t38_100 =>
       Do P (V (Instr.alloc 31 true (.tuple #[]))) fun t39 =>
       Do P (U (Instr.storeAt 31 t39 t38_100)) fun t40_x =>
       Jn (α := Value) (fun j41 => Jk fun _ => -- t109
        If j41 (
         Gd t4_13 true (
          Do P (V (Instr.fieldAt 31 t39 1)) fun t42_112 =>
          Do P (V (Instr.loadAt 29 t42_112)) fun t43_113 =>
          Do P (V (EqG .eql 29 (.tmp 113) (.const (.int .i64 190)) t43_113 (.int .i64 190))) fun t44_114 =>
          K t44_114
         ) (
          K (.bool false)
         )
        ) (
         Dr <|
         Gd t4_13 true (
          Qk P (V (Instr.fieldAt 31 s23 0)) fun C45 t45_118 =>
          Qk P (V (Instr.loadAt 27 t45_118)) fun C46 t46_119 =>
          Qk P (V (Instr.loadAt 27 c15)) fun C47 t47_120 =>
          Qk P (V (Instr.loadAt 27 a7)) fun C48 t48_125 =>
          Qk P (V (Instr.fieldAt 31 t39 0)) fun C49 t49_126 =>
          Qk P (V (Instr.loadAt 27 t49_126)) fun C50 t50_127 =>
          Do P (vCall (.func (.func 19) #[] ⟨[]⟩) [t46_119, t47_120]) fun t51_121 =>
          With C50 <|
          With C49 <|
          With C48 <|
          Qk P (V (Instr.extract t51_121 0)) fun C52 t52_122 =>
          Qk P (V (Instr.extract t51_121 1)) fun C53 t53_123 =>
          Do P (vCall (.func (.func 13) #[] ⟨[]⟩) [t52_122, t53_123]) fun t54_124 =>
          With C50 <|
          With C49 <|
          With C48 <|
          Do P (vCall (.func (.func 19) #[] ⟨[]⟩) [t48_125, t50_127]) fun t55_128 =>
          Qk P (V (Instr.extract t55_128 0)) fun C56 t56_129 =>
          Qk P (V (Instr.extract t55_128 1)) fun C57 t57_130 =>
          Do P (vCall (.func (.func 13) #[] ⟨[]⟩) [t56_129, t57_130]) fun t58_131 =>
          Qk P (V (EqG .eql 31 (.tmp 124) (.tmp 131) t54_124 t58_131)) fun C59 t59_132 =>
          K t59_132
         ) (
          K (.bool false)
         )
        )
       ) fun k41 =>
       Do P (V (Instr.fieldAt 31 t39 1)) fun t60_101 =>
       Do P (V (Instr.loadAt 29 t60_101)) fun t61_102 =>
       Do P (V (EqG .neq 29 (.tmp 102) (.const (.int .i64 0)) t61_102 (.int .i64 0))) fun t62_103 =>
       Gd t62_103 false (
        Do P (V (Instr.fieldAt 31 t39 0)) fun t63_105 =>
        Do P (V (Instr.loadAt 27 t63_105)) fun t64_106 =>
        Do P (vCall (.func (.func 18) #[] ⟨[]⟩) [t64_106]) fun t65_107 =>
        Do P (V (Op.unary .not t65_107)) fun t66_108 =>
        k41 t66_108
       ) (
        k41 (.bool true)
       )
      )
     ) fun k32 =>
     Dr <|
     Qk P (V (Instr.fieldAt 31 s23 0)) fun C67 t67_78 =>
     Qk P (V (Instr.loadAt 27 t67_78)) fun C68 t68_79 =>
     Do P (vCall (.func (.func 18) #[] ⟨[]⟩) [t68_79]) fun t69_80 =>
     Qk P (V (Op.unary .not t69_80)) fun C70 t70_81 =>
     Gd t70_81 false (
      Qk P (V (Instr.fieldAt 31 s23 0)) fun C71 t71_83 =>
      Qk P (V (Instr.loadAt 27 t71_83)) fun C72 t72_84 =>
      Qk P (V (Instr.loadAt 27 b11)) fun C73 t73_85 =>
      Qk P (V (Instr.loadAt 27 a7)) fun C74 t74_91 =>
      Qk P (vBuild 31 [(0, t74_91)]) fun C75 t75_92 =>
      Do P (vCall (.func (.func 21) #[] ⟨[]⟩) [t73_85]) fun t76_86 =>
      With C75 <|
      With C74 <|
      With C72 <|
      With C71 <|
      Do P (vCall (.func (.func 19) #[] ⟨[]⟩) [t72_84, t76_86]) fun t77_87 =>
      With C75 <|
      With C74 <|
      Qk P (V (Instr.extract t77_87 0)) fun C78 t78_88 =>
      Qk P (V (Instr.extract t77_87 1)) fun C79 t79_89 =>
      Do P (vCall (.func (.func 13) #[] ⟨[]⟩) [t78_88, t79_89]) fun t80_90 =>
      With C75 <|
      With C74 <|
      Qk P (V (EqG .neq 31 (.tmp 90) (.tmp 92) t80_90 t75_92)) fun C81 t81_93 =>
      k32 t81_93
     ) (
      k32 (.bool true)
     )
    )
   )
  ) fun k25 =>
  Dr <|
  Qk P (V (Instr.loadAt 31 s23)) fun C82 t82_26 =>
  Qk P (V (Instr.loadAt 27 b11)) fun C83 t83_27 =>
  Qk P (V (Instr.loadAt 27 a7)) fun C84 t84_28 =>
  Do P (vCall (.func (.func 19) #[] ⟨[]⟩) [t83_27, t84_28]) fun t85_29 =>
  With C82 <|
  Qk P (V (Instr.extract t85_29 0)) fun C86 t86_30 =>
  Qk P (V (Instr.extract t85_29 1)) fun C87 t87_31 =>
  Do P (vCall (.func (.func 13) #[] ⟨[]⟩) [t86_30, t87_31]) fun t88_32 =>
  With C82 <|
  Qk P (V (EqG .neq 31 (.tmp 26) (.tmp 32) t82_26 t88_32)) fun C89 t89_33 =>
  Gd t89_33 false (
   Qk P (V (Instr.loadAt 27 a7)) fun C90 t90_35 =>
   Qk P (V (Instr.loadAt 27 a7)) fun C91 t91_41 =>
   Qk P (vBuild 31 [(0, t91_41)]) fun C92 t92_42 =>
   Do P (vCall (.func (.func 17) #[] ⟨[]⟩) [(.int .i64 0), (.int .i64 0)]) fun t93_36 =>
   With C92 <|
   With C91 <|
   With C90 <|
   Do P (vCall (.func (.func 19) #[] ⟨[]⟩) [t90_35, t93_36]) fun t94_37 =>
   With C92 <|
   With C91 <|
   Qk P (V (Instr.extract t94_37 0)) fun C95 t95_38 =>
   Qk P (V (Instr.extract t94_37 1)) fun C96 t96_39 =>
   Do P (vCall (.func (.func 13) #[] ⟨[]⟩) [t95_38, t96_39]) fun t97_40 =>
   With C92 <|
   With C91 <|
   Qk P (V (EqG .neq 31 (.tmp 40) (.tmp 42) t97_40 t92_42)) fun C98 t98_43 =>
   Gd t98_43 false (
    Qk P (V (Instr.loadAt 27 a7)) fun C99 t99_46 =>
    Qk P (V (Instr.loadAt 27 a7)) fun C100 t100_47 =>
    Qk P (vBuild 31 []) fun C101 t101_53 =>
    Do P (vCall (.func (.func 21) #[] ⟨[]⟩) [t100_47]) fun t102_48 =>
    With C101 <|
    With C99 <|
    Do P (vCall (.func (.func 19) #[] ⟨[]⟩) [t99_46, t102_48]) fun t103_49 =>
    With C101 <|
    Qk P (V (Instr.extract t103_49 0)) fun C104 t104_50 =>
    Qk P (V (Instr.extract t103_49 1)) fun C105 t105_51 =>
    Do P (vCall (.func (.func 13) #[] ⟨[]⟩) [t104_50, t105_51]) fun t106_52 =>
    With C101 <|
    Qk P (V (EqG .neq 31 (.tmp 52) (.tmp 53) t106_52 t101_53)) fun C107 t107_54 =>
    Gd t107_54 false (
     Qk P (V (Instr.loadAt 27 a7)) fun C108 t108_57 =>
     Qk P (V (Instr.loadAt 27 a7)) fun C109 t109_60 =>
     Do P (vCall (.func (.func 21) #[] ⟨[]⟩) [t108_57]) fun t110_58 =>
     With C109 <|
     Do P (vCall (.func (.func 21) #[] ⟨[]⟩) [t110_58]) fun t111_59 =>
     With C109 <|
     Qk P (V (EqG .neq 27 (.tmp 59) (.tmp 60) t111_59 t109_60)) fun C112 t112_61 =>
     Gd t112_61 false (
      Qk P (V (Instr.loadAt 27 a7)) fun C113 t113_64 =>
      Do P (vCall (.func (.func 21) #[] ⟨[]⟩) [t113_64]) fun t114_65 =>
      Do P (vCall (.func (.func 16) #[] ⟨[]⟩) [t114_65]) fun t115_66 =>
      Qk P (V (Op.unary .not t115_66)) fun C116 t116_67 =>
      k25 t116_67
     ) (
      k25 (.bool true)
     )
    ) (
     k25 (.bool true)
    )
   ) (
    k25 (.bool true)
   )
  ) (
   k25 (.bool true)
  )
def A4 : Ann := .s (.n) (.s (.n) (.s (.n) (.s (.n) (.s (.n) (.s (.n) (.s (.j [68] 590295810358638542848 (.plan [(0, 2048, 67108864), (0, 512, 134217728), (0, 256, 268435456), (6, 402653184, 536870912), (8, 536870912, 1073741824), (8, 536870912, 2147483648), (56, 3221225472, 4294967296), (65, 4362076160, 8589934592), (192, 8589934592, 17179869184), (256, 17179869440, 34359738368), (256, 17179869184, 68719476736), (1792, 120259084288, 137438953472), (2304, 154618822656, 274877906944), (2304, 154618822656, 549755813888), (14592, 841813590016, 1099511627776), (256, 17179869440, 2199023255552), (33024, 2216203124736, 4398046511104), (82176, 5514738008064, 8796093022208), (131328, 8813272891392, 17592186044416), (278528, 17592186044416, 35184372088832), (524288, 35184372089088, 70368744177664), (524288, 35184372089088, 140737488355328), (2621440, 175921860444160, 281474976710656), (5767168, 387028092977152, 562949953421312), (8912896, 598134325510144, 1125899906842624), (8912896, 598134325510144, 2251799813685248), (59244544, 3412884092616704, 4503599627370496), (524288, 35184372088832, 9007199254740992), (201850880, 13545983254200320, 18014398509481984), (268959744, 18049582881570816, 36028797018963968), (603979776, 36028797018963968, 72057594037927936), (1073741824, 72057594037928192, 144115188075855872), (3221225472, 216172782113783808, 288230376151711744), (5368709120, 360287970189639680, 576460752303423488), (1073741824, 72057594037928192, 1152921504606846976), (26843545600, 1801439850948198400, 2305843009213693952), (35433480192, 2377900603251621888, 4611686018427387904), (77309411328, 4611686018427387904, 9223372036854775808), (137438953472, 9223372036854776064, 18446744073709551616), (412316860416, 27670116110564327424, 36893488147419103232), (687194767360, 46116860184273879040, 73786976294838206464), (1236950581248, 83010348331692982272, 147573952589676412928), (2336462209024, 156797324626531188736, 295147905179352825856)] (.q 0 (.q 1 (.q 2 (.l 3 (.q 4 (.q 5 (.l 6 (.q 7 (.q 8 (.q 9 (.q 15 (.q 16 (.l 10 (.l 11 (.q 12 (.q 13 (.l 14 (.q 17 (.q 18 (.q 19 (.q 20 (.q 21 (.q 27 (.l 22 (.l 23 (.q 24 (.q 25 (.l 26 (.q 28 (.q 29 (.q 30 (.q 31 (.q 34 (.l 32 (.l 33 (.q 35 (.q 36 (.q 37 (.q 38 (.l 39 (.l 40 (.q 41 (.q 42 .done)))))))))))))))))))))))))))))))))))))))))))) (.s (.s (.n) (.n)) (.n))) (.s (.s (.n) (.s (.s (.n) (.n)) (.n))) (.s (.j [94] 39613779025677265139478298624 (.plan [(0, 2048, 302231454903657293676544), (1, 302231454903657293676544, 604462909807314587353088), (2, 604462909807314587353088, 1208925819614629174706176), (4, 1208925819614629174706176, 2417851639229258349412352), (12, 2417851639229258349412352, 4835703278458516698824704), (16, 4835703278458516698826752, 9671406556917033397649408), (48, 14507109835375550096474112, 19342813113834066795298816), (16, 4835703278458516698825216, 38685626227668133590597632), (144, 43521329506126650289422336, 77371252455336267181195264), (336, 101549768847628850675318784, 154742504910672534362390528), (528, 159578208189131051061215232, 309485009821345068724781056), (528, 159578208189131051061215232, 618970019642690137449562112), (3600, 933290732742493722873167872, 1237940039285380274899124224), (16, 4835703278458516698824960, 2475880078570760549798248448), (8208, 2480715781849219066497073152, 4951760157141521099596496896), (20496, 6194535899705359891194445824, 9903520314283042199192993792), (32784, 9908356017561500715891818496, 19807040628566084398385987584)] (.q 0 (.q 1 (.l 2 (.q 3 (.q 4 (.q 5 (.q 6 (.q 7 (.q 13 (.q 14 (.l 8 (.l 9 (.q 10 (.q 11 (.l 12 (.q 15 (.q 16 .done)))))))))))))))))) (.s (.s (.n) (.n)) (.n))) (.s (.n) (.s (.j [109] 1295538913433250448329630675894272 (.n) (.s (.s (.n) (.n)) (.n))) (.s (.plan [(0, 128, 83076749736557242056487941267521536), (1, 83076749736557242056487941267521536, 166153499473114484112975882535043072), (2, 166153499473114484112975882535045120, 332306998946228968225951765070086144), (6, 498460498419343452338927647605129216, 664613997892457936451903530140172288), (2, 166153499473114484112975882535044096, 1329227995784915872903807060280344576), (26, 2159995493150488293468686472955559936, 2658455991569831745807614120560689152), (34, 2824609491042946229920590003095732224, 5316911983139663491615228241121378304), (34, 2824609491042946229920590003095732224, 10633823966279326983230456482242756608), (226, 16116889448892104958958660605899177984, 21267647932558653966460912964485513216), (2, 166153499473114484112975882535043328, 42535295865117307932921825928971026432), (2, 166153499473114484112975882535047168, 85070591730234615865843651857942052864), (1026, 85236745229707730349956627740477095936, 170141183460469231731687303715884105728), (2818, 212842632825059654148722105527390175232, 340282366920938463463374607431768211456), (4098, 340448520420411577947487583314303254528, 680564733841876926926749214863536422912), (4098, 340448520420411577947487583314303254528, 1361129467683753853853498429727072845824), (28674, 2041860355025103895264360620473144311808, 2722258935367507707706996859454145691648), (33026, 2743692736799539476157570748301166247936, 5444517870735015415413993718908291383296), (65538, 5444684024234488529898106694790826426368, 10889035741470030830827987437816582766592), (262143, 10889035741470030830827987437816582766592, 64)] (.q 0 (.q 1 (.q 2 (.q 3 (.q 4 (.q 9 (.q 10 (.q 11 (.l 5 (.q 6 (.q 7 (.l 8 (.l 12 (.q 13 (.q 14 (.l 15 (.q 16 (.q 17 (.q 18 .done)))))))))))))))))))) (.n))))))))))))
set_option maxRecDepth 100000 in
theorem c4 (arg0 arg1 arg2 : Value) (K : Value → WP) (w : World) (h : s4 Tryd.prog arg0 arg1 arg2 K w) : Runs Tryd.prog 4 [arg0, arg1, arg2] K w :=
  runs_of_E wide (fn := Tryd.f4) (c := Tryd.f4.body.getD .skip) 134 A4 [arg0, arg1, arg2] w K Tryd.func4 (by kernel_rfl) (by kernel_rfl) (by kernel_rfl) (by kernel_rfl)
    (Eq.mp (by kernel_rfl : s4 Tryd.prog arg0 arg1 arg2 K w = E Tryd.prog (Tryd.f4.body.getD .skip) A4 (topK Tryd.prog K Tryd.f4.results) (fun i => (([arg0, arg1, arg2] : List Value)[i]?).getD undef) w) h)
theorem ct4 {arg0 arg1 arg2 : Value} {h : Hp} {post : Hp → Value → Prop} (hg : ∀ w0, Gs w0 h h [] (s4 Tryd.prog arg0 arg1 arg2 (RetP w0 h post))) : Ct Tryd.prog 4 [arg0, arg1, arg2] h post := Ct.of (sf := s4 Tryd.prog arg0 arg1 arg2) (c4 arg0 arg1 arg2) hg
theorem in4 {arg0 arg1 arg2 : Value} {S : WP} {K : Value → WP} (hg : G S (s4 Tryd.prog arg0 arg1 arg2 K)) : G S (Do Tryd.prog (vCall (.func (.func 4) #[] ⟨[]⟩) [arg0, arg1, arg2]) K) := Gs.into (args := [arg0, arg1, arg2]) (caps := []) (sf := s4 Tryd.prog arg0 arg1 arg2) (c4 arg0 arg1 arg2) hg

/- skewer/skewerlaw19.DyadOrders : names 0 x, 1 y, 2 z, 3 x, 4 y, 5 z, 7 up, 8 a, 9 b, 10 c, 11 o, 12 s, 13 t -/
def s5 (P : Program) (arg0 arg1 arg2 : Value) (K : Value → WP) : WP :=
  Do P (V (Instr.box 23 arg0)) fun x1 =>
  Do P (V (Instr.box 23 arg1)) fun y2 =>
  Do P (V (Instr.box 23 arg2)) fun z3 =>
  Do P (vCall (.func (.func 11) #[] ⟨[]⟩) []) fun t4_14 =>
  Do P (V (Instr.loadAt 23 x1)) fun t5_15 =>
  Do P (vCall (.func (.func 12) #[] ⟨[]⟩) [t5_15]) fun t6_16 =>
  Do P (V (Instr.alloc 27 true (.tuple #[]))) fun a7 =>
  Do P (U (Instr.storeAt 27 a7 t6_16)) fun t8_x =>
  Do P (V (Instr.loadAt 23 y2)) fun t9_17 =>
  Do P (vCall (.func (.func 12) #[] ⟨[]⟩) [t9_17]) fun t10_18 =>
  Do P (V (Instr.alloc 27 true (.tuple #[]))) fun b11 =>
  Do P (U (Instr.storeAt 27 b11 t10_18)) fun t12_x =>
  Do P (V (Instr.loadAt 23 z3)) fun t13_19 =>
  Do P (vCall (.func (.func 12) #[] ⟨[]⟩) [t13_19]) fun t14_20 =>
  Do P (V (Instr.alloc 27 true (.tuple #[]))) fun c15 =>
  Do P (U (Instr.storeAt 27 c15 t14_20)) fun t16_x =>
  Do P (V (Instr.loadAt 27 a7)) fun t17_21 =>
  Do P (V (Instr.loadAt 27 b11)) fun t18_22 =>
  Do P (vCall (.func (.func 23) #[] ⟨[]⟩) [t17_21, t18_22]) fun t19_23 =>
  Jn (α := Value) (fun j20 => Jk fun _ => -- t55
   If j20 (
    K (.bool false)
   ) (
    Jn (α := Value) (fun j21 => Jk fun _ => -- t69
     If j21 (
      K (.bool false)
     ) (
      Do P (V (Instr.loadAt 27 a7)) fun t22_70 =>
      Do P (V (Instr.loadAt 27 c15)) fun t23_71 =>
      Do P (vCall (.func (.func 19) #[] ⟨[]⟩) [t22_70, t23_71]) fun t24_72 =>
      Do P (V (Instr.extract t24_72 0)) fun t25_73 =>
      Do P (V (Instr.extract t24_72 1)) fun t26_74 =>
      Do P (vCall (.func (.func 13) #[] ⟨[]⟩) [t25_73, t26_74]) fun t27_75 =>
      Do P (V (Instr.alloc 31 true (.tuple #[]))) fun s28 =>
      Do P (U (Instr.storeAt 31 s28 t27_75)) fun t29_x =>
      Do P (V (Instr.loadAt 27 b11)) fun t30_76 =>
      Do P (V (Instr.loadAt 27 c15)) fun t31_77 =>
      Do P (vCall (.func (.func 19) #[] ⟨[]⟩) [t30_76, t31_77]) fun t32_78 =>
      Do P (V (Instr.extract t32_78 0)) fun t33_79 =>
      Do P (V (Instr.extract t32_78 1)) fun t34_80 =>
      Do P (vCall (.func (.func 13) #[] ⟨[]⟩) [t33_79, t34_80]) fun t35_81 =>
      Do P (V (Instr.alloc 31 true (.tuple #[]))) fun t36 =>
      Do P (U (Instr.storeAt 31 t36 t35_81)) fun t37_x =>
      Jn (α := Value) (fun j38 => Jk fun _ => -- t101
       If j38 (
        Gd t4_14 true (
         Do P (V (Instr.fieldAt 31 s28 1)) fun t39_104 =>
         Do P (V (Instr.loadAt 29 t39_104)) fun t40_105 =>
         Do P (V (EqG .neq 29 (.tmp 105) (.const (.int .i64 0)) t40_105 (.int .i64 0))) fun t41_106 =>
         Gd t41_106 false (
          Do P (V (Instr.fieldAt 31 s28 0)) fun t42_108 =>
          Do P (V (Instr.loadAt 27 t42_108)) fun t43_109 =>
          Do P (vCall (.func (.func 18) #[] ⟨[]⟩) [t43_109]) fun t44_110 =>
          Gd t44_110 true (
           Do P (V (Instr.fieldAt 31 t36 1)) fun t45_114 =>
           Do P (V (Instr.loadAt 29 t45_114)) fun t46_115 =>
           Do P (V (EqG .neq 29 (.tmp 115) (.const (.int .i64 0)) t46_115 (.int .i64 0))) fun t47_116 =>
           Gd t47_116 false (
            Do P (V (Instr.fieldAt 31 t36 0)) fun t48_118 =>
            Do P (V (Instr.loadAt 27 t48_118)) fun t49_119 =>
            Do P (vCall (.func (.func 18) #[] ⟨[]⟩) [t49_119]) fun t50_120 =>
            K t50_120
           ) (
            K (.bool true)
           )
          ) (
           K (.bool false)
          )
         ) (
          Do P (V (Instr.fieldAt 31 t36 1)) fun t51_114 =>
          Do P (V (Instr.loadAt 29 t51_114)) fun t52_115 =>
          Do P (V (EqG .neq 29 (.tmp 115) (.const (.int .i64 0)) t52_115 (.int .i64 0))) fun t53_116 =>
          Gd t53_116 false (
           Do P (V (Instr.fieldAt 31 t36 0)) fun t54_118 =>
           Do P (V (Instr.loadAt 27 t54_118)) fun t55_119 =>
           Do P (vCall (.func (.func 18) #[] ⟨[]⟩) [t55_119]) fun t56_120 =>
           K t56_120
          ) (
           K (.bool true)
          )
         )
        ) (
         K (.bool false)
        )
       ) (
        Gd t4_14 true (
         Do P (V (Instr.fieldAt 31 s28 0)) fun t57_125 =>
         Do P (V (Instr.loadAt 27 t57_125)) fun t58_126 =>
         Do P (V (Instr.fieldAt 31 t36 0)) fun t59_127 =>
         Do P (V (Instr.loadAt 27 t59_127)) fun t60_128 =>
         Do P (vCall (.func (.func 23) #[] ⟨[]⟩) [t58_126, t60_128]) fun t61_129 =>
         Do P (V (EqG .eql 3 (.tmp 129) (.tmp 130) t61_129 t19_23)) fun t62_131 =>
         K t62_131
        ) (
         K (.bool false)
        )
       )
      ) fun k38 =>
      Do P (V (Instr.fieldAt 31 s28 1)) fun t63_82 =>
      Do P (V (Instr.loadAt 29 t63_82)) fun t64_83 =>
      Do P (V (EqG .neq 29 (.tmp 83) (.const (.int .i64 0)) t64_83 (.int .i64 0))) fun t65_84 =>
      Gd t65_84 false (
       Do P (V (Instr.fieldAt 31 t36 1)) fun t66_86 =>
       Do P (V (Instr.loadAt 29 t66_86)) fun t67_87 =>
       Do P (V (EqG .neq 29 (.tmp 87) (.const (.int .i64 0)) t67_87 (.int .i64 0))) fun t68_88 =>
       Gd t68_88 false (
        Do P (V (Instr.fieldAt 31 s28 0)) fun t69_91 =>
        Do P (V (Instr.loadAt 27 t69_91)) fun t70_92 =>
        Do P (vCall (.func (.func 18) #[] ⟨[]⟩) [t70_92]) fun t71_93 =>
        Do P (V (Op.unary .not t71_93)) fun t72_94 =>
        Gd t72_94 false (
         Do P (V (Instr.fieldAt 31 t36 0)) fun t73_97 =>
         Do P (V (Instr.loadAt 27 t73_97)) fun t74_98 =>
         Do P (vCall (.func (.func 18) #[] ⟨[]⟩) [t74_98]) fun t75_99 =>
         Do P (V (Op.unary .not t75_99)) fun t76_100 =>
         k38 t76_100
        ) (
         k38 (.bool true)
        )
       ) (
        k38 (.bool true)
       )
      ) (
       k38 (.bool true)
      )
     )
    ) fun k21 =>
    Do P (V (binOp .lss 3 t19_23 (.int .i64 0))) fun t77_57 =>
    Gd t77_57 true (
     Do P (V (Instr.loadAt 27 b11)) fun t78_59 =>
     Do P (V (Instr.loadAt 27 c15)) fun t79_60 =>
     Do P (vCall (.func (.func 23) #[] ⟨[]⟩) [t78_59, t79_60]) fun t80_61 =>
     Do P (V (binOp .leq 3 t80_61 (.int .i64 0))) fun t81_62 =>
     Gd t81_62 true (
      Do P (V (Instr.loadAt 27 a7)) fun t82_65 =>
      Do P (V (Instr.loadAt 27 c15)) fun t83_66 =>
      Do P (vCall (.func (.func 23) #[] ⟨[]⟩) [t82_65, t83_66]) fun t84_67 =>
      Do P (V (EqG .neq 3 (.tmp 67) (.const (.int .i64 (-1))) t84_67 (.int .i64 (-1)))) fun t85_68 =>
      k21 t85_68
     ) (
      k21 (.bool false)
     )
    ) (
     k21 (.bool false)
    )
   )
  ) fun k20 =>
  Dr <|
  Qk P (V (binOp .lss 3 t19_23 (.int .i64 (-1)))) fun C86 t86_25 =>
  Gd t86_25 false (
   Qk P (V (binOp .gtr 3 t19_23 (.int .i64 1))) fun C87 t87_28 =>
   Gd t87_28 false (
    Qk P (V (Instr.loadAt 27 b11)) fun C88 t88_31 =>
    Qk P (V (Instr.loadAt 27 a7)) fun C89 t89_32 =>
    Qk P (V (Op.unary .neg t19_23)) fun C90 t90_35 =>
    Do P (vCall (.func (.func 23) #[] ⟨[]⟩) [t88_31, t89_32]) fun t91_33 =>
    With C90 <|
    Qk P (V (EqG .neq 3 (.tmp 33) (.tmp 35) t91_33 t90_35)) fun C92 t92_36 =>
    Gd t92_36 false (
     Qk P (V (EqG .eql 3 (.tmp 39) (.const (.int .i64 0)) t19_23 (.int .i64 0))) fun C93 t93_40 =>
     Qk P (V (Instr.loadAt 27 a7)) fun C94 t94_41 =>
     Qk P (V (Instr.loadAt 27 b11)) fun C95 t95_42 =>
     Qk P (V (EqG .eql 27 (.tmp 41) (.tmp 42) t94_41 t95_42)) fun C96 t96_43 =>
     Qk P (V (EqG .neq 4 (.tmp 40) (.tmp 43) t93_40 t96_43)) fun C97 t97_44 =>
     Gd t97_44 false (
      Qk P (V (Instr.loadAt 27 a7)) fun C98 t98_47 =>
      Qk P (V (Instr.loadAt 27 b11)) fun C99 t99_49 =>
      Qk P (V (Op.unary .neg t19_23)) fun C100 t100_53 =>
      Do P (vCall (.func (.func 21) #[] ⟨[]⟩) [t98_47]) fun t101_48 =>
      With C100 <|
      With C99 <|
      Do P (vCall (.func (.func 21) #[] ⟨[]⟩) [t99_49]) fun t102_50 =>
      With C100 <|
      Do P (vCall (.func (.func 23) #[] ⟨[]⟩) [t101_48, t102_50]) fun t103_51 =>
      With C100 <|
      Qk P (V (EqG .neq 3 (.tmp 51) (.tmp 53) t103_51 t100_53)) fun C104 t104_54 =>
      k20 t104_54
     ) (
      k20 (.bool true)
     )
    ) (
     k20 (.bool true)
    )
   ) (
    k20 (.bool true)
   )
  ) (
   k20 (.bool true)
  )
def A5 : Ann := .s (.n) (.s (.n) (.s (.n) (.s (.n) (.s (.n) (.s (.n) (.s (.j [55] 72057594021150720 (.plan [(0, 2048, 16777216), (1, 16777216, 33554432), (2, 33554432, 67108864), (4, 67110912, 134217728), (12, 201326592, 268435456), (20, 335544320, 536870912), (36, 536870912, 1073741824), (64, 1073742336, 2147483648), (64, 1073742080, 4294967296), (448, 7516192768, 8589934592), (64, 1073743872, 17179869184), (1088, 18253611008, 34359738368), (2624, 44023414784, 68719476736), (4160, 69793218560, 137438953472), (8704, 137438953472, 274877906944), (16384, 274877908992, 549755813888), (49152, 824633720832, 1099511627776), (16384, 274877907200, 2199023255552), (16384, 274877907456, 4398046511104), (409600, 6871947673600, 8796093022208), (606208, 10170482556928, 17592186044416), (1064960, 17867063951360, 35184372088832), (2113536, 35184372088832, 70368744177664), (4194304, 70368744177920, 140737488355328), (12582912, 211106232532992, 281474976710656), (4194304, 70368744178176, 562949953421312), (54525952, 633318697598976, 1125899906842624), (88080384, 1477743627730944, 2251799813685248), (4194304, 70368744179712, 4503599627370496), (272629760, 4573968371548160, 9007199254740992), (675282944, 11329367812603904, 18014398509481984), (1077936128, 18084767253659648, 36028797018963968)] (.q 0 (.q 1 (.q 2 (.q 3 (.q 4 (.q 5 (.q 6 (.q 7 (.q 8 (.q 10 (.q 11 (.l 9 (.q 12 (.q 13 (.q 14 (.q 15 (.q 16 (.q 17 (.q 18 (.q 19 (.q 20 (.q 21 (.q 22 (.q 23 (.q 25 (.q 28 (.q 29 (.l 24 (.l 26 (.l 27 (.q 30 (.q 31 .done))))))))))))))))))))))))))))))))) (.s (.s (.n) (.n)) (.n))) (.s (.j [69] 1180519563123373375488 (.n) (.s (.s (.n) (.n)) (.n))) (.s (.n) (.s (.n) (.s (.j [101] 5070597565209639147470113996800 (.n) (.s (.s (.n) (.n)) (.n))) (.s (.n) (.n))))))))))))
set_option maxRecDepth 100000 in
theorem c5 (arg0 arg1 arg2 : Value) (K : Value → WP) (w : World) (h : s5 Tryd.prog arg0 arg1 arg2 K w) : Runs Tryd.prog 5 [arg0, arg1, arg2] K w :=
  runs_of_E wide (fn := Tryd.f5) (c := Tryd.f5.body.getD .skip) 133 A5 [arg0, arg1, arg2] w K Tryd.func5 (by kernel_rfl) (by kernel_rfl) (by kernel_rfl) (by kernel_rfl)
    (Eq.mp (by kernel_rfl : s5 Tryd.prog arg0 arg1 arg2 K w = E Tryd.prog (Tryd.f5.body.getD .skip) A5 (topK Tryd.prog K Tryd.f5.results) (fun i => (([arg0, arg1, arg2] : List Value)[i]?).getD undef) w) h)
theorem ct5 {arg0 arg1 arg2 : Value} {h : Hp} {post : Hp → Value → Prop} (hg : ∀ w0, Gs w0 h h [] (s5 Tryd.prog arg0 arg1 arg2 (RetP w0 h post))) : Ct Tryd.prog 5 [arg0, arg1, arg2] h post := Ct.of (sf := s5 Tryd.prog arg0 arg1 arg2) (c5 arg0 arg1 arg2) hg
theorem in5 {arg0 arg1 arg2 : Value} {S : WP} {K : Value → WP} (hg : G S (s5 Tryd.prog arg0 arg1 arg2 K)) : G S (Do Tryd.prog (vCall (.func (.func 5) #[] ⟨[]⟩) [arg0, arg1, arg2]) K) := Gs.into (args := [arg0, arg1, arg2]) (caps := []) (sf := s5 Tryd.prog arg0 arg1 arg2) (c5 arg0 arg1 arg2) hg

/- skewer/skewerlaw19.DyadMakes : names 0 x, 1 more, 2 x, 3 more, 5 up, 6 a, 7 n, 8 exp, 9 i, 10 h -/
def s6 (P : Program) (arg0 arg1 : Value) (K : Value → WP) : WP :=
  Do P (V (Instr.box 23 arg0)) fun x1 =>
  Do P (vCall (.func (.func 11) #[] ⟨[]⟩) []) fun t2_11 =>
  Do P (V (Instr.loadAt 23 x1)) fun t3_12 =>
  Do P (vCall (.func (.func 12) #[] ⟨[]⟩) [t3_12]) fun t4_13 =>
  Do P (V (Instr.alloc 27 true (.tuple #[]))) fun a5 =>
  Do P (U (Instr.storeAt 27 a5 t4_13)) fun t6_x =>
  Do P (V (Instr.fieldAt 27 a5 0)) fun t7_14 =>
  Do P (V (Instr.loadAt 3 t7_14)) fun t8_15 =>
  Do P (V (Instr.fieldAt 27 a5 1)) fun t9_16 =>
  Do P (V (Instr.loadAt 3 t9_16)) fun t10_17 =>
  Lp (α := Value × Value × Value) (fun c11 s11 => Jk fun _ => -- n exp i
   Jn (α := Value) (fun j12 => Jk fun _ => -- t26
    If j12 (
     Do P (V (binOp .mul 3 (.int .i64 2) s11.1)) fun t13_30 =>
     Do P (V (binOp .add 3 s11.2.1 (.int .i64 1))) fun t14_32 =>
     Dr <|
     Qk P (V (Instr.loadAt 27 a5)) fun C15 t15_39 =>
     Qk P (vBuild 31 [(0, t15_39)]) fun C16 t16_40 =>
     Do P (vCall (.func (.func 14) #[] ⟨[]⟩) [t13_30, t14_32]) fun t17_35 =>
     With C16 <|
     With C15 <|
     Qk P (V (Instr.extract t17_35 0)) fun C18 t18_36 =>
     Qk P (V (Instr.extract t17_35 1)) fun C19 t19_37 =>
     Do P (vCall (.func (.func 13) #[] ⟨[]⟩) [t18_36, t19_37]) fun t20_38 =>
     With C16 <|
     With C15 <|
     Qk P (V (EqG .neq 31 (.tmp 38) (.tmp 40) t20_38 t16_40)) fun C21 t21_41 =>
     If t21_41 (
      K (.bool false)
     ) (
      Do P (V (binOp .add 3 s11.2.2 (.int .i64 1))) fun t22_28 =>
      c11 (t13_30, t14_32, t22_28)
     )
    ) (
     Do P (V (Instr.fieldAt 27 a5 0)) fun t23_42 =>
     Do P (V (Instr.loadAt 3 t23_42)) fun t24_43 =>
     Do P (V (Instr.fieldAt 27 a5 1)) fun t25_44 =>
     Do P (V (Instr.loadAt 3 t25_44)) fun t26_45 =>
     Do P (V (binOp .add 3 t26_45 (.int .i64 1))) fun t27_46 =>
     Do P (vCall (.func (.func 14) #[] ⟨[]⟩) [t24_43, t27_46]) fun t28_47 =>
     Do P (V (Instr.extract t28_47 0)) fun t29_48 =>
     Do P (V (Instr.extract t28_47 1)) fun t30_49 =>
     Do P (vCall (.func (.func 13) #[] ⟨[]⟩) [t29_48, t30_49]) fun t31_50 =>
     Do P (V (Instr.alloc 31 true (.tuple #[]))) fun h32 =>
     Do P (U (Instr.storeAt 31 h32 t31_50)) fun t33_x =>
     Do P (V (Instr.fieldAt 31 h32 1)) fun t34_51 =>
     Do P (V (Instr.loadAt 29 t34_51)) fun t35_52 =>
     Do P (V (EqG .neq 29 (.tmp 52) (.const (.int .i64 0)) t35_52 (.int .i64 0))) fun t36_53 =>
     If t36_53 (
      Gd t2_11 true (
       Do P (V (Instr.loadAt 31 h32)) fun t37_56 =>
       Do P (vBuild 31 [(1, (.int .i64 190))]) fun t38_57 =>
       Do P (V (EqG .eql 31 (.tmp 56) (.tmp 57) t37_56 t38_57)) fun t39_58 =>
       Gd t39_58 true (
        Do P (V (Instr.fieldAt 27 a5 1)) fun t40_61 =>
        Do P (V (Instr.loadAt 3 t40_61)) fun t41_62 =>
        Do P (V (EqG .eql 3 (.tmp 62) (.const (.int .i64 30)) t41_62 (.int .i64 30))) fun t42_63 =>
        K t42_63
       ) (
        K (.bool false)
       )
      ) (
       K (.bool false)
      )
     ) (
      Dr <|
      Gd t2_11 true (
       Qk P (V (Instr.fieldAt 31 h32 0)) fun C43 t43_67 =>
       Qk P (V (Instr.loadAt 27 t43_67)) fun C44 t44_68 =>
       Do P (vCall (.func (.func 18) #[] ⟨[]⟩) [t44_68]) fun t45_69 =>
       Gd t45_69 true (
        Qk P (V (Instr.fieldAt 27 a5 0)) fun C46 t46_72 =>
        Qk P (V (Instr.loadAt 3 t46_72)) fun C47 t47_73 =>
        Qk P (V (Instr.fieldAt 27 a5 1)) fun C48 t48_74 =>
        Qk P (V (Instr.loadAt 3 t48_74)) fun C49 t49_75 =>
        Qk P (V (Instr.loadAt 27 a5)) fun C50 t50_80 =>
        Qk P (vBuild 31 [(0, t50_80)]) fun C51 t51_81 =>
        Do P (vCall (.func (.func 14) #[] ⟨[]⟩) [t47_73, t49_75]) fun t52_76 =>
        With C51 <|
        With C50 <|
        Qk P (V (Instr.extract t52_76 0)) fun C53 t53_77 =>
        Qk P (V (Instr.extract t52_76 1)) fun C54 t54_78 =>
        Do P (vCall (.func (.func 13) #[] ⟨[]⟩) [t53_77, t54_78]) fun t55_79 =>
        With C51 <|
        With C50 <|
        Qk P (V (EqG .eql 31 (.tmp 79) (.tmp 81) t55_79 t51_81)) fun C56 t56_82 =>
        Gd t56_82 true (
         Qk P (V (Instr.fieldAt 31 h32 0)) fun C57 t57_85 =>
         Qk P (V (Instr.loadAt 27 t57_85)) fun C58 t58_86 =>
         Qk P (V (Instr.fieldAt 31 h32 0)) fun C59 t59_87 =>
         Qk P (V (Instr.loadAt 27 t59_87)) fun C60 t60_88 =>
         Qk P (V (Instr.loadAt 27 a5)) fun C61 t61_93 =>
         Qk P (vBuild 31 [(0, t61_93)]) fun C62 t62_94 =>
         Do P (vCall (.func (.func 19) #[] ⟨[]⟩) [t58_86, t60_88]) fun t63_89 =>
         With C62 <|
         With C61 <|
         Qk P (V (Instr.extract t63_89 0)) fun C64 t64_90 =>
         Qk P (V (Instr.extract t63_89 1)) fun C65 t65_91 =>
         Do P (vCall (.func (.func 13) #[] ⟨[]⟩) [t64_90, t65_91]) fun t66_92 =>
         With C62 <|
         With C61 <|
         Qk P (V (EqG .eql 31 (.tmp 92) (.tmp 94) t66_92 t62_94)) fun C67 t67_95 =>
         K t67_95
        ) (
         K (.bool false)
        )
       ) (
        K (.bool false)
       )
      ) (
       K (.bool false)
      )
     )
    )
   ) fun k12 =>
   Do P (V (binOp .rem 5 arg1 (.int .u8 20))) fun t68_20 =>
   Do P (V (convert 5 3 t68_20)) fun t69_21 =>
   Do P (V (binOp .lss 3 s11.2.2 t69_21)) fun t70_22 =>
   Gd t70_22 true (
    Do P (V (binOp .lss 3 s11.2.1 (.int .i64 62))) fun t71_25 =>
    k12 t71_25
   ) (
    k12 (.bool false)
   )
  ) (t8_15, t10_17, (.int .i64 0))
def A6 : Ann := .s (.n) (.s (.n) (.s (.n) (.s (.n) (.s (.n) (.s (.s (.n) (.lp [7, 8, 9] 4398046249872 (.s (.j [26] 133955584 (.n) (.s (.n) (.n))) (.s (.s (.n) (.s (.n) (.s (.plan [(0, 128, 8589934592), (0, 256, 17179869184), (3, 25769803776, 34359738368), (4, 34359738368, 68719476736), (4, 34359738368, 137438953472), (28, 206158430208, 274877906944), (0, 64, 549755813888), (64, 549755813888, 1099511627776), (160, 1374389534720, 2199023255552)] (.q 0 (.q 1 (.q 6 (.q 7 (.l 2 (.q 3 (.q 4 (.l 5 (.q 8 .done)))))))))) (.s (.s (.n) (.n)) (.n))))) (.n))))) (.s (.n) (.s (.s (.n) (.s (.s (.n) (.n)) (.n))) (.s (.plan [(0, 32, 36893488147419103232), (1, 36893488147419103232, 73786976294838206464), (2, 73786976294838207488, 147573952589676412928), (6, 221360928884514619392, 295147905179352825856), (10, 368934881474191032320, 590295810358705651712), (18, 664082786653543858176, 1180591620717411303424), (48, 1180591620717411303424, 2361183241434822606848), (64, 2361183241434822606912, 4722366482869645213696), (192, 7083549724304467820544, 9444732965739290427392), (64, 2361183241434822606912, 18889465931478580854784), (576, 21250649172913403461632, 37778931862957161709568), (1344, 49584848070131274743808, 75557863725914323419136), (2112, 77919046967349146025984, 151115727451828646838272), (2112, 77919046967349146025984, 302231454903657293676544), (14400, 455708365596920763121664, 604462909807314587353088), (64, 2361183241434822606912, 1208925819614629174706176), (32832, 1211287002856063997313024, 2417851639229258349412352), (81984, 3024675732278007759372288, 4835703278458516698824704), (131136, 4838064461699951521431552, 9671406556917033397649408), (278528, 9671406556917033397649408, 19342813113834066795298816), (524288, 19342813113834066795299840, 38685626227668133590597632), (1572864, 58028439341502200385896448, 77371252455336267181195264), (524288, 19342813113834066795299840, 154742504910672534362390528), (4718592, 174085318024506601157689344, 309485009821345068724781056), (11010048, 406199075390515402701275136, 618970019642690137449562112), (17301504, 638312832756524204244860928, 1237940039285380274899124224), (17301504, 638312832756524204244860928, 2475880078570760549798248448), (117964800, 3733162930969974891492671488, 4951760157141521099596496896), (524288, 19342813113834066795298880, 9903520314283042199192993792), (268959744, 9922863127396876265988292608, 19807040628566084398385987584), (671612928, 24778143598821439564777783296, 39614081257132168796771975168), (1074266112, 39633424070246002863567273984, 79228162514264337593543950336), (4294967295, 79228162514264337593543950336, 16)] (.q 0 (.q 1 (.q 2 (.q 3 (.l 4 (.q 5 (.q 6 (.q 7 (.q 8 (.q 9 (.q 10 (.q 15 (.q 16 (.l 11 (.q 12 (.q 13 (.l 14 (.q 17 (.q 18 (.q 19 (.q 20 (.q 21 (.q 22 (.q 23 (.q 28 (.q 29 (.l 24 (.q 25 (.q 26 (.l 27 (.q 30 (.q 31 (.q 32 .done)))))))))))))))))))))))))))))))))) (.n)))))))))
set_option maxRecDepth 100000 in
theorem c6 (arg0 arg1 : Value) (K : Value → WP) (w : World) (h : s6 Tryd.prog arg0 arg1 K w) : Runs Tryd.prog 6 [arg0, arg1] K w :=
  runs_of_E wide (fn := Tryd.f6) (c := Tryd.f6.body.getD .skip) 97 A6 [arg0, arg1] w K Tryd.func6 (by kernel_rfl) (by kernel_rfl) (by kernel_rfl) (by kernel_rfl)
    (Eq.mp (by kernel_rfl : s6 Tryd.prog arg0 arg1 K w = E Tryd.prog (Tryd.f6.body.getD .skip) A6 (topK Tryd.prog K Tryd.f6.results) (fun i => (([arg0, arg1] : List Value)[i]?).getD undef) w) h)
theorem ct6 {arg0 arg1 : Value} {h : Hp} {post : Hp → Value → Prop} (hg : ∀ w0, Gs w0 h h [] (s6 Tryd.prog arg0 arg1 (RetP w0 h post))) : Ct Tryd.prog 6 [arg0, arg1] h post := Ct.of (sf := s6 Tryd.prog arg0 arg1) (c6 arg0 arg1) hg
theorem in6 {arg0 arg1 : Value} {S : WP} {K : Value → WP} (hg : G S (s6 Tryd.prog arg0 arg1 K)) : G S (Do Tryd.prog (vCall (.func (.func 6) #[] ⟨[]⟩) [arg0, arg1]) K) := Gs.into (args := [arg0, arg1]) (caps := []) (sf := s6 Tryd.prog arg0 arg1) (c6 arg0 arg1) hg

/- skewer/skewerlaw19.DyadBetween : names 0 x, 1 y, 2 x, 3 y, 5 up, 6 a, 7 b, 8 g, 9 s, 10 m, 11 exp, 12 n, 13 p, 14 q, 15 step -/
def s7 (P : Program) (arg0 arg1 : Value) (K : Value → WP) : WP :=
  Do P (V (Instr.box 23 arg0)) fun x1 =>
  Do P (V (Instr.box 23 arg1)) fun y2 =>
  Do P (vCall (.func (.func 11) #[] ⟨[]⟩) []) fun t3_16 =>
  Do P (V (Instr.loadAt 23 x1)) fun t4_17 =>
  Do P (vCall (.func (.func 12) #[] ⟨[]⟩) [t4_17]) fun t5_18 =>
  Do P (V (Instr.alloc 27 true (.tuple #[]))) fun a6 =>
  Do P (U (Instr.storeAt 27 a6 t5_18)) fun t7_x =>
  Do P (V (Instr.loadAt 23 y2)) fun t8_19 =>
  Do P (vCall (.func (.func 12) #[] ⟨[]⟩) [t8_19]) fun t9_20 =>
  Do P (V (Instr.alloc 27 true (.tuple #[]))) fun b10 =>
  Do P (U (Instr.storeAt 27 b10 t9_20)) fun t11_x =>
  Do P (V (Instr.loadAt 27 a6)) fun t12_21 =>
  Do P (V (Instr.loadAt 27 b10)) fun t13_22 =>
  Do P (vCall (.func (.func 25) #[] ⟨[]⟩) [t12_21, t13_22]) fun t14_23 =>
  Do P (V (Instr.extract t14_23 0)) fun t15_24 =>
  Do P (V (Instr.extract t14_23 1)) fun t16_25 =>
  Do P (vCall (.func (.func 13) #[] ⟨[]⟩) [t15_24, t16_25]) fun t17_26 =>
  Do P (V (Instr.alloc 31 true (.tuple #[]))) fun g18 =>
  Do P (U (Instr.storeAt 31 g18 t17_26)) fun t19_x =>
  Do P (V (Instr.fieldAt 31 g18 1)) fun t20_27 =>
  Do P (V (Instr.loadAt 29 t20_27)) fun t21_28 =>
  Do P (V (EqG .neq 29 (.tmp 28) (.const (.int .i64 0)) t21_28 (.int .i64 0))) fun t22_29 =>
  If t22_29 (
   Do P (V (Instr.loadAt 27 a6)) fun t23_30 =>
   Do P (V (Instr.loadAt 27 b10)) fun t24_31 =>
   Do P (vCall (.func (.func 20) #[] ⟨[]⟩) [t23_30, t24_31]) fun t25_32 =>
   Do P (V (Instr.extract t25_32 0)) fun t26_33 =>
   Do P (V (Instr.extract t25_32 1)) fun t27_34 =>
   Do P (vCall (.func (.func 13) #[] ⟨[]⟩) [t26_33, t27_34]) fun t28_35 =>
   Do P (V (Instr.alloc 31 true (.tuple #[]))) fun s29 =>
   Do P (U (Instr.storeAt 31 s29 t28_35)) fun t30_x =>
   Do P (V (Instr.fieldAt 31 s29 0)) fun t31_36 =>
   Do P (V (Instr.fieldAt 27 t31_36 0)) fun t32_37 =>
   Do P (V (Instr.loadAt 3 t32_37)) fun t33_38 =>
   Do P (V (Instr.fieldAt 31 s29 0)) fun t34_39 =>
   Do P (V (Instr.fieldAt 27 t34_39 1)) fun t35_40 =>
   Do P (V (Instr.loadAt 3 t35_40)) fun t36_41 =>
   Do P (V (binOp .add 3 t36_41 (.int .i64 1))) fun t37_42 =>
   Do P (vCall (.func (.func 15) #[] ⟨[]⟩) [t33_38, t37_42]) fun t38_43 =>
   Do P (V (Instr.extract t38_43 0)) fun t39_44 =>
   Do P (V (Instr.extract t38_43 1)) fun t40_45 =>
   Do P (vCall (.func (.func 13) #[] ⟨[]⟩) [t39_44, t40_45]) fun t41_46 =>
   Do P (V (Instr.alloc 31 true (.tuple #[]))) fun m42 =>
   Do P (U (Instr.storeAt 31 m42 t41_46)) fun t43_x =>
   Gd t3_16 true (
    Do P (V (Instr.loadAt 31 g18)) fun t44_49 =>
    Do P (vBuild 31 [(1, (.int .i64 190))]) fun t45_50 =>
    Do P (V (EqG .eql 31 (.tmp 49) (.tmp 50) t44_49 t45_50)) fun t46_51 =>
    Gd t46_51 true (
     Do P (V (Instr.loadAt 27 a6)) fun t47_54 =>
     Do P (V (Instr.loadAt 27 b10)) fun t48_55 =>
     Do P (vCall (.func (.func 24) #[] ⟨[]⟩) [t47_54, t48_55]) fun t49_56 =>
     Do P (V (binOp .geq 3 t49_56 (.int .i64 0))) fun t50_57 =>
     Gd t50_57 false (
      Do P (V (Instr.fieldAt 31 s29 1)) fun t51_59 =>
      Do P (V (Instr.loadAt 29 t51_59)) fun t52_60 =>
      Do P (V (EqG .neq 29 (.tmp 60) (.const (.int .i64 0)) t52_60 (.int .i64 0))) fun t53_61 =>
      Gd t53_61 false (
       Do P (V (Instr.fieldAt 31 m42 1)) fun t54_64 =>
       Do P (V (Instr.loadAt 29 t54_64)) fun t55_65 =>
       Do P (V (EqG .neq 29 (.tmp 65) (.const (.int .i64 0)) t55_65 (.int .i64 0))) fun t56_66 =>
       K t56_66
      ) (
       K (.bool true)
      )
     ) (
      K (.bool true)
     )
    ) (
     K (.bool false)
    )
   ) (
    K (.bool false)
   )
  ) (
   Do P (V (Instr.fieldAt 31 g18 0)) fun t57_69 =>
   Do P (V (Instr.loadAt 27 t57_69)) fun t58_70 =>
   Do P (V (Instr.loadAt 27 a6)) fun t59_71 =>
   Do P (V (Instr.loadAt 27 b10)) fun t60_72 =>
   Do P (vCall (.func (.func 31) #[] ⟨[]⟩) [t58_70, t59_71, t60_72]) fun t61_73 =>
   Do P (V (Op.unary .not t61_73)) fun t62_74 =>
   If t62_74 (
    K (.bool false)
   ) (
    Lp (α := Value) (fun c63 s63 => Jk fun _ => -- exp
     Do P (V (Instr.fieldAt 31 g18 0)) fun t64_76 =>
     Do P (V (Instr.fieldAt 27 t64_76 1)) fun t65_77 =>
     Do P (V (Instr.loadAt 3 t65_77)) fun t66_78 =>
     Do P (V (binOp .lss 3 s63 t66_78)) fun t67_79 =>
     If t67_79 (
      Do P (V (Instr.fieldAt 31 g18 0)) fun t68_82 =>
      Do P (V (Instr.fieldAt 27 t68_82 0)) fun t69_83 =>
      Do P (V (Instr.loadAt 3 t69_83)) fun t70_84 =>
      Do P (V (Instr.fieldAt 31 g18 0)) fun t71_85 =>
      Do P (V (Instr.fieldAt 27 t71_85 1)) fun t72_86 =>
      Do P (V (Instr.loadAt 3 t72_86)) fun t73_87 =>
      Do P (V (binOp .sub 3 t73_87 s63)) fun t74_89 =>
      Do P (V (binOp .shr 3 t70_84 t74_89)) fun t75_90 =>
      Do P (vCall (.func (.func 15) #[] ⟨[]⟩) [t75_90, s63]) fun t76_93 =>
      Do P (V (Instr.extract t76_93 0)) fun t77_94 =>
      Do P (V (Instr.extract t76_93 1)) fun t78_95 =>
      Do P (vCall (.func (.func 13) #[] ⟨[]⟩) [t77_94, t78_95]) fun t79_96 =>
      Do P (V (Instr.alloc 31 true (.tuple #[]))) fun p80 =>
      Do P (U (Instr.storeAt 31 p80 t79_96)) fun t81_x =>
      Do P (V (binOp .add 3 t75_90 (.int .i64 1))) fun t82_98 =>
      Do P (vCall (.func (.func 15) #[] ⟨[]⟩) [t82_98, s63]) fun t83_100 =>
      Do P (V (Instr.extract t83_100 0)) fun t84_101 =>
      Do P (V (Instr.extract t83_100 1)) fun t85_102 =>
      Do P (vCall (.func (.func 13) #[] ⟨[]⟩) [t84_101, t85_102]) fun t86_103 =>
      Do P (V (Instr.alloc 31 true (.tuple #[]))) fun q87 =>
      Do P (U (Instr.storeAt 31 q87 t86_103)) fun t88_x =>
      Jn (α := Value) (fun j89 => Jk fun _ => -- t125
       If j89 (
        K (.bool false)
       ) (
        Do P (V (binOp .add 3 s63 (.int .i64 1))) fun t90_81 =>
        c63 t90_81
       )
      ) fun k89 =>
      Do P (V (Instr.fieldAt 31 p80 1)) fun t91_104 =>
      Do P (V (Instr.loadAt 29 t91_104)) fun t92_105 =>
      Do P (V (EqG .eql 29 (.tmp 105) (.const (.int .i64 0)) t92_105 (.int .i64 0))) fun t93_106 =>
      Gd t93_106 true (
       Do P (V (Instr.fieldAt 31 p80 0)) fun t94_108 =>
       Do P (V (Instr.loadAt 27 t94_108)) fun t95_109 =>
       Do P (V (Instr.loadAt 27 a6)) fun t96_110 =>
       Do P (V (Instr.loadAt 27 b10)) fun t97_111 =>
       Do P (vCall (.func (.func 31) #[] ⟨[]⟩) [t95_109, t96_110, t97_111]) fun t98_112 =>
       Gd t98_112 false (
        Do P (V (Instr.fieldAt 31 q87 1)) fun t99_115 =>
        Do P (V (Instr.loadAt 29 t99_115)) fun t100_116 =>
        Do P (V (EqG .eql 29 (.tmp 116) (.const (.int .i64 0)) t100_116 (.int .i64 0))) fun t101_117 =>
        Gd t101_117 true (
         Do P (V (Instr.fieldAt 31 q87 0)) fun t102_119 =>
         Do P (V (Instr.loadAt 27 t102_119)) fun t103_120 =>
         Do P (V (Instr.loadAt 27 a6)) fun t104_121 =>
         Do P (V (Instr.loadAt 27 b10)) fun t105_122 =>
         Do P (vCall (.func (.func 31) #[] ⟨[]⟩) [t103_120, t104_121, t105_122]) fun t106_123 =>
         k89 t106_123
        ) (
         k89 (.bool false)
        )
       ) (
        k89 (.bool true)
       )
      ) (
       Do P (V (Instr.fieldAt 31 q87 1)) fun t107_115 =>
       Do P (V (Instr.loadAt 29 t107_115)) fun t108_116 =>
       Do P (V (EqG .eql 29 (.tmp 116) (.const (.int .i64 0)) t108_116 (.int .i64 0))) fun t109_117 =>
       Gd t109_117 true (
        Do P (V (Instr.fieldAt 31 q87 0)) fun t110_119 =>
        Do P (V (Instr.loadAt 27 t110_119)) fun t111_120 =>
        Do P (V (Instr.loadAt 27 a6)) fun t112_121 =>
        Do P (V (Instr.loadAt 27 b10)) fun t113_122 =>
        Do P (vCall (.func (.func 31) #[] ⟨[]⟩) [t111_120, t112_121, t113_122]) fun t114_123 =>
        k89 t114_123
       ) (
        k89 (.bool false)
       )
      )
     ) (
      Jn (α := Value) (fun j115 => Jk fun _ => -- step
       Jn (α := Value) (fun j116 => Jk fun _ => -- t159
        If j116 (
         K (.bool false)
        ) (
         Jn (α := Value) (fun j117 => Jk fun _ => -- t190
          If j117 (
           K (.bool false)
          ) (
           K t3_16
          )
         ) fun k117 =>
         Dr <|
         Qk P (V (Instr.fieldAt 31 g18 0)) fun C118 t118_160 =>
         Qk P (V (Instr.fieldAt 27 t118_160 0)) fun C119 t119_161 =>
         Qk P (V (Instr.loadAt 3 t119_161)) fun C120 t120_162 =>
         Qk P (V (binOp .lss 3 t120_162 (.int .i64 0))) fun C121 t121_163 =>
         Gd t121_163 true (
          Qk P (V (Instr.fieldAt 31 g18 0)) fun C122 t122_165 =>
          Qk P (V (Instr.fieldAt 27 t122_165 0)) fun C123 t123_166 =>
          Qk P (V (Instr.loadAt 3 t123_166)) fun C124 t124_167 =>
          Qk P (V (binOp .add 3 t124_167 j115)) fun C125 t125_169 =>
          Qk P (V (Instr.fieldAt 31 g18 0)) fun C126 t126_170 =>
          Qk P (V (Instr.fieldAt 27 t126_170 1)) fun C127 t127_171 =>
          Qk P (V (Instr.loadAt 3 t127_171)) fun C128 t128_172 =>
          Qk P (V (Instr.loadAt 27 a6)) fun C129 t129_174 =>
          Qk P (V (Instr.loadAt 27 b10)) fun C130 t130_175 =>
          Do P (vCall (.func (.func 17) #[] ⟨[]⟩) [t125_169, t128_172]) fun t131_173 =>
          With C130 <|
          With C129 <|
          Do P (vCall (.func (.func 31) #[] ⟨[]⟩) [t131_173, t129_174, t130_175]) fun t132_176 =>
          Gd t132_176 false (
           Qk P (V (Instr.fieldAt 31 g18 0)) fun C133 t133_178 =>
           Qk P (V (Instr.fieldAt 27 t133_178 0)) fun C134 t134_179 =>
           Qk P (V (Instr.loadAt 3 t134_179)) fun C135 t135_180 =>
           Qk P (V (Op.unary .neg t135_180)) fun C136 t136_181 =>
           Qk P (V (Instr.fieldAt 31 g18 0)) fun C137 t137_182 =>
           Qk P (V (Instr.fieldAt 27 t137_182 1)) fun C138 t138_183 =>
           Qk P (V (Instr.loadAt 3 t138_183)) fun C139 t139_184 =>
           Qk P (V (Instr.loadAt 27 a6)) fun C140 t140_186 =>
           Qk P (V (Instr.loadAt 27 b10)) fun C141 t141_187 =>
           Do P (vCall (.func (.func 17) #[] ⟨[]⟩) [t136_181, t139_184]) fun t142_185 =>
           With C141 <|
           With C140 <|
           Do P (vCall (.func (.func 31) #[] ⟨[]⟩) [t142_185, t140_186, t141_187]) fun t143_188 =>
           k117 t143_188
          ) (
           k117 (.bool true)
          )
         ) (
          k117 (.bool false)
         )
        )
       ) fun k116 =>
       Dr <|
       Qk P (V (Instr.fieldAt 31 g18 0)) fun C144 t144_130 =>
       Qk P (V (Instr.fieldAt 27 t144_130 0)) fun C145 t145_131 =>
       Qk P (V (Instr.loadAt 3 t145_131)) fun C146 t146_132 =>
       Qk P (V (binOp .gtr 3 t146_132 (.int .i64 0))) fun C147 t147_133 =>
       Gd t147_133 true (
        Qk P (V (Instr.fieldAt 31 g18 0)) fun C148 t148_135 =>
        Qk P (V (Instr.fieldAt 27 t148_135 0)) fun C149 t149_136 =>
        Qk P (V (Instr.loadAt 3 t149_136)) fun C150 t150_137 =>
        Qk P (V (binOp .sub 3 t150_137 j115)) fun C151 t151_139 =>
        Qk P (V (Instr.fieldAt 31 g18 0)) fun C152 t152_140 =>
        Qk P (V (Instr.fieldAt 27 t152_140 1)) fun C153 t153_141 =>
        Qk P (V (Instr.loadAt 3 t153_141)) fun C154 t154_142 =>
        Qk P (V (Instr.loadAt 27 a6)) fun C155 t155_144 =>
        Qk P (V (Instr.loadAt 27 b10)) fun C156 t156_145 =>
        Do P (vCall (.func (.func 17) #[] ⟨[]⟩) [t151_139, t154_142]) fun t157_143 =>
        With C156 <|
        With C155 <|
        Do P (vCall (.func (.func 31) #[] ⟨[]⟩) [t157_143, t155_144, t156_145]) fun t158_146 =>
        Gd t158_146 false (
         Qk P (V (Instr.fieldAt 31 g18 0)) fun C159 t159_148 =>
         Qk P (V (Instr.fieldAt 27 t159_148 1)) fun C160 t160_149 =>
         Qk P (V (Instr.loadAt 3 t160_149)) fun C161 t161_150 =>
         Qk P (V (EqG .eql 3 (.tmp 150) (.const (.int .i64 0)) t161_150 (.int .i64 0))) fun C162 t162_151 =>
         Gd t162_151 true (
          Qk P (V (Instr.loadAt 27 a6)) fun C163 t163_154 =>
          Qk P (V (Instr.loadAt 27 b10)) fun C164 t164_155 =>
          Do P (vCall (.func (.func 17) #[] ⟨[]⟩) [(.int .i64 0), (.int .i64 0)]) fun t165_153 =>
          With C164 <|
          With C163 <|
          Do P (vCall (.func (.func 31) #[] ⟨[]⟩) [t165_153, t163_154, t164_155]) fun t166_156 =>
          k116 t166_156
         ) (
          k116 (.bool false)
         )
        ) (
         k116 (.bool true)
        )
       ) (
        k116 (.bool false)
       )
      ) fun k115 =>
      Do P (V (Instr.fieldAt 31 g18 0)) fun t167_126 =>
      Do P (V (Instr.fieldAt 27 t167_126 1)) fun t168_127 =>
      Do P (V (Instr.loadAt 3 t168_127)) fun t169_128 =>
      Do P (V (binOp .gtr 3 t169_128 (.int .i64 0))) fun t170_129 =>
      If t170_129 (
       k115 (.int .i64 2)
      ) (
       k115 (.int .i64 1)
      )
     )
    ) (.int .i64 0)
   )
  )
def A7 : Ann := .s (.n) (.s (.n) (.s (.n) (.s (.n) (.s (.n) (.s (.s (.n) (.s (.s (.n) (.s (.n) (.s (.n) (.n)))) (.n))) (.s (.s (.n) (.s (.s (.n) (.n)) (.n))) (.s (.s (.n) (.lp [11] 85070591730234578086911788900780374032 (.s (.s (.n) (.s (.n) (.n))) (.s (.s (.n) (.s (.n) (.s (.n) (.j [125] 85070571447825012214173227910690766848 (.n) (.s (.s (.n) (.n)) (.n)))))) (.n))))) (.s (.n) (.j [15] 1276058875953519237987654777869130825728 (.s (.n) (.s (.n) (.n))) (.s (.j [159] 1461501635969773450519930978862784589928859697152 (.plan [(0, 256, 1361129467683753853853498429727072845824), (1, 1361129467683753853853498429727072845824, 2722258935367507707706996859454145691648), (2, 2722258935367507707706996859454145691648, 5444517870735015415413993718908291383296), (4, 5444517870735015415413993718908291383296, 10889035741470030830827987437816582766592), (8, 10889035741470030830827987437816582766592, 21778071482940061661655974875633165533184), (16, 21778071482940061661655974875633165533440, 43556142965880123323311949751266331066368), (48, 65334214448820184984967924626899496599552, 87112285931760246646623899502532662132736), (80, 108890357414700308308279874378165827665920, 174224571863520493293247799005065324265472), (16, 21778071482940061661655974875633165565952, 348449143727040986586495598010130648530944), (400, 544451787073501541541399371890829138329600, 696898287454081973172991196020261297061888), (16, 21778071482940061661655974875633165533440, 1393796574908163946345982392040522594123776), (1040, 1415574646391104008007638366916155759656960, 2787593149816327892691964784081045188247552), (2064, 2809371221299267954353620758956678353780736, 5575186299632655785383929568162090376495104), (4624, 6293862658569677820218576739057984839090176, 11150372599265311570767859136324180752990208), (16, 21778071482940061661655974875633165533248, 22300745198530623141535718272648361505980416), (16, 21778071482940061661655974875633165533312, 44601490397061246283071436545296723011960832), (57360, 78074386266340121057036669929144898436464640, 89202980794122492566142873090593446023921664), (65552, 89224758865605432627804529065469079189454848, 178405961588244985132285746181186892047843328), (131072, 178405961588244985132285746181186892047843584, 356811923176489970264571492362373784095686656), (393216, 535217884764734955396857238543560676143529984, 713623846352979940529142984724747568191373312), (655360, 892029807941224925661428730905934460239216640, 1427247692705959881058285969449495136382746624), (1179648, 1605653654294204866190571715630682028430589952, 2854495385411919762116571938898990272765493248), (2228224, 3032901347000164747248857685080177164813336576, 5708990770823839524233143877797980545530986496), (4194304, 5708990770823839524233143877797980545530986496, 11417981541647679048466287755595961091061972992), (4194304, 5708990770823839524233143877797980545530986560, 22835963083295358096932575511191922182123945984), (4194304, 5708990770823839524233143877797980545530986624, 45671926166590716193865151022383844364247891968), (62914560, 85634861562357592863497158166969708182964797440, 91343852333181432387730302044767688728495783936), (71434240, 97231249065593516897095731668746856166074613760, 182687704666362864775460604089535377456991567872), (134348816, 182866132406022592700654551491691439982204944384, 365375409332725729550921208179070754913983135744), (268435472, 365375431110797212490982869835045630547148668928, 730750818665451459101842416358141509827966271488)] (.q 0 (.q 1 (.q 2 (.q 3 (.q 4 (.q 5 (.q 6 (.q 7 (.q 8 (.q 9 (.q 10 (.q 11 (.q 12 (.q 14 (.q 15 (.l 13 (.l 16 (.q 17 (.q 18 (.q 19 (.q 20 (.q 21 (.q 22 (.q 24 (.q 25 (.l 23 (.l 26 (.q 27 (.q 28 (.q 29 .done))))))))))))))))))))))))))))))) (.s (.s (.n) (.n)) (.n))) (.s (.j [190] 3138550866231838744586991793400148375334894702576084713472 (.plan [(0, 256, 1461501637330902918203684832716283019655932542976), (1, 1461501637330902918203684832716283019655932542976, 2923003274661805836407369665432566039311865085952), (2, 2923003274661805836407369665432566039311865085952, 5846006549323611672814739330865132078623730171904), (4, 5846006549323611672814739330865132078623730171904, 11692013098647223345629478661730264157247460343808), (8, 11692013098647223345629478661730264157247460343808, 23384026197294446691258957323460528314494920687616), (16, 23384026197294446691258957323460528314494920687872, 46768052394588893382517914646921056628989841375232), (48, 70152078591883340073776871970381584943484762062848, 93536104789177786765035829293842113257979682750464), (80, 116920130986472233456294786617302641572474603438080, 187072209578355573530071658587684226515959365500928), (16, 23384026197294446691258957323460528314494920720384, 374144419156711147060143317175368453031918731001856), (400, 584600654932361167281473933086513207862373017190400, 748288838313422294120286634350736906063837462003712), (16, 23384026197294446691258957323460528314494920687872, 1496577676626844588240573268701473812127674924007424), (1040, 1519961702824139034931832226024934340442169844695040, 2993155353253689176481146537402947624255349848014848), (2064, 3016539379450983623172405494726408152569844768702464, 5986310706507378352962293074805895248510699696029696), (4624, 6757983571018095093773838666480092682889032078721024, 11972621413014756705924586149611790497021399392059392), (16, 23384026197294446691258957323460528314494920687680, 23945242826029513411849172299223580994042798784118784), (16, 23384026197294446691258957323460528314494920687744, 47890485652059026823698344598447161988085597568237568), (57360, 83831733917300591388163362004605994007464290665103360, 95780971304118053647396689196894323976171195136475136), (65552, 95804355330315348094087948154217784504485690057162752, 191561942608236107294793378393788647952342390272950272), (131072, 191561942608236107294793378393788647952342390272950528, 383123885216472214589586756787577295904684780545900544), (393216, 574685827824708321884380135181365943857027170818850816, 766247770432944429179173513575154591809369561091801088), (655360, 957809713041180536473966891968943239761711951364751360, 1532495540865888858358347027150309183618739122183602176), (1179648, 1724057483474124965653140405544097831571081512456552448, 3064991081731777716716694054300618367237478244367204352), (131072, 191561942608236107294793378393788647952342390272950528, 6129982163463555433433388108601236734474956488734408704), (4325376, 6321544106071791540728181486995025382427298879007358976, 12259964326927110866866776217202473468949912977468817408), (8519680, 12451526269535346974161569595596262116902255367741767680, 24519928653854221733733552434404946937899825954937634816), (19005440, 27776481678194235557745039867099353953089646589577789440, 49039857307708443467467104868809893875799651909875269632), (131072, 191561942608236107294793378393788647952342390272950336, 98079714615416886934934209737619787751599303819750539264), (131072, 191561942608236107294793378393788647952342390272950400, 196159429230833773869868419475239575503198607639501078528), (235012096, 343470563096567340379564527460063045778549905759399837696, 392318858461667547739736838950479151006397215279002157056), (268566544, 392510443788301981141478323587830263114877872164195794944, 784637716923335095479473677900958302012794430558004314112), (536870928, 784637740307361292773920369159915625473322745052925001728, 1569275433846670190958947355801916604025588861116008628224)] (.q 0 (.q 1 (.q 2 (.q 3 (.q 4 (.q 5 (.q 6 (.q 7 (.q 8 (.q 9 (.q 10 (.q 11 (.q 12 (.q 14 (.q 15 (.l 13 (.l 16 (.q 17 (.q 18 (.q 19 (.q 20 (.q 21 (.q 22 (.q 23 (.q 24 (.q 26 (.q 27 (.l 25 (.l 28 (.q 29 (.q 30 .done)))))))))))))))))))))))))))))))) (.s (.s (.n) (.n)) (.n))) (.s (.n) (.n)))))))))))))
set_option maxRecDepth 100000 in
theorem c7 (arg0 arg1 : Value) (K : Value → WP) (w : World) (h : s7 Tryd.prog arg0 arg1 K w) : Runs Tryd.prog 7 [arg0, arg1] K w :=
  runs_of_E wide (fn := Tryd.f7) (c := Tryd.f7.body.getD .skip) 192 A7 [arg0, arg1] w K Tryd.func7 (by kernel_rfl) (by kernel_rfl) (by kernel_rfl) (by kernel_rfl)
    (Eq.mp (by kernel_rfl : s7 Tryd.prog arg0 arg1 K w = E Tryd.prog (Tryd.f7.body.getD .skip) A7 (topK Tryd.prog K Tryd.f7.results) (fun i => (([arg0, arg1] : List Value)[i]?).getD undef) w) h)
theorem ct7 {arg0 arg1 : Value} {h : Hp} {post : Hp → Value → Prop} (hg : ∀ w0, Gs w0 h h [] (s7 Tryd.prog arg0 arg1 (RetP w0 h post))) : Ct Tryd.prog 7 [arg0, arg1] h post := Ct.of (sf := s7 Tryd.prog arg0 arg1) (c7 arg0 arg1) hg
theorem in7 {arg0 arg1 : Value} {S : WP} {K : Value → WP} (hg : G S (s7 Tryd.prog arg0 arg1 K)) : G S (Do Tryd.prog (vCall (.func (.func 7) #[] ⟨[]⟩) [arg0, arg1]) K) := Gs.into (args := [arg0, arg1]) (caps := []) (sf := s7 Tryd.prog arg0 arg1) (c7 arg0 arg1) hg

/- skewer/skewerlaw19.DyadTexts : names 0 x, 1 y, 2 put, 3 x, 4 y, 5 put, 7 up, 8 a, 9 b, 10 s, 11 at, 12 end, 13 odd, 14 g -/
def s8 (P : Program) (arg0 arg1 arg2 : Value) (K : Value → WP) : WP :=
  Do P (V (Instr.box 23 arg0)) fun x1 =>
  Do P (V (Instr.box 23 arg1)) fun y2 =>
  Do P (vCall (.func (.func 11) #[] ⟨[]⟩) []) fun t3_15 =>
  Do P (vBuiltin .len #[9] 3 [arg2]) fun t4_17 =>
  Do P (V (binOp .gtr 3 t4_17 (.int .i64 6))) fun t5_18 =>
  If t5_18 (
   K t3_15
  ) (
   Do P (V (Instr.loadAt 23 x1)) fun t6_20 =>
   Do P (vCall (.func (.func 12) #[] ⟨[]⟩) [t6_20]) fun t7_21 =>
   Do P (V (Instr.alloc 27 true (.tuple #[]))) fun a8 =>
   Do P (U (Instr.storeAt 27 a8 t7_21)) fun t9_x =>
   Do P (V (Instr.loadAt 23 y2)) fun t10_22 =>
   Do P (vCall (.func (.func 12) #[] ⟨[]⟩) [t10_22]) fun t11_23 =>
   Do P (V (Instr.alloc 27 true (.tuple #[]))) fun b12 =>
   Do P (U (Instr.storeAt 27 b12 t11_23)) fun t13_x =>
   Do P (V (Instr.loadAt 27 a8)) fun t14_24 =>
   Do P (vCall (.func (.func 27) #[] ⟨[]⟩) [t14_24]) fun t15_25 =>
   Jn (α := Value) (fun j16 => Jk fun _ => -- t43
    If j16 (
     K (.bool false)
    ) (
     Do P (V (Instr.fieldAt 23 y2 1)) fun t17_44 =>
     Do P (V (Instr.loadAt 5 t17_44)) fun t18_45 =>
     Do P (V (convert 5 3 t18_45)) fun t19_46 =>
     Do P (vBuiltin .len #[9] 3 [t15_25]) fun t20_48 =>
     Do P (V (binOp .add 3 t20_48 (.int .i64 1))) fun t21_49 =>
     Do P (V (binOp .rem 3 t19_46 t21_49)) fun t22_50 =>
     Do P (V (Instr.fieldAt 23 y2 2)) fun t23_52 =>
     Do P (V (Instr.loadAt 5 t23_52)) fun t24_53 =>
     Do P (V (binOp .rem 5 t24_53 (.int .u8 5))) fun t25_54 =>
     Do P (V (convert 5 3 t25_54)) fun t26_55 =>
     Do P (V (binOp .add 3 t22_50 t26_55)) fun t27_56 =>
     Do P (vBuiltin .len #[9] 3 [t15_25]) fun t28_58 =>
     Do P (vBuiltin .min #[3, 3] 3 [t27_56, t28_58]) fun t29_59 =>
     Dr <|
     Qk P (V (Instr.sliceAt 9 t15_25 none (some t22_50) none)) fun C30 t30_62 =>
     Qk P (V (binOp .add 9 t30_62 arg2)) fun C31 t31_64 =>
     Qk P (V (Instr.sliceAt 9 t15_25 (some t29_59) none none)) fun C32 t32_67 =>
     Qk P (V (binOp .add 9 t31_64 t32_67)) fun C33 t33_68 =>
     Do P (vCall (.func (.func 29) #[] ⟨[]⟩) [t33_68]) fun t34_70 =>
     Do P (V (Instr.extract t34_70 0)) fun t35_71 =>
     Do P (V (Instr.extract t34_70 1)) fun t36_72 =>
     Do P (vCall (.func (.func 13) #[] ⟨[]⟩) [t35_71, t36_72]) fun t37_73 =>
     Do P (V (Instr.alloc 31 true (.tuple #[]))) fun g38 =>
     Do P (U (Instr.storeAt 31 g38 t37_73)) fun t39_x =>
     Do P (V (Instr.fieldAt 31 g38 1)) fun t40_74 =>
     Do P (V (Instr.loadAt 29 t40_74)) fun t41_75 =>
     Do P (V (EqG .neq 29 (.tmp 75) (.const (.int .i64 0)) t41_75 (.int .i64 0))) fun t42_76 =>
     If t42_76 (
      Gd t3_15 true (
       Do P (V (Instr.loadAt 31 g38)) fun t43_79 =>
       Do P (vBuild 31 [(1, (.int .i64 3))]) fun t44_80 =>
       Do P (V (EqG .eql 31 (.tmp 79) (.tmp 80) t43_79 t44_80)) fun t45_81 =>
       Gd t45_81 true (
        Do P (V (EqG .neq 9 (.tmp 84) (.tmp 85) t33_68 t15_25)) fun t46_86 =>
        K t46_86
       ) (
        K (.bool false)
       )
      ) (
       K (.bool false)
      )
     ) (
      Gd t3_15 true (
       Do P (V (Instr.fieldAt 31 g38 0)) fun t47_90 =>
       Do P (V (Instr.loadAt 27 t47_90)) fun t48_91 =>
       Do P (vCall (.func (.func 18) #[] ⟨[]⟩) [t48_91]) fun t49_92 =>
       Gd t49_92 true (
        Do P (V (Instr.fieldAt 31 g38 0)) fun t50_95 =>
        Do P (V (Instr.loadAt 27 t50_95)) fun t51_96 =>
        Do P (vCall (.func (.func 27) #[] ⟨[]⟩) [t51_96]) fun t52_97 =>
        Do P (V (EqG .eql 9 (.tmp 97) (.tmp 98) t52_97 t33_68)) fun t53_99 =>
        K t53_99
       ) (
        K (.bool false)
       )
      ) (
       K (.bool false)
      )
     )
    )
   ) fun k16 =>
   Dr <|
   Qk P (V (Instr.loadAt 27 a8)) fun C54 t54_31 =>
   Qk P (vBuild 31 [(0, t54_31)]) fun C55 t55_32 =>
   Do P (vCall (.func (.func 29) #[] ⟨[]⟩) [t15_25]) fun t56_27 =>
   With C55 <|
   With C54 <|
   Qk P (V (Instr.extract t56_27 0)) fun C57 t57_28 =>
   Qk P (V (Instr.extract t56_27 1)) fun C58 t58_29 =>
   Do P (vCall (.func (.func 13) #[] ⟨[]⟩) [t57_28, t58_29]) fun t59_30 =>
   With C55 <|
   With C54 <|
   Qk P (V (EqG .neq 31 (.tmp 30) (.tmp 32) t59_30 t55_32)) fun C60 t60_33 =>
   Gd t60_33 false (
    Qk P (V (Instr.loadAt 27 b12)) fun C61 t61_35 =>
    Qk P (V (Instr.loadAt 27 a8)) fun C62 t62_39 =>
    Qk P (V (Instr.loadAt 27 b12)) fun C63 t63_40 =>
    Qk P (V (EqG .eql 27 (.tmp 39) (.tmp 40) t62_39 t63_40)) fun C64 t64_41 =>
    Do P (vCall (.func (.func 27) #[] ⟨[]⟩) [t61_35]) fun t65_36 =>
    With C64 <|
    With C63 <|
    With C62 <|
    Qk P (V (EqG .eql 9 (.tmp 36) (.tmp 37) t65_36 t15_25)) fun C66 t66_38 =>
    Qk P (V (EqG .neq 4 (.tmp 38) (.tmp 41) t66_38 t64_41)) fun C67 t67_42 =>
    k16 t67_42
   ) (
    k16 (.bool true)
   )
  )
def A8 : Ann := .s (.n) (.s (.n) (.s (.s (.n) (.s (.s (.n) (.n)) (.n))) (.s (.n) (.s (.n) (.s (.n) (.s (.j [43] 17592118935552 (.plan [(0, 1024, 67108864), (1, 67108864, 134217728), (2, 134217728, 268435456), (2, 134217728, 536870912), (14, 805306368, 1073741824), (0, 256, 2147483648), (32, 2147483648, 4294967296), (80, 5368709120, 8589934592), (144, 8589934592, 17179869184), (256, 17179869696, 34359738368), (768, 51539607552, 68719476736), (256, 17179870208, 137438953472), (3328, 223338299392, 274877906944), (256, 17179869440, 549755813888), (256, 17179869696, 1099511627776), (24832, 1666447310848, 2199023255552), (37120, 2491081031680, 4398046511104), (65792, 4415226380288, 8796093022208)] (.q 0 (.q 5 (.q 6 (.l 1 (.q 2 (.q 3 (.l 4 (.q 7 (.q 8 (.q 9 (.q 11 (.q 13 (.q 14 (.q 15 (.l 10 (.q 12 (.q 16 (.q 17 .done))))))))))))))))))) (.s (.s (.n) (.n)) (.n))) (.s (.n) (.s (.n) (.s (.plan [(0, 1024, 1152921504606846976), (0, 2048, 2305843009213693952), (3, 3458764513820540928, 4611686018427387904), (0, 4, 9223372036854775808), (12, 13835058055282163712, 18446744073709551616), (0, 1024, 36893488147419103232), (0, 4096, 73786976294838206464), (96, 110680464442257309696, 147573952589676412928), (144, 166020696663385964544, 295147905179352825856), (511, 295147905179352825856, 8192)] (.q 0 (.q 1 (.q 2 (.q 3 (.q 4 (.q 5 (.q 6 (.q 7 (.q 8 (.q 9 .done))))))))))) (.s (.n) (.s (.s (.n) (.s (.s (.n) (.n)) (.n))) (.s (.n) (.n)))))))))))))
set_option maxRecDepth 100000 in
theorem c8 (arg0 arg1 arg2 : Value) (K : Value → WP) (w : World) (h : s8 Tryd.prog arg0 arg1 arg2 K w) : Runs Tryd.prog 8 [arg0, arg1, arg2] K w :=
  runs_of_E wide (fn := Tryd.f8) (c := Tryd.f8.body.getD .skip) 101 A8 [arg0, arg1, arg2] w K Tryd.func8 (by kernel_rfl) (by kernel_rfl) (by kernel_rfl) (by kernel_rfl)
    (Eq.mp (by kernel_rfl : s8 Tryd.prog arg0 arg1 arg2 K w = E Tryd.prog (Tryd.f8.body.getD .skip) A8 (topK Tryd.prog K Tryd.f8.results) (fun i => (([arg0, arg1, arg2] : List Value)[i]?).getD undef) w) h)
theorem ct8 {arg0 arg1 arg2 : Value} {h : Hp} {post : Hp → Value → Prop} (hg : ∀ w0, Gs w0 h h [] (s8 Tryd.prog arg0 arg1 arg2 (RetP w0 h post))) : Ct Tryd.prog 8 [arg0, arg1, arg2] h post := Ct.of (sf := s8 Tryd.prog arg0 arg1 arg2) (c8 arg0 arg1 arg2) hg
theorem in8 {arg0 arg1 arg2 : Value} {S : WP} {K : Value → WP} (hg : G S (s8 Tryd.prog arg0 arg1 arg2 K)) : G S (Do Tryd.prog (vCall (.func (.func 8) #[] ⟨[]⟩) [arg0, arg1, arg2]) K) := Gs.into (args := [arg0, arg1, arg2]) (caps := []) (sf := s8 Tryd.prog arg0 arg1 arg2) (c8 arg0 arg1 arg2) hg

/- skewer/skewerlaw19.DyadParses : names 0 s, 1 x, 2 s, 3 x, 5 up, 6 t, 7 texts, 8 i -/
def s9 (P : Program) (arg0 arg1 : Value) (K : Value → WP) : WP :=
  Do P (V (Instr.box 23 arg1)) fun x1 =>
  Do P (vCall (.func (.func 11) #[] ⟨[]⟩) []) fun t2_9 =>
  Do P (vBuiltin .len #[9] 3 [arg0]) fun t3_11 =>
  Do P (V (binOp .gtr 3 t3_11 (.int .i64 40))) fun t4_12 =>
  If t4_12 (
   K t2_9
  ) (
   Do P (V (Instr.loadAt 23 x1)) fun t5_14 =>
   Do P (vCall (.func (.func 12) #[] ⟨[]⟩) [t5_14]) fun t6_15 =>
   Do P (vCall (.func (.func 28) #[] ⟨[]⟩) [t6_15]) fun t7_16 =>
   Do P (V (binOp .add 9 t7_16 arg0)) fun t8_20 =>
   Do P (V (binOp .add 9 arg0 t7_16)) fun t9_23 =>
   Do P (V (binOp .add 9 (.string ⟨#[45]⟩) t7_16)) fun t10_25 =>
   Do P (V (binOp .add 9 (.string ⟨#[48]⟩) t7_16)) fun t11_27 =>
   Do P (V (binOp .add 9 t7_16 (.string ⟨#[47, 49]⟩))) fun t12_29 =>
   Do P (V (binOp .add 9 t7_16 (.string ⟨#[47, 50]⟩))) fun t13_31 =>
   Do P (vBuildSlice 48 7 [(0, arg0), (1, t8_20), (2, t9_23), (3, t10_25), (4, t11_27), (5, t12_29), (6, t13_31)]) fun t14_32 =>
   Lp (α := Value) (fun c15 s15 => Jk fun _ => -- i
    Do P (vBuiltin .len #[48] 3 [t14_32]) fun t16_35 =>
    Do P (V (binOp .lss 3 s15 t16_35)) fun t17_36 =>
    If t17_36 (
     Dr <|
     Qk P (V (Instr.indexAt 48 t14_32 s15)) fun C18 t18_41 =>
     Qk P (V (Instr.loadAt 9 t18_41)) fun C19 t19_42 =>
     Qk P (V (Instr.indexAt 48 t14_32 s15)) fun C20 t20_49 =>
     Qk P (V (Instr.loadAt 9 t20_49)) fun C21 t21_50 =>
     Do P (vCall (.func (.func 29) #[] ⟨[]⟩) [t19_42]) fun t22_43 =>
     With C21 <|
     With C20 <|
     Qk P (V (Instr.extract t22_43 0)) fun C23 t23_44 =>
     Qk P (V (Instr.extract t22_43 1)) fun C24 t24_45 =>
     Do P (vCall (.func (.func 13) #[] ⟨[]⟩) [t23_44, t24_45]) fun t25_46 =>
     With C21 <|
     With C20 <|
     Do P (vCall (.func (.func 30) #[] ⟨[]⟩) [t21_50]) fun t26_51 =>
     Qk P (V (Instr.extract t26_51 0)) fun C27 t27_52 =>
     Qk P (V (Instr.extract t26_51 1)) fun C28 t28_53 =>
     Do P (vCall (.func (.func 13) #[] ⟨[]⟩) [t27_52, t28_53]) fun t29_54 =>
     Qk P (V (EqG .neq 31 (.tmp 46) (.tmp 54) t25_46 t29_54)) fun C30 t30_55 =>
     If t30_55 (
      K (.bool false)
     ) (
      Do P (V (binOp .add 3 s15 (.int .i64 1))) fun t31_38 =>
      c15 t31_38
     )
    ) (
     K t2_9
    )
   ) (.int .i64 0)
  )
def A9 : Ann := .s (.n) (.s (.n) (.s (.s (.n) (.s (.s (.n) (.n)) (.n))) (.s (.n) (.s (.n) (.s (.s (.n) (.lp [8] 72057585447993616 (.s (.s (.n) (.s (.n) (.n))) (.s (.s (.plan [(0, 128, 549755813888), (0, 256, 1099511627776), (3, 1649267441664, 2199023255552), (4, 2199023255552, 4398046511104), (8, 4398046511104, 8796093022208), (16, 8796093022208, 17592186044416), (16, 8796093022208, 35184372088832), (112, 52776558133248, 70368744177664), (0, 128, 140737488355328), (0, 256, 281474976710656), (768, 422212465065984, 562949953421312), (1024, 562949953421312, 1125899906842624), (2176, 1125899906842624, 2251799813685248), (4096, 2251799813685248, 4503599627370496), (4096, 2251799813685248, 9007199254740992), (28672, 13510798882111488, 18014398509481984), (32896, 18084767253659648, 36028797018963968)] (.q 0 (.q 1 (.q 2 (.q 3 (.q 8 (.q 9 (.q 10 (.q 11 (.l 4 (.q 5 (.q 6 (.l 7 (.l 12 (.q 13 (.q 14 (.l 15 (.q 16 .done)))))))))))))))))) (.s (.s (.n) (.n)) (.n))) (.n))))) (.s (.n) (.n)))))))
set_option maxRecDepth 100000 in
theorem c9 (arg0 arg1 : Value) (K : Value → WP) (w : World) (h : s9 Tryd.prog arg0 arg1 K w) : Runs Tryd.prog 9 [arg0, arg1] K w :=
  runs_of_E wide (fn := Tryd.f9) (c := Tryd.f9.body.getD .skip) 57 A9 [arg0, arg1] w K Tryd.func9 (by kernel_rfl) (by kernel_rfl) (by kernel_rfl) (by kernel_rfl)
    (Eq.mp (by kernel_rfl : s9 Tryd.prog arg0 arg1 K w = E Tryd.prog (Tryd.f9.body.getD .skip) A9 (topK Tryd.prog K Tryd.f9.results) (fun i => (([arg0, arg1] : List Value)[i]?).getD undef) w) h)
theorem ct9 {arg0 arg1 : Value} {h : Hp} {post : Hp → Value → Prop} (hg : ∀ w0, Gs w0 h h [] (s9 Tryd.prog arg0 arg1 (RetP w0 h post))) : Ct Tryd.prog 9 [arg0, arg1] h post := Ct.of (sf := s9 Tryd.prog arg0 arg1) (c9 arg0 arg1) hg
theorem in9 {arg0 arg1 : Value} {S : WP} {K : Value → WP} (hg : G S (s9 Tryd.prog arg0 arg1 K)) : G S (Do Tryd.prog (vCall (.func (.func 9) #[] ⟨[]⟩) [arg0, arg1]) K) := Gs.into (args := [arg0, arg1]) (caps := []) (sf := s9 Tryd.prog arg0 arg1) (c9 arg0 arg1) hg

/- skewer/skewerlaw19.DyadLimits : names 0 num, 1 exp, 2 num, 3 exp, 5 up, 6 want, 7 g -/
def s10 (P : Program) (arg0 arg1 : Value) (K : Value → WP) : WP :=
  Do P (vCall (.func (.func 11) #[] ⟨[]⟩) []) fun t1_8 =>
  Jn (α := Value) (fun j2 => Jk fun _ => -- want
   Do P (vCall (.func (.func 14) #[] ⟨[]⟩) [arg0, arg1]) fun t3_34 =>
   Do P (V (Instr.extract t3_34 0)) fun t4_35 =>
   Do P (V (Instr.extract t3_34 1)) fun t5_36 =>
   Do P (vCall (.func (.func 13) #[] ⟨[]⟩) [t4_35, t5_36]) fun t6_37 =>
   Do P (V (Instr.alloc 31 true (.tuple #[]))) fun g7 =>
   Do P (U (Instr.storeAt 31 g7 t6_37)) fun t8_x =>
   If j2 (
    Dr <|
    Gd t1_8 true (
     Do P (vCall (.func (.func 17) #[] ⟨[]⟩) [arg0, arg1]) fun t9_43 =>
     Do P (vCall (.func (.func 16) #[] ⟨[]⟩) [t9_43]) fun t10_44 =>
     Gd t10_44 true (
      Qk P (V (Instr.loadAt 31 g7)) fun C11 t11_47 =>
      Do P (vCall (.func (.func 17) #[] ⟨[]⟩) [arg0, arg1]) fun t12_50 =>
      With C11 <|
      Qk P (vBuild 31 [(0, t12_50)]) fun C13 t13_51 =>
      Qk P (V (EqG .eql 31 (.tmp 47) (.tmp 51) t11_47 t13_51)) fun C14 t14_52 =>
      K t14_52
     ) (
      K (.bool false)
     )
    ) (
     K (.bool false)
    )
   ) (
    Gd t1_8 true (
     Do P (vCall (.func (.func 17) #[] ⟨[]⟩) [arg0, arg1]) fun t15_58 =>
     Do P (vCall (.func (.func 16) #[] ⟨[]⟩) [t15_58]) fun t16_59 =>
     Do P (V (Op.unary .not t16_59)) fun t17_60 =>
     Gd t17_60 true (
      Do P (V (Instr.fieldAt 31 g7 1)) fun t18_63 =>
      Do P (V (Instr.loadAt 29 t18_63)) fun t19_64 =>
      Do P (V (EqG .eql 29 (.tmp 64) (.const (.int .i64 190)) t19_64 (.int .i64 190))) fun t20_65 =>
      Gd t20_65 true (
       Do P (V (Instr.fieldAt 31 g7 0)) fun t21_67 =>
       Do P (V (Instr.loadAt 27 t21_67)) fun t22_68 =>
       Do P (vBuild 27 []) fun t23_69 =>
       Do P (V (EqG .eql 27 (.tmp 68) (.tmp 69) t22_68 t23_69)) fun t24_70 =>
       Gd t24_70 false (
        Do P (V (Instr.fieldAt 31 g7 1)) fun t25_73 =>
        Do P (V (Instr.loadAt 29 t25_73)) fun t26_74 =>
        Do P (V (EqG .eql 29 (.tmp 74) (.const (.int .i64 0)) t26_74 (.int .i64 0))) fun t27_75 =>
        Gd t27_75 true (
         Do P (V (Instr.fieldAt 31 g7 0)) fun t28_77 =>
         Do P (V (Instr.loadAt 27 t28_77)) fun t29_78 =>
         Do P (vCall (.func (.func 16) #[] ⟨[]⟩) [t29_78]) fun t30_79 =>
         K t30_79
        ) (
         K (.bool false)
        )
       ) (
        K (.bool true)
       )
      ) (
       Do P (V (Instr.fieldAt 31 g7 1)) fun t31_73 =>
       Do P (V (Instr.loadAt 29 t31_73)) fun t32_74 =>
       Do P (V (EqG .eql 29 (.tmp 74) (.const (.int .i64 0)) t32_74 (.int .i64 0))) fun t33_75 =>
       Gd t33_75 true (
        Do P (V (Instr.fieldAt 31 g7 0)) fun t34_77 =>
        Do P (V (Instr.loadAt 27 t34_77)) fun t35_78 =>
        Do P (vCall (.func (.func 16) #[] ⟨[]⟩) [t35_78]) fun t36_79 =>
        K t36_79
       ) (
        K (.bool false)
       )
      )
     ) (
      K (.bool false)
     )
    ) (
     K (.bool false)
    )
   )
  ) fun k2 =>
  Do P (V (binOp .geq 3 arg1 (.int .i64 0))) fun t37_10 =>
  Gd t37_10 true (
   Do P (V (binOp .leq 3 arg1 (.int .i64 30))) fun t38_13 =>
   Gd t38_13 true (
    Do P (V (binOp .geq 3 arg0 (.int .i64 (-1099511627776)))) fun t39_17 =>
    Gd t39_17 true (
     Do P (V (binOp .leq 3 arg0 (.int .i64 1099511627776))) fun t40_21 =>
     Gd t40_21 true (
      Do P (V (EqG .eql 3 (.tmp 24) (.const (.int .i64 0)) arg1 (.int .i64 0))) fun t41_25 =>
      Gd t41_25 false (
       Do P (V (binOp .rem 3 arg0 (.int .i64 2))) fun t42_28 =>
       Do P (V (EqG .neq 3 (.tmp 28) (.const (.int .i64 0)) t42_28 (.int .i64 0))) fun t43_29 =>
       k2 t43_29
      ) (
       k2 (.bool true)
      )
     ) (
      k2 (.bool false)
     )
    ) (
     k2 (.bool false)
    )
   ) (
    k2 (.bool false)
   )
  ) (
   k2 (.bool false)
  )
def A10 : Ann := .s (.n) (.s (.n) (.j [6] 4294966848 (.n) (.s (.n) (.s (.s (.n) (.s (.s (.plan [(0, 32, 549755813888), (1, 549755813888, 1099511627776), (2, 1099511627777, 2199023255552), (2, 1099511627778, 4398046511104), (14, 7696581394432, 8796093022208), (18, 9895604649984, 17592186044416), (34, 18691697672192, 35184372088832), (96, 35184372088832, 70368744177664), (128, 70368744177792, 140737488355328), (128, 70368744177665, 281474976710656), (128, 70368744177666, 562949953421312), (1664, 914793674309632, 1125899906842624), (2176, 1196268651020288, 2251799813685248), (4480, 2462906046218240, 4503599627370496), (8320, 4573968371548160, 9007199254740992), (32767, 9007199254740992, 16)] (.q 0 (.q 1 (.q 2 (.q 3 (.l 4 (.l 5 (.q 6 (.q 7 (.q 8 (.q 9 (.q 10 (.l 11 (.q 12 (.q 13 (.q 14 (.q 15 .done))))))))))))))))) (.n)) (.n))) (.s (.n) (.n))))))
set_option maxRecDepth 100000 in
theorem c10 (arg0 arg1 : Value) (K : Value → WP) (w : World) (h : s10 Tryd.prog arg0 arg1 K w) : Runs Tryd.prog 10 [arg0, arg1] K w :=
  runs_of_E wide (fn := Tryd.f10) (c := Tryd.f10.body.getD .skip) 83 A10 [arg0, arg1] w K Tryd.func10 (by kernel_rfl) (by kernel_rfl) (by kernel_rfl) (by kernel_rfl)
    (Eq.mp (by kernel_rfl : s10 Tryd.prog arg0 arg1 K w = E Tryd.prog (Tryd.f10.body.getD .skip) A10 (topK Tryd.prog K Tryd.f10.results) (fun i => (([arg0, arg1] : List Value)[i]?).getD undef) w) h)
theorem ct10 {arg0 arg1 : Value} {h : Hp} {post : Hp → Value → Prop} (hg : ∀ w0, Gs w0 h h [] (s10 Tryd.prog arg0 arg1 (RetP w0 h post))) : Ct Tryd.prog 10 [arg0, arg1] h post := Ct.of (sf := s10 Tryd.prog arg0 arg1) (c10 arg0 arg1) hg
theorem in10 {arg0 arg1 : Value} {S : WP} {K : Value → WP} (hg : G S (s10 Tryd.prog arg0 arg1 K)) : G S (Do Tryd.prog (vCall (.func (.func 10) #[] ⟨[]⟩) [arg0, arg1]) K) := Gs.into (args := [arg0, arg1]) (caps := []) (sf := s10 Tryd.prog arg0 arg1) (c10 arg0 arg1) hg

/- skewer/skewerlaw19.sanity : names 1 fine, 2 form, 3 made, 4 between, 5 texts -/
def s11 (P : Program) (K : Value → WP) : WP :=
  Do P (vBuild 31 [(1, (.int .i64 190))]) fun t1_6 =>
  Do P (V (Instr.alloc 31 true (.tuple #[]))) fun fine2 =>
  Do P (U (Instr.storeAt 31 fine2 t1_6)) fun t3_x =>
  Do P (vBuild 31 [(1, (.int .i64 3))]) fun t4_7 =>
  Do P (V (Instr.alloc 31 true (.tuple #[]))) fun form5 =>
  Do P (U (Instr.storeAt 31 form5 t4_7)) fun t6_x =>
  Jn (α := Value) (fun j7 => Jk fun _ => -- made
   Jn (α := Value) (fun j8 => Jk fun _ => -- between
    Jn (α := Value) (fun j9 => Jk fun _ => -- texts
     Gd j7 true (
      Gd j8 true (
       Gd j9 true (
        Do P (vCall (.func (.func 17) #[] ⟨[]⟩) [(.int .i64 1), (.int .i64 1)]) fun t10_124 =>
        Do P (vCall (.func (.func 17) #[] ⟨[]⟩) [(.int .i64 1), (.int .i64 1)]) fun t11_125 =>
        Do P (vCall (.func (.func 19) #[] ⟨[]⟩) [t10_124, t11_125]) fun t12_126 =>
        Do P (V (Instr.extract t12_126 0)) fun t13_127 =>
        Do P (V (Instr.extract t12_126 1)) fun t14_128 =>
        Do P (vCall (.func (.func 13) #[] ⟨[]⟩) [t13_127, t14_128]) fun t15_129 =>
        Do P (vCall (.func (.func 17) #[] ⟨[]⟩) [(.int .i64 1), (.int .i64 0)]) fun t16_130 =>
        Do P (vBuild 31 [(0, t16_130)]) fun t17_131 =>
        Do P (V (EqG .eql 31 (.tmp 129) (.tmp 131) t15_129 t17_131)) fun t18_132 =>
        Gd t18_132 true (
         Do P (vCall (.func (.func 17) #[] ⟨[]⟩) [(.int .i64 1), (.int .i64 1)]) fun t19_135 =>
         Do P (vCall (.func (.func 21) #[] ⟨[]⟩) [t19_135]) fun t20_136 =>
         Do P (vCall (.func (.func 17) #[] ⟨[]⟩) [(.int .i64 (-1)), (.int .i64 1)]) fun t21_137 =>
         Do P (V (EqG .eql 27 (.tmp 136) (.tmp 137) t20_136 t21_137)) fun t22_138 =>
         Gd t22_138 true (
          Do P (vCall (.func (.func 17) #[] ⟨[]⟩) [(.int .i64 1), (.int .i64 1)]) fun t23_141 =>
          Do P (vCall (.func (.func 17) #[] ⟨[]⟩) [(.int .i64 1), (.int .i64 0)]) fun t24_142 =>
          Do P (vCall (.func (.func 23) #[] ⟨[]⟩) [t23_141, t24_142]) fun t25_143 =>
          Do P (V (EqG .eql 3 (.tmp 143) (.const (.int .i64 (-1))) t25_143 (.int .i64 (-1)))) fun t26_144 =>
          Gd t26_144 true (
           Do P (vCall (.func (.func 17) #[] ⟨[]⟩) [(.int .i64 0), (.int .i64 0)]) fun t27_147 =>
           Do P (vCall (.func (.func 16) #[] ⟨[]⟩) [t27_147]) fun t28_148 =>
           Gd t28_148 true (
            Do P (vCall (.func (.func 17) #[] ⟨[]⟩) [(.int .i64 2), (.int .i64 1)]) fun t29_151 =>
            Do P (vCall (.func (.func 16) #[] ⟨[]⟩) [t29_151]) fun t30_152 =>
            Do P (V (Op.unary .not t30_152)) fun t31_153 =>
            K t31_153
           ) (
            K (.bool false)
           )
          ) (
           K (.bool false)
          )
         ) (
          K (.bool false)
         )
        ) (
         K (.bool false)
        )
       ) (
        K (.bool false)
       )
      ) (
       K (.bool false)
      )
     ) (
      K (.bool false)
     )
    ) fun k9 =>
    Dr <|
    Do P (vCall (.func (.func 17) #[] ⟨[]⟩) [(.int .i64 (-3)), (.int .i64 2)]) fun t32_80 =>
    Do P (vCall (.func (.func 27) #[] ⟨[]⟩) [t32_80]) fun t33_81 =>
    Qk P (V (EqG .eql 9 (.tmp 81) (.const (.string ⟨#[45, 51, 47, 52]⟩)) t33_81 (.string ⟨#[45, 51, 47, 52]⟩))) fun C34 t34_82 =>
    Gd t34_82 true (
     Qk P (V (Instr.loadAt 31 form5)) fun C35 t35_88 =>
     Do P (vCall (.func (.func 29) #[] ⟨[]⟩) [(.string ⟨#[50, 47, 52]⟩)]) fun t36_84 =>
     With C35 <|
     Qk P (V (Instr.extract t36_84 0)) fun C37 t37_85 =>
     Qk P (V (Instr.extract t36_84 1)) fun C38 t38_86 =>
     Do P (vCall (.func (.func 13) #[] ⟨[]⟩) [t37_85, t38_86]) fun t39_87 =>
     With C35 <|
     Qk P (V (EqG .eql 31 (.tmp 87) (.tmp 88) t39_87 t35_88)) fun C40 t40_89 =>
     Gd t40_89 true (
      Qk P (V (Instr.loadAt 31 form5)) fun C41 t41_96 =>
      Do P (vCall (.func (.func 29) #[] ⟨[]⟩) [(.string ⟨#[45, 48]⟩)]) fun t42_92 =>
      With C41 <|
      Qk P (V (Instr.extract t42_92 0)) fun C43 t43_93 =>
      Qk P (V (Instr.extract t42_92 1)) fun C44 t44_94 =>
      Do P (vCall (.func (.func 13) #[] ⟨[]⟩) [t43_93, t44_94]) fun t45_95 =>
      With C41 <|
      Qk P (V (EqG .eql 31 (.tmp 95) (.tmp 96) t45_95 t41_96)) fun C46 t46_97 =>
      Gd t46_97 true (
       Qk P (V (Instr.loadAt 31 form5)) fun C47 t47_104 =>
       Do P (vCall (.func (.func 29) #[] ⟨[]⟩) [(.string ⟨#[49, 47, 51]⟩)]) fun t48_100 =>
       With C47 <|
       Qk P (V (Instr.extract t48_100 0)) fun C49 t49_101 =>
       Qk P (V (Instr.extract t48_100 1)) fun C50 t50_102 =>
       Do P (vCall (.func (.func 13) #[] ⟨[]⟩) [t49_101, t50_102]) fun t51_103 =>
       With C47 <|
       Qk P (V (EqG .eql 31 (.tmp 103) (.tmp 104) t51_103 t47_104)) fun C52 t52_105 =>
       Gd t52_105 true (
        Do P (vCall (.func (.func 29) #[] ⟨[]⟩) [(.string ⟨#[55, 47, 50]⟩)]) fun t53_108 =>
        Qk P (V (Instr.extract t53_108 0)) fun C54 t54_109 =>
        Qk P (V (Instr.extract t53_108 1)) fun C55 t55_110 =>
        Do P (vCall (.func (.func 13) #[] ⟨[]⟩) [t54_109, t55_110]) fun t56_111 =>
        Do P (vCall (.func (.func 17) #[] ⟨[]⟩) [(.int .i64 7), (.int .i64 1)]) fun t57_112 =>
        Qk P (vBuild 31 [(0, t57_112)]) fun C58 t58_113 =>
        Qk P (V (EqG .eql 31 (.tmp 111) (.tmp 113) t56_111 t58_113)) fun C59 t59_114 =>
        k9 t59_114
       ) (
        k9 (.bool false)
       )
      ) (
       k9 (.bool false)
      )
     ) (
      k9 (.bool false)
     )
    ) (
     k9 (.bool false)
    )
   ) fun k8 =>
   Dr <|
   Do P (vCall (.func (.func 17) #[] ⟨[]⟩) [(.int .i64 0), (.int .i64 0)]) fun t60_40 =>
   Do P (vCall (.func (.func 17) #[] ⟨[]⟩) [(.int .i64 1), (.int .i64 0)]) fun t61_41 =>
   Do P (vCall (.func (.func 25) #[] ⟨[]⟩) [t60_40, t61_41]) fun t62_42 =>
   Qk P (V (Instr.extract t62_42 0)) fun C63 t63_43 =>
   Qk P (V (Instr.extract t62_42 1)) fun C64 t64_44 =>
   Do P (vCall (.func (.func 13) #[] ⟨[]⟩) [t63_43, t64_44]) fun t65_45 =>
   Do P (vCall (.func (.func 17) #[] ⟨[]⟩) [(.int .i64 1), (.int .i64 1)]) fun t66_46 =>
   Qk P (vBuild 31 [(0, t66_46)]) fun C67 t67_47 =>
   Qk P (V (EqG .eql 31 (.tmp 45) (.tmp 47) t65_45 t67_47)) fun C68 t68_48 =>
   Gd t68_48 true (
    Do P (vCall (.func (.func 17) #[] ⟨[]⟩) [(.int .i64 1), (.int .i64 2)]) fun t69_50 =>
    Do P (vCall (.func (.func 17) #[] ⟨[]⟩) [(.int .i64 7), (.int .i64 1)]) fun t70_51 =>
    Do P (vCall (.func (.func 25) #[] ⟨[]⟩) [t69_50, t70_51]) fun t71_52 =>
    Qk P (V (Instr.extract t71_52 0)) fun C72 t72_53 =>
    Qk P (V (Instr.extract t71_52 1)) fun C73 t73_54 =>
    Do P (vCall (.func (.func 13) #[] ⟨[]⟩) [t72_53, t73_54]) fun t74_55 =>
    Do P (vCall (.func (.func 17) #[] ⟨[]⟩) [(.int .i64 1), (.int .i64 0)]) fun t75_56 =>
    Qk P (vBuild 31 [(0, t75_56)]) fun C76 t76_57 =>
    Qk P (V (EqG .eql 31 (.tmp 55) (.tmp 57) t74_55 t76_57)) fun C77 t77_58 =>
    Gd t77_58 true (
     Qk P (vBuild 31 []) fun C78 t78_67 =>
     Do P (vCall (.func (.func 17) #[] ⟨[]⟩) [(.int .i64 (-5)), (.int .i64 0)]) fun t79_61 =>
     With C78 <|
     Do P (vCall (.func (.func 17) #[] ⟨[]⟩) [(.int .i64 9), (.int .i64 0)]) fun t80_62 =>
     With C78 <|
     Do P (vCall (.func (.func 25) #[] ⟨[]⟩) [t79_61, t80_62]) fun t81_63 =>
     With C78 <|
     Qk P (V (Instr.extract t81_63 0)) fun C82 t82_64 =>
     Qk P (V (Instr.extract t81_63 1)) fun C83 t83_65 =>
     Do P (vCall (.func (.func 13) #[] ⟨[]⟩) [t82_64, t83_65]) fun t84_66 =>
     With C78 <|
     Qk P (V (EqG .eql 31 (.tmp 66) (.tmp 67) t84_66 t78_67)) fun C85 t85_68 =>
     Gd t85_68 true (
      Qk P (V (Instr.loadAt 31 fine2)) fun C86 t86_77 =>
      Do P (vCall (.func (.func 17) #[] ⟨[]⟩) [(.int .i64 1), (.int .i64 1)]) fun t87_71 =>
      With C86 <|
      Do P (vCall (.func (.func 17) #[] ⟨[]⟩) [(.int .i64 1), (.int .i64 1)]) fun t88_72 =>
      With C86 <|
      Do P (vCall (.func (.func 25) #[] ⟨[]⟩) [t87_71, t88_72]) fun t89_73 =>
      With C86 <|
      Qk P (V (Instr.extract t89_73 0)) fun C90 t90_74 =>
      Qk P (V (Instr.extract t89_73 1)) fun C91 t91_75 =>
      Do P (vCall (.func (.func 13) #[] ⟨[]⟩) [t90_74, t91_75]) fun t92_76 =>
      With C86 <|
      Qk P (V (EqG .eql 31 (.tmp 76) (.tmp 77) t92_76 t86_77)) fun C93 t93_78 =>
      k8 t93_78
     ) (
      k8 (.bool false)
     )
    ) (
     k8 (.bool false)
    )
   ) (
    k8 (.bool false)
   )
  ) fun k7 =>
  Dr <|
  Do P (vCall (.func (.func 14) #[] ⟨[]⟩) [(.int .i64 6), (.int .i64 2)]) fun t94_8 =>
  Qk P (V (Instr.extract t94_8 0)) fun C95 t95_9 =>
  Qk P (V (Instr.extract t94_8 1)) fun C96 t96_10 =>
  Do P (vCall (.func (.func 13) #[] ⟨[]⟩) [t95_9, t96_10]) fun t97_11 =>
  Do P (vCall (.func (.func 17) #[] ⟨[]⟩) [(.int .i64 3), (.int .i64 1)]) fun t98_12 =>
  Qk P (vBuild 31 [(0, t98_12)]) fun C99 t99_13 =>
  Qk P (V (EqG .eql 31 (.tmp 11) (.tmp 13) t97_11 t99_13)) fun C100 t100_14 =>
  Gd t100_14 true (
   Qk P (V (Instr.loadAt 31 fine2)) fun C101 t101_20 =>
   Do P (vCall (.func (.func 14) #[] ⟨[]⟩) [(.int .i64 3), (.int .i64 31)]) fun t102_16 =>
   With C101 <|
   Qk P (V (Instr.extract t102_16 0)) fun C103 t103_17 =>
   Qk P (V (Instr.extract t102_16 1)) fun C104 t104_18 =>
   Do P (vCall (.func (.func 13) #[] ⟨[]⟩) [t103_17, t104_18]) fun t105_19 =>
   With C101 <|
   Qk P (V (EqG .eql 31 (.tmp 19) (.tmp 20) t105_19 t101_20)) fun C106 t106_21 =>
   Gd t106_21 true (
    Do P (vCall (.func (.func 14) #[] ⟨[]⟩) [(.int .i64 8), (.int .i64 33)]) fun t107_24 =>
    Qk P (V (Instr.extract t107_24 0)) fun C108 t108_25 =>
    Qk P (V (Instr.extract t107_24 1)) fun C109 t109_26 =>
    Do P (vCall (.func (.func 13) #[] ⟨[]⟩) [t108_25, t109_26]) fun t110_27 =>
    Do P (vCall (.func (.func 17) #[] ⟨[]⟩) [(.int .i64 1), (.int .i64 30)]) fun t111_28 =>
    Qk P (vBuild 31 [(0, t111_28)]) fun C112 t112_29 =>
    Qk P (V (EqG .eql 31 (.tmp 27) (.tmp 29) t110_27 t112_29)) fun C113 t113_30 =>
    Gd t113_30 true (
     Qk P (V (Instr.loadAt 31 fine2)) fun C114 t114_37 =>
     Do P (vCall (.func (.func 14) #[] ⟨[]⟩) [(.int .i64 1), (.int .i64 63)]) fun t115_33 =>
     With C114 <|
     Qk P (V (Instr.extract t115_33 0)) fun C116 t116_34 =>
     Qk P (V (Instr.extract t115_33 1)) fun C117 t117_35 =>
     Do P (vCall (.func (.func 13) #[] ⟨[]⟩) [t116_34, t117_35]) fun t118_36 =>
     With C114 <|
     Qk P (V (EqG .eql 31 (.tmp 36) (.tmp 37) t118_36 t114_37)) fun C119 t119_38 =>
     k7 t119_38
    ) (
     k7 (.bool false)
    )
   ) (
    k7 (.bool false)
   )
  ) (
   k7 (.bool false)
  )
def A11 : Ann := .s (.n) (.s (.n) (.s (.n) (.j [3] 1099511627528 (.plan [(0, 0, 256), (1, 256, 512), (1, 256, 1024), (7, 1536, 2048), (8, 0, 4096), (16, 4096, 8192), (40, 10240, 16384), (80, 16384, 32768), (128, 32768, 65536), (384, 98304, 131072), (384, 98304, 262144), (1920, 425984, 524288), (128, 32770, 1048576), (6272, 1605632, 2097152), (8320, 2129920, 4194304), (18432, 4194304, 8388608), (32768, 8388608, 16777216), (98304, 25165824, 33554432), (98304, 25165824, 67108864), (491520, 109051904, 134217728), (557056, 8388608, 268435456), (1081344, 276824064, 536870912), (2654208, 679477248, 1073741824), (4227072, 1082130432, 2147483648), (9437184, 2147483648, 4294967296), (16777216, 4294967296, 8589934592), (50331648, 12884901888, 17179869184), (50331648, 12884901888, 34359738368), (251658240, 55834574848, 68719476736), (16777216, 4294967298, 137438953472), (822083584, 210453397504, 274877906944), (1090519040, 279172874240, 549755813888), (4294967295, 549755813888, 8)] (.l 0 (.q 1 (.q 2 (.l 3 (.l 4 (.q 5 (.q 6 (.q 7 (.q 12 (.l 8 (.q 9 (.q 10 (.l 11 (.q 13 (.q 14 (.q 15 (.l 16 (.q 17 (.q 18 (.l 19 (.l 20 (.q 21 (.q 22 (.q 23 (.q 24 (.q 29 (.l 25 (.q 26 (.q 27 (.l 28 (.q 30 (.q 31 (.q 32 .done)))))))))))))))))))))))))))))))))) (.j [4] 1208925819613529663078416 (.plan [(0, 0, 1099511627776), (1, 0, 2199023255552), (3, 3298534883328, 4398046511104), (4, 4398046511104, 8796093022208), (4, 4398046511104, 17592186044416), (28, 26388279066624, 35184372088832), (32, 0, 70368744177664), (64, 70368744177664, 140737488355328), (160, 175921860444160, 281474976710656), (320, 281474976710656, 562949953421312), (512, 562949953421312, 1125899906842624), (1536, 562949953421312, 2251799813685248), (3584, 3940649673949184, 4503599627370496), (4608, 5066549580791808, 9007199254740992), (4608, 5066549580791808, 18014398509481984), (29184, 27584547717644288, 36028797018963968), (33280, 562949953421312, 72057594037927936), (66048, 72620543991349248, 144115188075855872), (164352, 180706935048241152, 288230376151711744), (262656, 288793326105133056, 576460752303423488), (589824, 576460752303423488, 1152921504606846976), (1048576, 1152921504606846976, 2305843009213693952), (3145728, 1152921504606846976, 4611686018427387904), (7340032, 8070450532247928832, 9223372036854775808), (9437184, 10376293541461622784, 18446744073709551616), (9437184, 10376293541461622784, 36893488147419103232), (59768832, 56493153725735501824, 73786976294838206464), (1048576, 1152921504606846976, 147573952589676412928), (202375168, 222513850389121466368, 295147905179352825856), (269484032, 296300826683959672832, 590295810358705651712), (603979776, 590295810358705651712, 1180591620717411303424), (1073741824, 1180591620717411303424, 2361183241434822606848), (3221225472, 1180591620717411303424, 4722366482869645213696), (7516192768, 8264141345021879123968, 9444732965739290427392), (9663676416, 10625324586456701730816, 18889465931478580854784), (9663676416, 10625324586456701730816, 37778931862957161709568), (61203283968, 57848989415153153867776, 75557863725914323419136), (1073741824, 1180591620717411303426, 151115727451828646838272), (207232172032, 227854182798460381560832, 302231454903657293676544), (275951648768, 303412046524374704979968, 604462909807314587353088), (1099511627775, 604462909807314587353088, 16)] (.l 0 (.l 1 (.l 2 (.q 3 (.q 4 (.l 5 (.l 6 (.q 7 (.q 8 (.q 9 (.l 10 (.l 11 (.l 12 (.q 13 (.q 14 (.l 15 (.l 16 (.q 17 (.q 18 (.q 19 (.q 20 (.q 27 (.l 21 (.l 22 (.l 23 (.q 24 (.q 25 (.l 26 (.q 28 (.q 29 (.q 30 (.q 37 (.l 31 (.l 32 (.l 33 (.q 34 (.q 35 (.l 36 (.q 38 (.q 39 (.q 40 .done)))))))))))))))))))))))))))))))))))))))))) (.j [5] 83076749735348316236873312092815392 (.plan [(0, 0, 1208925819614629174706176), (1, 1208925819614629174706176, 2417851639229258349412352), (2, 2417851639229258349412352, 4835703278458516698824704), (6, 4835703278458516698824704, 9671406556917033397649408), (8, 9671406556917033397649408, 19342813113834066795298816), (24, 29014219670751100192948224, 38685626227668133590597632), (24, 29014219670751100192948224, 77371252455336267181195264), (120, 125728285239921434169442304, 154742504910672534362390528), (8, 9671406556917033397649412, 309485009821345068724781056), (392, 473898921288934636484820992, 618970019642690137449562112), (520, 628641426199607170847211520, 1237940039285380274899124224), (1152, 1237940039285380274899124224, 2475880078570760549798248448), (2048, 2475880078570760549798248448, 4951760157141521099596496896), (6144, 7427640235712281649394745344, 9903520314283042199192993792), (6144, 7427640235712281649394745344, 19807040628566084398385987584), (30720, 32186441021419887147377229824, 39614081257132168796771975168), (2048, 2475880078570760549798248452, 79228162514264337593543950336), (100352, 121318123849967266940114173952, 158456325028528675187087900672), (133120, 160932205107099435736886149120, 316912650057057350374175801344), (294912, 316912650057057350374175801344, 633825300114114700748351602688), (524288, 633825300114114700748351602688, 1267650600228229401496703205376), (1572864, 1901475900342344102245054808064, 2535301200456458802993406410752), (1572864, 1901475900342344102245054808064, 5070602400912917605986812821504), (7864320, 8239728901483491109728570834944, 10141204801825835211973625643008), (524288, 633825300114114700748351602692, 20282409603651670423947251286016), (25690112, 31057439705591620336669228531712, 40564819207303340847894502572032), (34078720, 41198644507417455548642854174720, 81129638414606681695789005144064), (75497472, 81129638414606681695789005144064, 162259276829213363391578010288128), (134217728, 162259276829213363391578010288128, 324518553658426726783156020576256), (402653184, 486777830487640090174734030864384, 649037107316853453566312041152512), (402653184, 486777830487640090174734030864384, 1298074214633706907132624082305024), (2013265920, 2109370598779773724090514133745664, 2596148429267413814265248164610048), (2281701376, 162259276829213363391578010288128, 5192296858534827628530496329220096), (4429185024, 5354556135364040991922074339508224, 10384593717069655257060992658440192), (10871635968, 13143001423166282434717818833338368, 20769187434139310514121985316880384), (17314086912, 20931446710968523877513563327168512, 41538374868278621028243970633760768), (68719476735, 41538374868278621028243970633760768, 32)] (.l 0 (.l 1 (.q 2 (.q 3 (.q 8 (.l 4 (.q 5 (.q 6 (.l 7 (.q 9 (.q 10 (.q 11 (.q 16 (.l 12 (.q 13 (.q 14 (.l 15 (.q 17 (.q 18 (.q 19 (.q 24 (.l 20 (.q 21 (.q 22 (.l 23 (.q 25 (.q 26 (.q 27 (.l 28 (.q 29 (.q 30 (.l 31 (.l 32 (.q 33 (.q 34 (.q 35 (.q 36 .done)))))))))))))))))))))))))))))))))))))) (.s (.n) (.n)))))))
set_option maxRecDepth 100000 in
theorem c11 (K : Value → WP) (w : World) (h : s11 Tryd.prog  K w) : Runs Tryd.prog 11 [] K w :=
  runs_of_E wide (fn := Tryd.f11) (c := Tryd.f11.body.getD .skip) 155 A11 [] w K Tryd.func11 (by kernel_rfl) (by kernel_rfl) (by kernel_rfl) (by kernel_rfl)
    (Eq.mp (by kernel_rfl : s11 Tryd.prog  K w = E Tryd.prog (Tryd.f11.body.getD .skip) A11 (topK Tryd.prog K Tryd.f11.results) (fun i => (([] : List Value)[i]?).getD undef) w) h)
theorem ct11 {h : Hp} {post : Hp → Value → Prop} (hg : ∀ w0, Gs w0 h h [] (s11 Tryd.prog  (RetP w0 h post))) : Ct Tryd.prog 11 [] h post := Ct.of (sf := s11 Tryd.prog ) (c11 ) hg
theorem in11 {S : WP} {K : Value → WP} (hg : G S (s11 Tryd.prog  K)) : G S (Do Tryd.prog (vCall (.func (.func 11) #[] ⟨[]⟩) []) K) := Gs.into (args := []) (caps := []) (sf := s11 Tryd.prog ) (c11 ) hg

/- skewer/skewerref19.Frac : names 0 x, 1 x, 3 exp, 4 num -/
def s12 (P : Program) (arg0 : Value) (K : Value → WP) : WP :=
  Do P (V (Instr.box 23 arg0)) fun x1 =>
  Do P (V (Instr.alloc 27 true (.tuple #[]))) fun t2_2 =>
  Do P (V (Instr.fieldAt 23 x1 1)) fun t3_5 =>
  Do P (V (Instr.loadAt 5 t3_5)) fun t4_6 =>
  Do P (V (convert 5 3 t4_6)) fun t5_7 =>
  Do P (V (binOp .rem 3 t5_7 (.int .i64 31))) fun t6_8 =>
  Do P (V (Instr.fieldAt 23 x1 0)) fun t7_9 =>
  Do P (V (Instr.loadAt 21 t7_9)) fun t8_10 =>
  Do P (V (convert 21 3 t8_10)) fun t9_11 =>
  Jn (α := Value) (fun j10 => Jk fun _ => -- num
   Jn (α := Value) (fun j11 => Jk fun _ => -- num
    Jn (α := Value) (fun j12 => Jk fun _ => -- num
     Do P (vBuiltin .min #[3, 3] 3 [j12, (.int .i64 1099511627776)]) fun t13_33 =>
     Do P (vBuiltin .max #[3, 3] 3 [(.int .i64 (-1099511627776)), t13_33]) fun t14_34 =>
     Do P (vCall (.func (.func 32) #[] ⟨[]⟩) [t14_34, t6_8]) fun t15_36 =>
     Do P (V (Instr.field 31 t15_36 0)) fun t16_37 =>
     Do P (U (Instr.storeAt 27 t2_2 t16_37)) fun t17_x =>
     RetC P 27 t2_2 K
    ) fun k12 =>
    Do P (V (Instr.fieldAt 23 x1 2)) fun t18_25 =>
    Do P (V (Instr.loadAt 5 t18_25)) fun t19_26 =>
    Do P (V (EqG .eql 5 (.tmp 26) (.const (.int .u8 254)) t19_26 (.int .u8 254))) fun t20_27 =>
    If t20_27 (
     Do P (V (Instr.fieldAt 23 x1 1)) fun t21_28 =>
     Do P (V (Instr.loadAt 5 t21_28)) fun t22_29 =>
     Do P (V (convert 5 3 t22_29)) fun t23_30 =>
     Do P (V (binOp .add 3 (.int .i64 (-1099511627776)) t23_30)) fun t24_31 =>
     k12 t24_31
    ) (
     k12 j11
    )
   ) fun k11 =>
   Do P (V (Instr.fieldAt 23 x1 2)) fun t25_18 =>
   Do P (V (Instr.loadAt 5 t25_18)) fun t26_19 =>
   Do P (V (EqG .eql 5 (.tmp 19) (.const (.int .u8 255)) t26_19 (.int .u8 255))) fun t27_20 =>
   If t27_20 (
    Do P (V (Instr.fieldAt 23 x1 1)) fun t28_21 =>
    Do P (V (Instr.loadAt 5 t28_21)) fun t29_22 =>
    Do P (V (convert 5 3 t29_22)) fun t30_23 =>
    Do P (V (binOp .sub 3 (.int .i64 1099511627776) t30_23)) fun t31_24 =>
    k11 t31_24
   ) (
    k11 j10
   )
  ) fun k10 =>
  Do P (V (Instr.fieldAt 23 x1 2)) fun t32_12 =>
  Do P (V (Instr.loadAt 5 t32_12)) fun t33_13 =>
  Do P (V (binOp .rem 5 t33_13 (.int .u8 8))) fun t34_14 =>
  Do P (V (EqG .eql 5 (.tmp 14) (.const (.int .u8 7)) t34_14 (.int .u8 7))) fun t35_15 =>
  If t35_15 (
   Do P (V (binOp .mul 3 t9_11 (.int .i64 512))) fun t36_17 =>
   k10 t36_17
  ) (
   k10 t9_11
  )
def A12 : Ann := .s (.n) (.s (.n) (.s (.n) (.j [4] 258064 (.s (.n) (.s (.n) (.n))) (.j [4] 33292304 (.s (.n) (.s (.n) (.n))) (.j [4] 4261412880 (.s (.n) (.s (.n) (.n))) (.s (.n) (.n)))))))
set_option maxRecDepth 100000 in
theorem c12 (arg0 : Value) (K : Value → WP) (w : World) (h : s12 Tryd.prog arg0 K w) : Runs Tryd.prog 12 [arg0] K w :=
  runs_of_E wide (fn := Tryd.f12) (c := Tryd.f12.body.getD .skip) 38 A12 [arg0] w K Tryd.func12 (by kernel_rfl) (by kernel_rfl) (by kernel_rfl) (by kernel_rfl)
    (Eq.mp (by kernel_rfl : s12 Tryd.prog arg0 K w = E Tryd.prog (Tryd.f12.body.getD .skip) A12 (topK Tryd.prog K Tryd.f12.results) (fun i => (([arg0] : List Value)[i]?).getD undef) w) h)
theorem ct12 {arg0 : Value} {h : Hp} {post : Hp → Value → Prop} (hg : ∀ w0, Gs w0 h h [] (s12 Tryd.prog arg0 (RetP w0 h post))) : Ct Tryd.prog 12 [arg0] h post := Ct.of (sf := s12 Tryd.prog arg0) (c12 arg0) hg
theorem in12 {arg0 : Value} {S : WP} {K : Value → WP} (hg : G S (s12 Tryd.prog arg0 K)) : G S (Do Tryd.prog (vCall (.func (.func 12) #[] ⟨[]⟩) [arg0]) K) := Gs.into (args := [arg0]) (caps := []) (sf := s12 Tryd.prog arg0) (c12 arg0) hg

/- skewer/skewerlaw19.got : names 0 x, 1 e, 2 x, 3 e -/
def s13 (P : Program) (arg0 arg1 : Value) (K : Value → WP) : WP :=
  Do P (V (Instr.box 27 arg0)) fun x1 =>
  Do P (V (Instr.alloc 31 true (.tuple #[]))) fun t2_4 =>
  Do P (V (Instr.loadAt 27 x1)) fun t3_5 =>
  Do P (vBuild 31 [(0, t3_5), (1, arg1)]) fun t4_7 =>
  Do P (U (Instr.storeAt 31 t2_4 t4_7)) fun t5_x =>
  RetC P 31 t2_4 K
def A13 : Ann := .s (.n) (.s (.n) (.n))
set_option maxRecDepth 100000 in
theorem c13 (arg0 arg1 : Value) (K : Value → WP) (w : World) (h : s13 Tryd.prog arg0 arg1 K w) : Runs Tryd.prog 13 [arg0, arg1] K w :=
  runs_of_E wide (fn := Tryd.f13) (c := Tryd.f13.body.getD .skip) 8 A13 [arg0, arg1] w K Tryd.func13 (by kernel_rfl) (by kernel_rfl) (by kernel_rfl) (by kernel_rfl)
    (Eq.mp (by kernel_rfl : s13 Tryd.prog arg0 arg1 K w = E Tryd.prog (Tryd.f13.body.getD .skip) A13 (topK Tryd.prog K Tryd.f13.results) (fun i => (([arg0, arg1] : List Value)[i]?).getD undef) w) h)
theorem ct13 {arg0 arg1 : Value} {h : Hp} {post : Hp → Value → Prop} (hg : ∀ w0, Gs w0 h h [] (s13 Tryd.prog arg0 arg1 (RetP w0 h post))) : Ct Tryd.prog 13 [arg0, arg1] h post := Ct.of (sf := s13 Tryd.prog arg0 arg1) (c13 arg0 arg1) hg
theorem in13 {arg0 arg1 : Value} {S : WP} {K : Value → WP} (hg : G S (s13 Tryd.prog arg0 arg1 K)) : G S (Do Tryd.prog (vCall (.func (.func 13) #[] ⟨[]⟩) [arg0, arg1]) K) := Gs.into (args := [arg0, arg1]) (caps := []) (sf := s13 Tryd.prog arg0 arg1) (c13 arg0 arg1) hg

/- skewer/dyad.Make : names 0 num, 1 exp, 2 num, 3 exp, 6 shift, 7 x -/
def s14 (P : Program) (arg0 arg1 : Value) (K : Value → WP) : WP :=
  Do P (V (Instr.alloc 27 true (.tuple #[]))) fun t1_4 =>
  Jn (α := Value) (fun j2 => Jk fun _ => -- t13
   If j2 (
    Do P (vBuild 27 []) fun t3_14 =>
    Do P (U (Instr.storeAt 27 t1_4 t3_14)) fun t4_x =>
    RetC P 27 t1_4 fun r => K (.tuple #[r, (.int .i64 190)])
   ) (
    Do P (V (EqG .eql 3 (.tmp 15) (.const (.int .i64 0)) arg0 (.int .i64 0))) fun t5_16 =>
    If t5_16 (
     Do P (vBuild 27 []) fun t6_17 =>
     Do P (U (Instr.storeAt 27 t1_4 t6_17)) fun t7_x =>
     RetC P 27 t1_4 fun r => K (.tuple #[r, (.int .i64 0)])
    ) (
     Do P (V (convert 3 53 arg0)) fun t8_20 =>
     Do P (vCall (.func (.func 33) #[] ⟨[]⟩) [t8_20]) fun t9_21 =>
     Do P (vBuiltin .min #[3, 3] 3 [arg1, t9_21]) fun t10_22 =>
     Do P (V (binOp .shr 3 arg0 t10_22)) fun t11_25 =>
     Do P (V (binOp .sub 3 arg1 t10_22)) fun t12_28 =>
     Do P (vBuild 27 [(0, t11_25), (1, t12_28)]) fun t13_29 =>
     Do P (V (Instr.alloc 27 true (.tuple #[]))) fun x14 =>
     Do P (U (Instr.storeAt 27 x14 t13_29)) fun t15_x =>
     Do P (V (Instr.loadAt 27 x14)) fun t16_30 =>
     Do P (vCall (.func (.func 16) #[] ⟨[]⟩) [t16_30]) fun t17_31 =>
     Do P (V (Op.unary .not t17_31)) fun t18_32 =>
     If t18_32 (
      Do P (vBuild 27 []) fun t19_33 =>
      Do P (U (Instr.storeAt 27 t1_4 t19_33)) fun t20_x =>
      RetC P 27 t1_4 fun r => K (.tuple #[r, (.int .i64 190)])
     ) (
      Do P (V (Instr.loadAt 27 x14)) fun t21_34 =>
      Do P (U (Instr.storeAt 27 t1_4 t21_34)) fun t22_x =>
      RetC P 27 t1_4 fun r => K (.tuple #[r, (.int .i64 0)])
     )
    )
   )
  ) fun k2 =>
  Do P (V (binOp .lss 3 arg1 (.int .i64 0))) fun t23_9 =>
  Gd t23_9 false (
   Do P (V (binOp .gtr 3 arg1 (.int .i64 62))) fun t24_12 =>
   k2 t24_12
  ) (
   k2 (.bool true)
  )
def A14 : Ann := .s (.n) (.s (.j [13] 16128 (.n) (.s (.s (.n) (.n)) (.n))) (.s (.s (.n) (.s (.s (.n) (.n)) (.n))) (.s (.n) (.s (.n) (.s (.s (.n) (.s (.s (.n) (.n)) (.n))) (.s (.n) (.n)))))))
set_option maxRecDepth 100000 in
theorem c14 (arg0 arg1 : Value) (K : Value → WP) (w : World) (h : s14 Tryd.prog arg0 arg1 K w) : Runs Tryd.prog 14 [arg0, arg1] K w :=
  runs_of_E wide (fn := Tryd.f14) (c := Tryd.f14.body.getD .skip) 35 A14 [arg0, arg1] w K Tryd.func14 (by kernel_rfl) (by kernel_rfl) (by kernel_rfl) (by kernel_rfl)
    (Eq.mp (by kernel_rfl : s14 Tryd.prog arg0 arg1 K w = E Tryd.prog (Tryd.f14.body.getD .skip) A14 (topK Tryd.prog K Tryd.f14.results) (fun i => (([arg0, arg1] : List Value)[i]?).getD undef) w) h)
theorem ct14 {arg0 arg1 : Value} {h : Hp} {post : Hp → Value → Prop} (hg : ∀ w0, Gs w0 h h [] (s14 Tryd.prog arg0 arg1 (RetP w0 h post))) : Ct Tryd.prog 14 [arg0, arg1] h post := Ct.of (sf := s14 Tryd.prog arg0 arg1) (c14 arg0 arg1) hg
theorem in14 {arg0 arg1 : Value} {S : WP} {K : Value → WP} (hg : G S (s14 Tryd.prog arg0 arg1 K)) : G S (Do Tryd.prog (vCall (.func (.func 14) #[] ⟨[]⟩) [arg0, arg1]) K) := Gs.into (args := [arg0, arg1]) (caps := []) (sf := s14 Tryd.prog arg0 arg1) (c14 arg0 arg1) hg

/- skewer/skewerref19.Make : names 0 num, 1 exp, 2 num, 3 exp, 6 g -/
def s15 (P : Program) (arg0 arg1 : Value) (K : Value → WP) : WP :=
  Do P (V (Instr.alloc 27 true (.tuple #[]))) fun t1_4 =>
  Do P (vCall (.func (.func 32) #[] ⟨[]⟩) [arg0, arg1]) fun t2_9 =>
  Do P (V (Instr.alloc 31 true (.tuple #[]))) fun g3 =>
  Do P (U (Instr.storeAt 31 g3 t2_9)) fun t4_x =>
  Dr <|
  Qk P (V (Instr.fieldAt 31 g3 0)) fun C5 t5_10 =>
  Qk P (V (Instr.loadAt 27 t5_10)) fun C6 t6_11 =>
  Qk P (V (Instr.fieldAt 31 g3 1)) fun C7 t7_12 =>
  Qk P (V (Instr.loadAt 29 t7_12)) fun C8 t8_13 =>
  Do P (U (Instr.storeAt 27 t1_4 t6_11)) fun t9_x =>
  With C8 <|
  With C7 <|
  RetC P 27 t1_4 fun r => K (.tuple #[r, t8_13])
def A15 : Ann := .s (.n) (.s (.n) (.s (.plan [(0, 64, 1024), (1, 1024, 2048), (0, 64, 4096), (4, 4096, 8192), (3, 2064, 0), (31, 8192, 32)] (.q 0 (.q 1 (.q 2 (.q 3 (.l 4 (.q 5 .done))))))) (.n)))
set_option maxRecDepth 100000 in
theorem c15 (arg0 arg1 : Value) (K : Value → WP) (w : World) (h : s15 Tryd.prog arg0 arg1 K w) : Runs Tryd.prog 15 [arg0, arg1] K w :=
  runs_of_E wide (fn := Tryd.f15) (c := Tryd.f15.body.getD .skip) 14 A15 [arg0, arg1] w K Tryd.func15 (by kernel_rfl) (by kernel_rfl) (by kernel_rfl) (by kernel_rfl)
    (Eq.mp (by kernel_rfl : s15 Tryd.prog arg0 arg1 K w = E Tryd.prog (Tryd.f15.body.getD .skip) A15 (topK Tryd.prog K Tryd.f15.results) (fun i => (([arg0, arg1] : List Value)[i]?).getD undef) w) h)
theorem ct15 {arg0 arg1 : Value} {h : Hp} {post : Hp → Value → Prop} (hg : ∀ w0, Gs w0 h h [] (s15 Tryd.prog arg0 arg1 (RetP w0 h post))) : Ct Tryd.prog 15 [arg0, arg1] h post := Ct.of (sf := s15 Tryd.prog arg0 arg1) (c15 arg0 arg1) hg
theorem in15 {arg0 arg1 : Value} {S : WP} {K : Value → WP} (hg : G S (s15 Tryd.prog arg0 arg1 K)) : G S (Do Tryd.prog (vCall (.func (.func 15) #[] ⟨[]⟩) [arg0, arg1]) K) := Gs.into (args := [arg0, arg1]) (caps := []) (sf := s15 Tryd.prog arg0 arg1) (c15 arg0 arg1) hg

/- skewer/dyad.Valid : names 0 x, 1 x -/
def s16 (P : Program) (arg0 : Value) (K : Value → WP) : WP :=
  Do P (V (Instr.box 27 arg0)) fun x1 =>
  Do P (V (Instr.fieldAt 27 x1 1)) fun t2_3 =>
  Do P (V (Instr.loadAt 3 t2_3)) fun t3_4 =>
  Do P (V (binOp .leq 3 (.int .i64 0) t3_4)) fun t4_5 =>
  Gd t4_5 true (
   Do P (V (Instr.fieldAt 27 x1 1)) fun t5_7 =>
   Do P (V (Instr.loadAt 3 t5_7)) fun t6_8 =>
   Do P (V (binOp .leq 3 t6_8 (.int .i64 30))) fun t7_9 =>
   Gd t7_9 true (
    Do P (V (Instr.fieldAt 27 x1 0)) fun t8_12 =>
    Do P (V (Instr.loadAt 3 t8_12)) fun t9_13 =>
    Do P (V (binOp .leq 3 (.int .i64 (-1099511627776)) t9_13)) fun t10_14 =>
    Gd t10_14 true (
     Do P (V (Instr.fieldAt 27 x1 0)) fun t11_17 =>
     Do P (V (Instr.loadAt 3 t11_17)) fun t12_18 =>
     Do P (V (binOp .leq 3 t12_18 (.int .i64 1099511627776))) fun t13_19 =>
     Gd t13_19 true (
      Do P (V (Instr.fieldAt 27 x1 1)) fun t14_22 =>
      Do P (V (Instr.loadAt 3 t14_22)) fun t15_23 =>
      Do P (V (EqG .eql 3 (.tmp 23) (.const (.int .i64 0)) t15_23 (.int .i64 0))) fun t16_24 =>
      Gd t16_24 false (
       Do P (V (Instr.fieldAt 27 x1 0)) fun t17_26 =>
       Do P (V (Instr.loadAt 3 t17_26)) fun t18_27 =>
       Do P (V (binOp .and 3 t18_27 (.int .i64 1))) fun t19_28 =>
       Do P (V (EqG .eql 3 (.tmp 28) (.const (.int .i64 1)) t19_28 (.int .i64 1))) fun t20_29 =>
       K t20_29
      ) (
       K (.bool true)
      )
     ) (
      K (.bool false)
     )
    ) (
     K (.bool false)
    )
   ) (
    K (.bool false)
   )
  ) (
   K (.bool false)
  )
def A16 : Ann := .s (.n) (.s (.n) (.n))
set_option maxRecDepth 100000 in
theorem c16 (arg0 : Value) (K : Value → WP) (w : World) (h : s16 Tryd.prog arg0 K w) : Runs Tryd.prog 16 [arg0] K w :=
  runs_of_E wide (fn := Tryd.f16) (c := Tryd.f16.body.getD .skip) 32 A16 [arg0] w K Tryd.func16 (by kernel_rfl) (by kernel_rfl) (by kernel_rfl) (by kernel_rfl)
    (Eq.mp (by kernel_rfl : s16 Tryd.prog arg0 K w = E Tryd.prog (Tryd.f16.body.getD .skip) A16 (topK Tryd.prog K Tryd.f16.results) (fun i => (([arg0] : List Value)[i]?).getD undef) w) h)
theorem ct16 {arg0 : Value} {h : Hp} {post : Hp → Value → Prop} (hg : ∀ w0, Gs w0 h h [] (s16 Tryd.prog arg0 (RetP w0 h post))) : Ct Tryd.prog 16 [arg0] h post := Ct.of (sf := s16 Tryd.prog arg0) (c16 arg0) hg
theorem in16 {arg0 : Value} {S : WP} {K : Value → WP} (hg : G S (s16 Tryd.prog arg0 K)) : G S (Do Tryd.prog (vCall (.func (.func 16) #[] ⟨[]⟩) [arg0]) K) := Gs.into (args := [arg0]) (caps := []) (sf := s16 Tryd.prog arg0) (c16 arg0) hg

/- skewer/skewerlaw19.frac : names 0 num, 1 exp, 2 num, 3 exp -/
def s17 (P : Program) (arg0 arg1 : Value) (K : Value → WP) : WP :=
  Do P (V (Instr.alloc 27 true (.tuple #[]))) fun t1_4 =>
  Do P (vBuild 27 [(0, arg0), (1, arg1)]) fun t2_7 =>
  Do P (U (Instr.storeAt 27 t1_4 t2_7)) fun t3_x =>
  RetC P 27 t1_4 K
def A17 : Ann := .s (.n) (.s (.n) (.n))
set_option maxRecDepth 100000 in
theorem c17 (arg0 arg1 : Value) (K : Value → WP) (w : World) (h : s17 Tryd.prog arg0 arg1 K w) : Runs Tryd.prog 17 [arg0, arg1] K w :=
  runs_of_E wide (fn := Tryd.f17) (c := Tryd.f17.body.getD .skip) 8 A17 [arg0, arg1] w K Tryd.func17 (by kernel_rfl) (by kernel_rfl) (by kernel_rfl) (by kernel_rfl)
    (Eq.mp (by kernel_rfl : s17 Tryd.prog arg0 arg1 K w = E Tryd.prog (Tryd.f17.body.getD .skip) A17 (topK Tryd.prog K Tryd.f17.results) (fun i => (([arg0, arg1] : List Value)[i]?).getD undef) w) h)
theorem ct17 {arg0 arg1 : Value} {h : Hp} {post : Hp → Value → Prop} (hg : ∀ w0, Gs w0 h h [] (s17 Tryd.prog arg0 arg1 (RetP w0 h post))) : Ct Tryd.prog 17 [arg0, arg1] h post := Ct.of (sf := s17 Tryd.prog arg0 arg1) (c17 arg0 arg1) hg
theorem in17 {arg0 arg1 : Value} {S : WP} {K : Value → WP} (hg : G S (s17 Tryd.prog arg0 arg1 K)) : G S (Do Tryd.prog (vCall (.func (.func 17) #[] ⟨[]⟩) [arg0, arg1]) K) := Gs.into (args := [arg0, arg1]) (caps := []) (sf := s17 Tryd.prog arg0 arg1) (c17 arg0 arg1) hg

/- skewer/skewerref19.Valid : names 0 x, 1 x -/
def s18 (P : Program) (arg0 : Value) (K : Value → WP) : WP :=
  Do P (V (Instr.box 27 arg0)) fun x1 =>
  Jn (α := Value) (fun j2 => Jk fun _ => -- t20
   If j2 (
    K (.bool false)
   ) (
    Do P (V (Instr.fieldAt 27 x1 1)) fun t3_21 =>
    Do P (V (Instr.loadAt 3 t3_21)) fun t4_22 =>
    Do P (V (EqG .eql 3 (.tmp 22) (.const (.int .i64 0)) t4_22 (.int .i64 0))) fun t5_23 =>
    Gd t5_23 false (
     Do P (V (Instr.fieldAt 27 x1 0)) fun t6_25 =>
     Do P (V (Instr.loadAt 3 t6_25)) fun t7_26 =>
     Do P (V (binOp .rem 3 t7_26 (.int .i64 2))) fun t8_27 =>
     Do P (V (EqG .neq 3 (.tmp 27) (.const (.int .i64 0)) t8_27 (.int .i64 0))) fun t9_28 =>
     K t9_28
    ) (
     K (.bool true)
    )
   )
  ) fun k2 =>
  Do P (V (Instr.fieldAt 27 x1 1)) fun t10_3 =>
  Do P (V (Instr.loadAt 3 t10_3)) fun t11_4 =>
  Do P (V (binOp .lss 3 t11_4 (.int .i64 0))) fun t12_5 =>
  Gd t12_5 false (
   Do P (V (Instr.fieldAt 27 x1 1)) fun t13_7 =>
   Do P (V (Instr.loadAt 3 t13_7)) fun t14_8 =>
   Do P (V (binOp .gtr 3 t14_8 (.int .i64 30))) fun t15_9 =>
   Gd t15_9 false (
    Do P (V (Instr.fieldAt 27 x1 0)) fun t16_12 =>
    Do P (V (Instr.loadAt 3 t16_12)) fun t17_13 =>
    Do P (V (binOp .lss 3 t17_13 (.int .i64 (-1099511627776)))) fun t18_14 =>
    Gd t18_14 false (
     Do P (V (Instr.fieldAt 27 x1 0)) fun t19_17 =>
     Do P (V (Instr.loadAt 3 t19_17)) fun t20_18 =>
     Do P (V (binOp .gtr 3 t20_18 (.int .i64 1099511627776))) fun t21_19 =>
     k2 t21_19
    ) (
     k2 (.bool true)
    )
   ) (
    k2 (.bool true)
   )
  ) (
   k2 (.bool true)
  )
def A18 : Ann := .s (.n) (.s (.j [20] 2097144 (.n) (.s (.s (.n) (.n)) (.n))) (.s (.n) (.n)))
set_option maxRecDepth 100000 in
theorem c18 (arg0 : Value) (K : Value → WP) (w : World) (h : s18 Tryd.prog arg0 K w) : Runs Tryd.prog 18 [arg0] K w :=
  runs_of_E wide (fn := Tryd.f18) (c := Tryd.f18.body.getD .skip) 30 A18 [arg0] w K Tryd.func18 (by kernel_rfl) (by kernel_rfl) (by kernel_rfl) (by kernel_rfl)
    (Eq.mp (by kernel_rfl : s18 Tryd.prog arg0 K w = E Tryd.prog (Tryd.f18.body.getD .skip) A18 (topK Tryd.prog K Tryd.f18.results) (fun i => (([arg0] : List Value)[i]?).getD undef) w) h)
theorem ct18 {arg0 : Value} {h : Hp} {post : Hp → Value → Prop} (hg : ∀ w0, Gs w0 h h [] (s18 Tryd.prog arg0 (RetP w0 h post))) : Ct Tryd.prog 18 [arg0] h post := Ct.of (sf := s18 Tryd.prog arg0) (c18 arg0) hg
theorem in18 {arg0 : Value} {S : WP} {K : Value → WP} (hg : G S (s18 Tryd.prog arg0 K)) : G S (Do Tryd.prog (vCall (.func (.func 18) #[] ⟨[]⟩) [arg0]) K) := Gs.into (args := [arg0]) (caps := []) (sf := s18 Tryd.prog arg0) (c18 arg0) hg

/- skewer/dyad.Add : names 0 a, 1 b, 2 a, 3 b, 6 floors, 7 whole, 8 rest, 9 _, 10 floor, 11 exp, 12 most -/
def s19 (P : Program) (arg0 arg1 : Value) (K : Value → WP) : WP :=
  Do P (V (Instr.box 27 arg0)) fun a1 =>
  Do P (V (Instr.box 27 arg1)) fun b2 =>
  Do P (V (Instr.alloc 27 true (.tuple #[]))) fun t3_4 =>
  Do P (V (Instr.loadAt 27 a1)) fun t4_13 =>
  Do P (V (Instr.loadAt 27 b2)) fun t5_15 =>
  Do P (vBuild 56 [(0, (.func (.func 34) #[t4_13] ⟨[]⟩)), (1, (.func (.func 34) #[t5_15] ⟨[]⟩))]) fun t6_17 =>
  Do P (V (Instr.alloc 56 true (.tuple #[]))) fun floors7 =>
  Do P (U (Instr.storeAt 56 floors7 t6_17)) fun t8_x =>
  Dr <|
  Qk P (V (Instr.loadAt 27 a1)) fun C9 t9_18 =>
  Qk P (V (Instr.loadAt 27 b2)) fun C10 t10_20 =>
  Do P (vCall (.func (.func 35) #[] ⟨[]⟩) [t9_18]) fun t11_19 =>
  With C10 <|
  Do P (vCall (.func (.func 35) #[] ⟨[]⟩) [t10_20]) fun t12_21 =>
  Qk P (V (binOp .add 3 t11_19 t12_21)) fun C13 t13_22 =>
  Do P (V (Instr.loadAt 56 floors7)) fun t14_23 =>
  Lp (α := Value × Value) (fun c15 s15 => Jk fun _ => -- whole t24
   Do P (V (binOp .lss 3 s15.2 (.int .i64 2))) fun t16_25 =>
   If t16_25 (
    Do P (V (Instr.index 56 t14_23 s15.2)) fun t17_26 =>
    Do P (vCall t17_26 [(.int .i64 0)]) fun t18_29 =>
    Do P (V (binOp .add 3 s15.1 t18_29)) fun t19_30 =>
    Do P (V (binOp .add 3 s15.2 (.int .i64 1))) fun t20_31 =>
    c15 (t19_30, t20_31)
   ) (
    Do P (V (binOp .shr 3 t13_22 (.int .u64 30))) fun t21_34 =>
    Do P (V (binOp .add 3 s15.1 t21_34)) fun t22_35 =>
    Do P (V (binOp .and 3 t13_22 (.int .i64 1073741823))) fun t23_37 =>
    Jn (α := Value) (fun j24 => Jk fun _ => -- exp
     Do P (V (binOp .shr 3 (.int .i64 1099511627776) j24)) fun t25_45 =>
     Jn (α := Value) (fun j26 => Jk fun _ => -- t55
      If j26 (
       Do P (vBuild 27 []) fun t27_56 =>
       Do P (U (Instr.storeAt 27 t3_4 t27_56)) fun t28_x =>
       RetC P 27 t3_4 fun r => K (.tuple #[r, (.int .i64 190)])
      ) (
       Dr <|
       Qk P (V (binOp .shl 3 t22_35 j24)) fun C29 t29_59 =>
       Qk P (V (binOp .sub 3 (.int .i64 30) j24)) fun C30 t30_62 =>
       Qk P (V (binOp .shr 3 t23_37 t30_62)) fun C31 t31_63 =>
       Qk P (V (binOp .add 3 t29_59 t31_63)) fun C32 t32_64 =>
       Do P (vCall (.func (.func 14) #[] ⟨[]⟩) [t32_64, j24]) fun t33_66 =>
       Qk P (V (Instr.extract t33_66 0)) fun C34 t34_67 =>
       Qk P (V (Instr.extract t33_66 1)) fun C35 t35_68 =>
       Do P (U (Instr.storeAt 27 t3_4 t34_67)) fun t36_x =>
       RetC P 27 t3_4 fun r => K (.tuple #[r, t35_68])
      )
     ) fun k26 =>
     Do P (V (binOp .gtr 3 t22_35 t25_45)) fun t37_48 =>
     Gd t37_48 false (
      Do P (V (Op.unary .neg t25_45)) fun t38_52 =>
      Do P (V (binOp .sub 3 t38_52 (.int .i64 1))) fun t39_53 =>
      Do P (V (binOp .lss 3 t22_35 t39_53)) fun t40_54 =>
      k26 t40_54
     ) (
      k26 (.bool true)
     )
    ) fun k24 =>
    Do P (V (binOp .gtr 3 t23_37 (.int .i64 0))) fun t41_39 =>
    If t41_39 (
     Do P (V (convert 3 53 t23_37)) fun t42_41 =>
     Do P (vCall (.func (.func 33) #[] ⟨[]⟩) [t42_41]) fun t43_42 =>
     Do P (V (binOp .sub 3 (.int .i64 30) t43_42)) fun t44_43 =>
     k24 t44_43
    ) (
     k24 (.int .i64 0)
    )
   )
  ) ((.int .i64 0), (.int .i64 0))
def A19 : Ann := .s (.n) (.s (.n) (.s (.plan [(0, 4, 262144), (1, 262144, 524288), (0, 8, 1048576), (6, 1048576, 2097152), (10, 2621440, 4194304), (8, 0, 128), (63, 4194304, 256)] (.q 0 (.q 2 (.l 1 (.l 3 (.q 4 (.q 5 (.q 6 .done)))))))) (.s (.s (.n) (.lp [7, 24] 4278191232 (.s (.n) (.s (.s (.n) (.n)) (.s (.s (.n) (.n)) (.n)))))) (.s (.n) (.s (.n) (.s (.n) (.j [11] 17317308139520 (.s (.n) (.s (.n) (.n))) (.s (.s (.n) (.j [55] 71987225293750272 (.n) (.s (.s (.n) (.n)) (.n)))) (.s (.plan [(0, 128, 144115188075855872), (0, 2048, 288230376151711744), (3, 432345564227567616, 576460752303423488), (0, 256, 1152921504606846976), (0, 2048, 2305843009213693952), (16, 2305843009213693952, 4611686018427387904), (40, 5764607523034234880, 9223372036854775808), (68, 9799832789158199296, 18446744073709551616), (0, 2048, 36893488147419103232), (384, 55340232221128654848, 73786976294838206464), (512, 73786976294838206464, 147573952589676412928), (512, 73786976294838206464, 295147905179352825856), (4095, 147573952589676412944, 0), (8191, 295147905179352825856, 32)] (.q 0 (.q 1 (.q 2 (.q 3 (.q 4 (.q 5 (.q 6 (.q 7 (.q 8 (.l 9 (.q 10 (.q 11 (.l 12 (.q 13 .done))))))))))))))) (.n))))))))))
set_option maxRecDepth 100000 in
theorem c19 (arg0 arg1 : Value) (K : Value → WP) (w : World) (h : s19 Tryd.prog arg0 arg1 K w) : Runs Tryd.prog 19 [arg0, arg1] K w :=
  runs_of_E wide (fn := Tryd.f19) (c := Tryd.f19.body.getD .skip) 69 A19 [arg0, arg1] w K Tryd.func19 (by kernel_rfl) (by kernel_rfl) (by kernel_rfl) (by kernel_rfl)
    (Eq.mp (by kernel_rfl : s19 Tryd.prog arg0 arg1 K w = E Tryd.prog (Tryd.f19.body.getD .skip) A19 (topK Tryd.prog K Tryd.f19.results) (fun i => (([arg0, arg1] : List Value)[i]?).getD undef) w) h)
theorem ct19 {arg0 arg1 : Value} {h : Hp} {post : Hp → Value → Prop} (hg : ∀ w0, Gs w0 h h [] (s19 Tryd.prog arg0 arg1 (RetP w0 h post))) : Ct Tryd.prog 19 [arg0, arg1] h post := Ct.of (sf := s19 Tryd.prog arg0 arg1) (c19 arg0 arg1) hg
theorem in19 {arg0 arg1 : Value} {S : WP} {K : Value → WP} (hg : G S (s19 Tryd.prog arg0 arg1 K)) : G S (Do Tryd.prog (vCall (.func (.func 19) #[] ⟨[]⟩) [arg0, arg1]) K) := Gs.into (args := [arg0, arg1]) (caps := []) (sf := s19 Tryd.prog arg0 arg1) (c19 arg0 arg1) hg

/- skewer/skewerref19.Add : names 0 a, 1 b, 2 a, 3 b, 6 g -/
def s20 (P : Program) (arg0 arg1 : Value) (K : Value → WP) : WP :=
  Do P (V (Instr.box 27 arg0)) fun a1 =>
  Do P (V (Instr.box 27 arg1)) fun b2 =>
  Do P (V (Instr.alloc 27 true (.tuple #[]))) fun t3_4 =>
  Do P (V (Instr.loadAt 27 a1)) fun t4_7 =>
  Do P (V (Instr.loadAt 27 b2)) fun t5_8 =>
  Do P (vCall (.func (.func 36) #[] ⟨[]⟩) [t4_7, t5_8]) fun t6_9 =>
  Do P (V (Instr.alloc 31 true (.tuple #[]))) fun g7 =>
  Do P (U (Instr.storeAt 31 g7 t6_9)) fun t8_x =>
  Dr <|
  Qk P (V (Instr.fieldAt 31 g7 0)) fun C9 t9_10 =>
  Qk P (V (Instr.loadAt 27 t9_10)) fun C10 t10_11 =>
  Qk P (V (Instr.fieldAt 31 g7 1)) fun C11 t11_12 =>
  Qk P (V (Instr.loadAt 29 t11_12)) fun C12 t12_13 =>
  Do P (U (Instr.storeAt 27 t3_4 t10_11)) fun t13_x =>
  With C12 <|
  With C11 <|
  RetC P 27 t3_4 fun r => K (.tuple #[r, t12_13])
def A20 : Ann := .s (.n) (.s (.n) (.s (.plan [(0, 64, 1024), (1, 1024, 2048), (0, 64, 4096), (4, 4096, 8192), (3, 2064, 0), (31, 8192, 32)] (.q 0 (.q 1 (.q 2 (.q 3 (.l 4 (.q 5 .done))))))) (.n)))
set_option maxRecDepth 100000 in
theorem c20 (arg0 arg1 : Value) (K : Value → WP) (w : World) (h : s20 Tryd.prog arg0 arg1 K w) : Runs Tryd.prog 20 [arg0, arg1] K w :=
  runs_of_E wide (fn := Tryd.f20) (c := Tryd.f20.body.getD .skip) 14 A20 [arg0, arg1] w K Tryd.func20 (by kernel_rfl) (by kernel_rfl) (by kernel_rfl) (by kernel_rfl)
    (Eq.mp (by kernel_rfl : s20 Tryd.prog arg0 arg1 K w = E Tryd.prog (Tryd.f20.body.getD .skip) A20 (topK Tryd.prog K Tryd.f20.results) (fun i => (([arg0, arg1] : List Value)[i]?).getD undef) w) h)
theorem ct20 {arg0 arg1 : Value} {h : Hp} {post : Hp → Value → Prop} (hg : ∀ w0, Gs w0 h h [] (s20 Tryd.prog arg0 arg1 (RetP w0 h post))) : Ct Tryd.prog 20 [arg0, arg1] h post := Ct.of (sf := s20 Tryd.prog arg0 arg1) (c20 arg0 arg1) hg
theorem in20 {arg0 arg1 : Value} {S : WP} {K : Value → WP} (hg : G S (s20 Tryd.prog arg0 arg1 K)) : G S (Do Tryd.prog (vCall (.func (.func 20) #[] ⟨[]⟩) [arg0, arg1]) K) := Gs.into (args := [arg0, arg1]) (caps := []) (sf := s20 Tryd.prog arg0 arg1) (c20 arg0 arg1) hg

/- skewer/dyad.Neg : names 0 x, 1 x -/
def s21 (P : Program) (arg0 : Value) (K : Value → WP) : WP :=
  Do P (V (Instr.box 27 arg0)) fun x1 =>
  Do P (V (Instr.alloc 27 true (.tuple #[]))) fun t2_2 =>
  Do P (V (Instr.fieldAt 27 x1 0)) fun t3_3 =>
  Do P (V (Instr.loadAt 3 t3_3)) fun t4_4 =>
  Do P (V (Op.unary .neg t4_4)) fun t5_5 =>
  Do P (V (Instr.fieldAt 27 x1 1)) fun t6_6 =>
  Do P (V (Instr.loadAt 3 t6_6)) fun t7_7 =>
  Do P (vBuild 27 [(0, t5_5), (1, t7_7)]) fun t8_8 =>
  Do P (U (Instr.storeAt 27 t2_2 t8_8)) fun t9_x =>
  RetC P 27 t2_2 K
def A21 : Ann := .s (.n) (.s (.n) (.n))
set_option maxRecDepth 100000 in
theorem c21 (arg0 : Value) (K : Value → WP) (w : World) (h : s21 Tryd.prog arg0 K w) : Runs Tryd.prog 21 [arg0] K w :=
  runs_of_E wide (fn := Tryd.f21) (c := Tryd.f21.body.getD .skip) 9 A21 [arg0] w K Tryd.func21 (by kernel_rfl) (by kernel_rfl) (by kernel_rfl) (by kernel_rfl)
    (Eq.mp (by kernel_rfl : s21 Tryd.prog arg0 K w = E Tryd.prog (Tryd.f21.body.getD .skip) A21 (topK Tryd.prog K Tryd.f21.results) (fun i => (([arg0] : List Value)[i]?).getD undef) w) h)
theorem ct21 {arg0 : Value} {h : Hp} {post : Hp → Value → Prop} (hg : ∀ w0, Gs w0 h h [] (s21 Tryd.prog arg0 (RetP w0 h post))) : Ct Tryd.prog 21 [arg0] h post := Ct.of (sf := s21 Tryd.prog arg0) (c21 arg0) hg
theorem in21 {arg0 : Value} {S : WP} {K : Value → WP} (hg : G S (s21 Tryd.prog arg0 K)) : G S (Do Tryd.prog (vCall (.func (.func 21) #[] ⟨[]⟩) [arg0]) K) := Gs.into (args := [arg0]) (caps := []) (sf := s21 Tryd.prog arg0) (c21 arg0) hg

/- skewer/skewerref19.Neg : names 0 x, 1 x -/
def s22 (P : Program) (arg0 : Value) (K : Value → WP) : WP :=
  Do P (V (Instr.box 27 arg0)) fun x1 =>
  Do P (V (Instr.alloc 27 true (.tuple #[]))) fun t2_2 =>
  Do P (V (Instr.fieldAt 27 x1 0)) fun t3_3 =>
  Do P (V (Instr.loadAt 3 t3_3)) fun t4_4 =>
  Do P (V (Op.unary .neg t4_4)) fun t5_5 =>
  Do P (V (Instr.fieldAt 27 x1 1)) fun t6_6 =>
  Do P (V (Instr.loadAt 3 t6_6)) fun t7_7 =>
  Do P (vBuild 27 [(0, t5_5), (1, t7_7)]) fun t8_8 =>
  Do P (U (Instr.storeAt 27 t2_2 t8_8)) fun t9_x =>
  RetC P 27 t2_2 K
def A22 : Ann := .s (.n) (.s (.n) (.n))
set_option maxRecDepth 100000 in
theorem c22 (arg0 : Value) (K : Value → WP) (w : World) (h : s22 Tryd.prog arg0 K w) : Runs Tryd.prog 22 [arg0] K w :=
  runs_of_E wide (fn := Tryd.f22) (c := Tryd.f22.body.getD .skip) 9 A22 [arg0] w K Tryd.func22 (by kernel_rfl) (by kernel_rfl) (by kernel_rfl) (by kernel_rfl)
    (Eq.mp (by kernel_rfl : s22 Tryd.prog arg0 K w = E Tryd.prog (Tryd.f22.body.getD .skip) A22 (topK Tryd.prog K Tryd.f22.results) (fun i => (([arg0] : List Value)[i]?).getD undef) w) h)
theorem ct22 {arg0 : Value} {h : Hp} {post : Hp → Value → Prop} (hg : ∀ w0, Gs w0 h h [] (s22 Tryd.prog arg0 (RetP w0 h post))) : Ct Tryd.prog 22 [arg0] h post := Ct.of (sf := s22 Tryd.prog arg0) (c22 arg0) hg
theorem in22 {arg0 : Value} {S : WP} {K : Value → WP} (hg : G S (s22 Tryd.prog arg0 K)) : G S (Do Tryd.prog (vCall (.func (.func 22) #[] ⟨[]⟩) [arg0]) K) := Gs.into (args := [arg0]) (caps := []) (sf := s22 Tryd.prog arg0) (c22 arg0) hg

/- skewer/dyad.Compare : names 0 a, 1 b, 2 a, 3 b, 5 x, 6 y -/
def s23 (P : Program) (arg0 arg1 : Value) (K : Value → WP) : WP :=
  Do P (V (Instr.box 27 arg0)) fun a1 =>
  Do P (V (Instr.box 27 arg1)) fun b2 =>
  Jn (α := Value × Value) (fun j3 => Jk fun _ => -- x y
   Dr <|
   Qk P (V (Instr.loadAt 55 j3.1)) fun C4 t4_9 =>
   Qk P (V (Instr.loadAt 55 j3.2)) fun C5 t5_11 =>
   Qk P (V (Instr.loadAt 55 j3.1)) fun C6 t6_14 =>
   Qk P (V (Instr.loadAt 55 j3.2)) fun C7 t7_16 =>
   Do P (vCall (.func (.func 34) #[] ⟨[]⟩) [t4_9, (.int .i64 0)]) fun t8_10 =>
   With C7 <|
   With C6 <|
   With C5 <|
   Do P (vCall (.func (.func 34) #[] ⟨[]⟩) [t5_11, (.int .i64 0)]) fun t9_12 =>
   With C7 <|
   With C6 <|
   Do P (vCall (.func (.func 38) #[] ⟨[]⟩) [t8_10, t9_12]) fun t10_13 =>
   With C7 <|
   With C6 <|
   Do P (vCall (.func (.func 35) #[] ⟨[]⟩) [t6_14]) fun t11_15 =>
   With C7 <|
   Do P (vCall (.func (.func 35) #[] ⟨[]⟩) [t7_16]) fun t12_17 =>
   Do P (vCall (.func (.func 38) #[] ⟨[]⟩) [t11_15, t12_17]) fun t13_18 =>
   Do P (vBuildSlice 76 2 [(0, t10_13), (1, t13_18)]) fun t14_19 =>
   Do P (vCall (.func (.func 37) #[] ⟨[]⟩) [t14_19]) fun t15_20 =>
   K t15_20
  ) fun k3 =>
  Dr <|
  Qk P (V (Instr.loadAt 27 a1)) fun C16 t16_7 =>
  Qk P (V (Instr.loadAt 27 b2)) fun C17 t17_8 =>
  Or2 (
   Do P (V (Instr.alloc 55 true (.tuple #[]))) fun x18 =>
   With C17 <|
   With C16 <|
   Do P (V (Instr.alloc 55 true (.tuple #[]))) fun y19 =>
   With C17 <|
   With C16 <|
   Do P (U (Instr.storeAt 55 x18 t16_7)) fun t20_x =>
   With C17 <|
   Do P (U (Instr.storeAt 55 y19 t17_8)) fun t21_x =>
   k3 (x18, y19)
  ) (
   Do P (V (Instr.alloc 55 true (.tuple #[]))) fun y22 =>
   With C17 <|
   With C16 <|
   Do P (V (Instr.alloc 55 true (.tuple #[]))) fun x23 =>
   With C17 <|
   With C16 <|
   Do P (U (Instr.storeAt 55 x23 t16_7)) fun t24_x =>
   With C17 <|
   Do P (U (Instr.storeAt 55 y22 t17_8)) fun t25_x =>
   k3 (x23, y22)
  )
def A23 : Ann := .s (.n) (.j [5, 6] 480 (.plan [(0, 4, 128), (0, 8, 256), (0, 0, 32), (0, 0, 64), (13, 160, 0), (31, 320, 0)] (.q 0 (.q 1 (.or (.l 2 (.l 3 (.l 4 (.l 5 .done)))) (.l 3 (.l 2 (.l 4 (.l 5 .done)))))))) (.s (.plan [(0, 32, 512), (1, 512, 1024), (0, 64, 2048), (6, 2048, 4096), (10, 5120, 8192), (0, 32, 16384), (48, 16384, 32768), (0, 64, 65536), (192, 65536, 131072), (320, 163840, 262144), (528, 270336, 524288), (1536, 524288, 1048576), (4095, 1048576, 16)] (.q 0 (.q 2 (.q 5 (.q 7 (.l 1 (.l 3 (.l 4 (.l 6 (.l 8 (.l 9 (.l 10 (.l 11 (.q 12 .done)))))))))))))) (.n)))
set_option maxRecDepth 100000 in
theorem c23 (arg0 arg1 : Value) (K : Value → WP) (w : World) (h : s23 Tryd.prog arg0 arg1 K w) : Runs Tryd.prog 23 [arg0, arg1] K w :=
  runs_of_E wide (fn := Tryd.f23) (c := Tryd.f23.body.getD .skip) 21 A23 [arg0, arg1] w K Tryd.func23 (by kernel_rfl) (by kernel_rfl) (by kernel_rfl) (by kernel_rfl)
    (Eq.mp (by kernel_rfl : s23 Tryd.prog arg0 arg1 K w = E Tryd.prog (Tryd.f23.body.getD .skip) A23 (topK Tryd.prog K Tryd.f23.results) (fun i => (([arg0, arg1] : List Value)[i]?).getD undef) w) h)
theorem ct23 {arg0 arg1 : Value} {h : Hp} {post : Hp → Value → Prop} (hg : ∀ w0, Gs w0 h h [] (s23 Tryd.prog arg0 arg1 (RetP w0 h post))) : Ct Tryd.prog 23 [arg0, arg1] h post := Ct.of (sf := s23 Tryd.prog arg0 arg1) (c23 arg0 arg1) hg
theorem in23 {arg0 arg1 : Value} {S : WP} {K : Value → WP} (hg : G S (s23 Tryd.prog arg0 arg1 K)) : G S (Do Tryd.prog (vCall (.func (.func 23) #[] ⟨[]⟩) [arg0, arg1]) K) := Gs.into (args := [arg0, arg1]) (caps := []) (sf := s23 Tryd.prog arg0 arg1) (c23 arg0 arg1) hg

/- skewer/skewerref19.Compare : names 0 a, 1 b, 2 a, 3 b, 5 u, 6 r, 7 v, 8 s -/
def s24 (P : Program) (arg0 arg1 : Value) (K : Value → WP) : WP :=
  Do P (V (Instr.box 27 arg0)) fun a1 =>
  Do P (V (Instr.box 27 arg1)) fun b2 =>
  Do P (V (Instr.loadAt 27 a1)) fun t3_10 =>
  Do P (vCall (.func (.func 39) #[] ⟨[]⟩) [t3_10]) fun t4_11 =>
  Do P (V (Instr.extract t4_11 0)) fun t5_12 =>
  Do P (V (Instr.extract t4_11 1)) fun t6_13 =>
  Do P (V (Instr.loadAt 27 b2)) fun t7_15 =>
  Do P (vCall (.func (.func 39) #[] ⟨[]⟩) [t7_15]) fun t8_16 =>
  Do P (V (Instr.extract t8_16 0)) fun t9_17 =>
  Do P (V (Instr.extract t8_16 1)) fun t10_18 =>
  Jn (α := Value) (fun j11 => Jk fun _ => -- t31
   If j11 (
    K (.int .i64 (-1))
   ) (
    Jn (α := Value) (fun j12 => Jk fun _ => -- t39
     If j12 (
      K (.int .i64 1)
     ) (
      K (.int .i64 0)
     )
    ) fun k12 =>
    Do P (V (binOp .gtr 3 t5_12 t9_17)) fun t13_34 =>
    Gd t13_34 false (
     Do P (V (binOp .gtr 3 t6_13 t10_18)) fun t14_38 =>
     k12 t14_38
    ) (
     k12 (.bool true)
    )
   )
  ) fun k11 =>
  Do P (V (binOp .lss 3 t5_12 t9_17)) fun t15_21 =>
  Gd t15_21 false (
   Do P (V (EqG .eql 3 (.tmp 23) (.tmp 24) t5_12 t9_17)) fun t16_25 =>
   Gd t16_25 true (
    Do P (V (binOp .lss 3 t6_13 t10_18)) fun t17_29 =>
    k11 t17_29
   ) (
    k11 (.bool false)
   )
  ) (
   k11 (.bool true)
  )
def A24 : Ann := .s (.n) (.s (.n) (.s (.n) (.s (.j [31] 4294443008 (.n) (.s (.s (.n) (.n)) (.n))) (.s (.j [39] 1095216660480 (.n) (.s (.s (.n) (.n)) (.n))) (.s (.n) (.n))))))
set_option maxRecDepth 100000 in
theorem c24 (arg0 arg1 : Value) (K : Value → WP) (w : World) (h : s24 Tryd.prog arg0 arg1 K w) : Runs Tryd.prog 24 [arg0, arg1] K w :=
  runs_of_E wide (fn := Tryd.f24) (c := Tryd.f24.body.getD .skip) 40 A24 [arg0, arg1] w K Tryd.func24 (by kernel_rfl) (by kernel_rfl) (by kernel_rfl) (by kernel_rfl)
    (Eq.mp (by kernel_rfl : s24 Tryd.prog arg0 arg1 K w = E Tryd.prog (Tryd.f24.body.getD .skip) A24 (topK Tryd.prog K Tryd.f24.results) (fun i => (([arg0, arg1] : List Value)[i]?).getD undef) w) h)
theorem ct24 {arg0 arg1 : Value} {h : Hp} {post : Hp → Value → Prop} (hg : ∀ w0, Gs w0 h h [] (s24 Tryd.prog arg0 arg1 (RetP w0 h post))) : Ct Tryd.prog 24 [arg0, arg1] h post := Ct.of (sf := s24 Tryd.prog arg0 arg1) (c24 arg0 arg1) hg
theorem in24 {arg0 arg1 : Value} {S : WP} {K : Value → WP} (hg : G S (s24 Tryd.prog arg0 arg1 K)) : G S (Do Tryd.prog (vCall (.func (.func 24) #[] ⟨[]⟩) [arg0, arg1]) K) := Gs.into (args := [arg0, arg1]) (caps := []) (sf := s24 Tryd.prog arg0 arg1) (c24 arg0 arg1) hg

/- skewer/dyad.Between : names 0 a, 1 b, 2 a, 3 b, 6 out, 7 found, 8 exp, 9 low, 10 high, 11 _, 12 n, 13 x -/
def s25 (P : Program) (arg0 arg1 : Value) (K : Value → WP) : WP :=
  Do P (V (Instr.box 27 arg0)) fun a1 =>
  Do P (V (Instr.box 27 arg1)) fun b2 =>
  Do P (V (Instr.alloc 27 true (.tuple #[]))) fun t3_4 =>
  Do P (V (Instr.alloc 27 true (.tuple #[]))) fun out4 =>
  Jn (α := Value) (fun j5 => Jk fun _ => -- found
   Do P (V (Op.unary .not j5)) fun t6_70 =>
   If t6_70 (
    Do P (vBuild 27 []) fun t7_71 =>
    Do P (U (Instr.storeAt 27 t3_4 t7_71)) fun t8_x =>
    RetC P 27 t3_4 fun r => K (.tuple #[r, (.int .i64 190)])
   ) (
    Do P (V (Instr.loadAt 27 out4)) fun t9_72 =>
    Do P (U (Instr.storeAt 27 t3_4 t9_72)) fun t10_x =>
    RetC P 27 t3_4 fun r => K (.tuple #[r, (.int .i64 0)])
   )
  ) fun k5 =>
  Lp (α := Value × Value) (fun c11 s11 => Jk fun _ => -- found t14
   Do P (V (binOp .lss 3 s11.2 (.int .i64 31))) fun t12_15 =>
   If t12_15 (
    Jn (α := Value) (fun j13 => Jk fun _ => -- found
     Do P (V (binOp .add 3 s11.2 (.int .i64 1))) fun t14_68 =>
     c11 (j13, t14_68)
    ) fun k13 =>
    Do P (V (Instr.loadAt 27 a1)) fun t15_17 =>
    Do P (vCall (.func (.func 34) #[] ⟨[]⟩) [t15_17, s11.2]) fun t16_19 =>
    Do P (V (binOp .add 3 t16_19 (.int .i64 1))) fun t17_20 =>
    Do P (vBuiltin .max #[3, 3] 3 [t17_20, (.int .i64 (-1099511627776))]) fun t18_21 =>
    Do P (V (Instr.loadAt 27 b2)) fun t19_22 =>
    Do P (vCall (.func (.func 21) #[] ⟨[]⟩) [t19_22]) fun t20_23 =>
    Do P (vCall (.func (.func 34) #[] ⟨[]⟩) [t20_23, s11.2]) fun t21_25 =>
    Do P (V (Op.unary .neg t21_25)) fun t22_26 =>
    Do P (V (binOp .sub 3 t22_26 (.int .i64 1))) fun t23_27 =>
    Do P (vBuiltin .min #[3, 3] 3 [t23_27, (.int .i64 1099511627776)]) fun t24_28 =>
    Do P (V (binOp .gtr 3 t18_21 t24_28)) fun t25_31 =>
    If t25_31 (
     k13 s11.1
    ) (
     Do P (vBuild 63 [(0, (.int .i64 0)), (1, t18_21), (2, t24_28)]) fun t26_34 =>
     Lp (α := Value × Value) (fun c27 s27 => Jk fun _ => -- found t35
      Do P (V (binOp .lss 3 s27.2 (.int .i64 3))) fun t28_36 =>
      If t28_36 (
       Jn (α := Value) (fun j29 => Jk fun _ => -- found
        Do P (V (binOp .add 3 s27.2 (.int .i64 1))) fun t30_66 =>
        c27 (j29, t30_66)
       ) fun k29 =>
       Do P (V (Instr.index 63 t26_34 s27.2)) fun t31_37 =>
       Do P (vBuild 27 [(0, t31_37), (1, s11.2)]) fun t32_40 =>
       Do P (V (Instr.alloc 27 true (.tuple #[]))) fun x33 =>
       Do P (U (Instr.storeAt 27 x33 t32_40)) fun t34_x =>
       Jn (α := Value) (fun j35 => Jk fun _ => -- t64
        If j35 (
         Do P (V (Instr.loadAt 27 x33)) fun t36_65 =>
         Do P (U (Instr.storeAt 27 out4 t36_65)) fun t37_x =>
         k29 (.bool true)
        ) (
         k29 s27.1
        )
       ) fun k35 =>
       Dr <|
       Qk P (V (binOp .leq 3 t18_21 t31_37)) fun C38 t38_43 =>
       Gd t38_43 true (
        Qk P (V (binOp .leq 3 t31_37 t24_28)) fun C39 t39_47 =>
        Gd t39_47 true (
         Qk P (V (Instr.loadAt 27 x33)) fun C40 t40_50 =>
         Do P (vCall (.func (.func 16) #[] ⟨[]⟩) [t40_50]) fun t41_51 =>
         Gd t41_51 true (
          Qk P (V (Op.unary .not s27.1)) fun C42 t42_55 =>
          Gd t42_55 false (
           Qk P (V (Instr.fieldAt 27 out4 0)) fun C43 t43_59 =>
           Qk P (V (Instr.loadAt 3 t43_59)) fun C44 t44_60 =>
           Do P (vCall (.func (.func 40) #[] ⟨[]⟩) [t31_37]) fun t45_58 =>
           With C44 <|
           With C43 <|
           Do P (vCall (.func (.func 40) #[] ⟨[]⟩) [t44_60]) fun t46_61 =>
           Qk P (V (binOp .lss 3 t45_58 t46_61)) fun C47 t47_62 =>
           k35 t47_62
          ) (
           k35 (.bool true)
          )
         ) (
          k35 (.bool false)
         )
        ) (
         k35 (.bool false)
        )
       ) (
        k35 (.bool false)
       )
      ) (
       If s27.1 (
        k5 s27.1
       ) (
        k13 s27.1
       )
      )
     ) (s11.1, (.int .i64 0))
    )
   ) (
    k5 s11.1
   )
  ) ((.bool false), (.int .i64 0))
def A25 : Ann := .s (.n) (.s (.n) (.s (.n) (.s (.n) (.j [7] 590295810358705649536 (.s (.n) (.lp [7, 14] 590295810358705649536 (.s (.n) (.s (.s (.n) (.n)) (.j [7] 295147905179352774528 (.s (.n) (.s (.n) (.s (.n) (.s (.s (.n) (.s (.n) (.n))) (.s (.s (.n) (.lp [7, 35] 147573952555316686976 (.s (.n) (.s (.s (.n) (.n)) (.j [7] 73786976157399265408 (.s (.n) (.s (.n) (.j [64] 36893485948395847680 (.plan [(0, 512, 2199023255552), (0, 4096, 4398046511104), (3, 6597069766656, 8796093022208), (4, 8796093022208, 17592186044416), (8, 17592186048512, 35184372088832), (8, 17592186045440, 70368744177664), (56, 123145302310912, 140737488355328), (72, 158329674399744, 281474976710656), (136, 281474976710656, 562949953421312), (256, 562949953429504, 1125899906842624), (768, 1688849860263936, 2251799813685248), (1280, 2814749767106560, 4503599627370496), (3072, 4503599627370496, 9007199254740992), (4096, 9007199254741120, 18014398509481984), (12288, 27021597764222976, 36028797018963968), (20480, 45035996273704960, 72057594037927936), (32768, 72057594037932032, 144115188075855872), (98304, 216172782113783808, 288230376151711744), (32768, 72057594037928000, 576460752303423488), (294912, 648518346341351424, 1152921504606846976), (688128, 1224979098644774912, 2305843009213693952), (1212416, 2666130979403333632, 4611686018427387904), (2134016, 4692750811720056832, 9223372036854775808), (4198400, 9232379236109516800, 18446744073709551616)] (.q 0 (.q 1 (.q 2 (.q 3 (.q 4 (.q 5 (.q 6 (.q 7 (.q 8 (.q 9 (.l 10 (.q 11 (.q 12 (.q 13 (.q 14 (.q 15 (.q 16 (.q 18 (.q 19 (.l 17 (.l 20 (.q 21 (.q 22 (.q 23 .done))))))))))))))))))))))))) (.s (.n) (.n))))) (.n)))))) (.s (.n) (.s (.n) (.n)))))))) (.n)))))) (.s (.s (.n) (.s (.s (.n) (.n)) (.n))) (.s (.n) (.n)))))))
set_option maxRecDepth 100000 in
theorem c25 (arg0 arg1 : Value) (K : Value → WP) (w : World) (h : s25 Tryd.prog arg0 arg1 K w) : Runs Tryd.prog 25 [arg0, arg1] K w :=
  runs_of_E wide (fn := Tryd.f25) (c := Tryd.f25.body.getD .skip) 73 A25 [arg0, arg1] w K Tryd.func25 (by kernel_rfl) (by kernel_rfl) (by kernel_rfl) (by kernel_rfl)
    (Eq.mp (by kernel_rfl : s25 Tryd.prog arg0 arg1 K w = E Tryd.prog (Tryd.f25.body.getD .skip) A25 (topK Tryd.prog K Tryd.f25.results) (fun i => (([arg0, arg1] : List Value)[i]?).getD undef) w) h)
theorem ct25 {arg0 arg1 : Value} {h : Hp} {post : Hp → Value → Prop} (hg : ∀ w0, Gs w0 h h [] (s25 Tryd.prog arg0 arg1 (RetP w0 h post))) : Ct Tryd.prog 25 [arg0, arg1] h post := Ct.of (sf := s25 Tryd.prog arg0 arg1) (c25 arg0 arg1) hg
theorem in25 {arg0 arg1 : Value} {S : WP} {K : Value → WP} (hg : G S (s25 Tryd.prog arg0 arg1 K)) : G S (Do Tryd.prog (vCall (.func (.func 25) #[] ⟨[]⟩) [arg0, arg1]) K) := Gs.into (args := [arg0, arg1]) (caps := []) (sf := s25 Tryd.prog arg0 arg1) (c25 arg0 arg1) hg

/- skewer/skewerref19.Between : names 0 a, 1 b, 2 a, 3 b, 6 g -/
def s26 (P : Program) (arg0 arg1 : Value) (K : Value → WP) : WP :=
  Do P (V (Instr.box 27 arg0)) fun a1 =>
  Do P (V (Instr.box 27 arg1)) fun b2 =>
  Do P (V (Instr.alloc 27 true (.tuple #[]))) fun t3_4 =>
  Do P (V (Instr.loadAt 27 a1)) fun t4_7 =>
  Do P (V (Instr.loadAt 27 b2)) fun t5_8 =>
  Do P (vCall (.func (.func 41) #[] ⟨[]⟩) [t4_7, t5_8]) fun t6_9 =>
  Do P (V (Instr.alloc 31 true (.tuple #[]))) fun g7 =>
  Do P (U (Instr.storeAt 31 g7 t6_9)) fun t8_x =>
  Dr <|
  Qk P (V (Instr.fieldAt 31 g7 0)) fun C9 t9_10 =>
  Qk P (V (Instr.loadAt 27 t9_10)) fun C10 t10_11 =>
  Qk P (V (Instr.fieldAt 31 g7 1)) fun C11 t11_12 =>
  Qk P (V (Instr.loadAt 29 t11_12)) fun C12 t12_13 =>
  Do P (U (Instr.storeAt 27 t3_4 t10_11)) fun t13_x =>
  With C12 <|
  With C11 <|
  RetC P 27 t3_4 fun r => K (.tuple #[r, t12_13])
def A26 : Ann := .s (.n) (.s (.n) (.s (.plan [(0, 64, 1024), (1, 1024, 2048), (0, 64, 4096), (4, 4096, 8192), (3, 2064, 0), (31, 8192, 32)] (.q 0 (.q 1 (.q 2 (.q 3 (.l 4 (.q 5 .done))))))) (.n)))
set_option maxRecDepth 100000 in
theorem c26 (arg0 arg1 : Value) (K : Value → WP) (w : World) (h : s26 Tryd.prog arg0 arg1 K w) : Runs Tryd.prog 26 [arg0, arg1] K w :=
  runs_of_E wide (fn := Tryd.f26) (c := Tryd.f26.body.getD .skip) 14 A26 [arg0, arg1] w K Tryd.func26 (by kernel_rfl) (by kernel_rfl) (by kernel_rfl) (by kernel_rfl)
    (Eq.mp (by kernel_rfl : s26 Tryd.prog arg0 arg1 K w = E Tryd.prog (Tryd.f26.body.getD .skip) A26 (topK Tryd.prog K Tryd.f26.results) (fun i => (([arg0, arg1] : List Value)[i]?).getD undef) w) h)
theorem ct26 {arg0 arg1 : Value} {h : Hp} {post : Hp → Value → Prop} (hg : ∀ w0, Gs w0 h h [] (s26 Tryd.prog arg0 arg1 (RetP w0 h post))) : Ct Tryd.prog 26 [arg0, arg1] h post := Ct.of (sf := s26 Tryd.prog arg0 arg1) (c26 arg0 arg1) hg
theorem in26 {arg0 arg1 : Value} {S : WP} {K : Value → WP} (hg : G S (s26 Tryd.prog arg0 arg1 K)) : G S (Do Tryd.prog (vCall (.func (.func 26) #[] ⟨[]⟩) [arg0, arg1]) K) := Gs.into (args := [arg0, arg1]) (caps := []) (sf := s26 Tryd.prog arg0 arg1) (c26 arg0 arg1) hg

/- skewer/dyad.Print : names 0 x, 1 x -/
def s27 (P : Program) (arg0 : Value) (K : Value → WP) : WP :=
  Do P (V (Instr.box 27 arg0)) fun x1 =>
  Do P (V (Instr.fieldAt 27 x1 1)) fun t2_3 =>
  Do P (V (Instr.loadAt 3 t2_3)) fun t3_4 =>
  Do P (V (EqG .eql 3 (.tmp 4) (.const (.int .i64 0)) t3_4 (.int .i64 0))) fun t4_5 =>
  If t4_5 (
   Do P (V (Instr.fieldAt 27 x1 0)) fun t5_6 =>
   Do P (V (Instr.loadAt 3 t5_6)) fun t6_7 =>
   Do P (vCall (.func (.func 42) #[] ⟨[]⟩) [t6_7]) fun t7_8 =>
   K t7_8
  ) (
   Dr <|
   Qk P (V (Instr.fieldAt 27 x1 0)) fun C8 t8_9 =>
   Qk P (V (Instr.loadAt 3 t8_9)) fun C9 t9_10 =>
   Qk P (V (Instr.fieldAt 27 x1 1)) fun C10 t10_13 =>
   Qk P (V (Instr.loadAt 3 t10_13)) fun C11 t11_14 =>
   Qk P (V (binOp .shl 3 (.int .i64 1) t11_14)) fun C12 t12_15 =>
   Do P (vCall (.func (.func 42) #[] ⟨[]⟩) [t9_10]) fun t13_11 =>
   With C12 <|
   With C11 <|
   With C10 <|
   Qk P (V (binOp .add 9 t13_11 (.string ⟨#[47]⟩))) fun C14 t14_12 =>
   Do P (vCall (.func (.func 42) #[] ⟨[]⟩) [t12_15]) fun t15_16 =>
   With C14 <|
   Qk P (V (binOp .add 9 t14_12 t15_16)) fun C16 t16_17 =>
   K t16_17
  )
def A27 : Ann := .s (.n) (.s (.s (.n) (.s (.s (.n) (.n)) (.n))) (.s (.plan [(0, 2, 512), (1, 512, 1024), (2, 1024, 2048), (4, 2048, 4096), (0, 2, 8192), (16, 8192, 16384), (32, 16384, 32768), (68, 32768, 65536), (136, 69632, 131072), (511, 131072, 4)] (.q 0 (.q 1 (.q 4 (.q 5 (.q 6 (.l 2 (.q 3 (.l 7 (.q 8 (.q 9 .done))))))))))) (.n)))
set_option maxRecDepth 100000 in
theorem c27 (arg0 : Value) (K : Value → WP) (w : World) (h : s27 Tryd.prog arg0 K w) : Runs Tryd.prog 27 [arg0] K w :=
  runs_of_E wide (fn := Tryd.f27) (c := Tryd.f27.body.getD .skip) 18 A27 [arg0] w K Tryd.func27 (by kernel_rfl) (by kernel_rfl) (by kernel_rfl) (by kernel_rfl)
    (Eq.mp (by kernel_rfl : s27 Tryd.prog arg0 K w = E Tryd.prog (Tryd.f27.body.getD .skip) A27 (topK Tryd.prog K Tryd.f27.results) (fun i => (([arg0] : List Value)[i]?).getD undef) w) h)
theorem ct27 {arg0 : Value} {h : Hp} {post : Hp → Value → Prop} (hg : ∀ w0, Gs w0 h h [] (s27 Tryd.prog arg0 (RetP w0 h post))) : Ct Tryd.prog 27 [arg0] h post := Ct.of (sf := s27 Tryd.prog arg0) (c27 arg0) hg
theorem in27 {arg0 : Value} {S : WP} {K : Value → WP} (hg : G S (s27 Tryd.prog arg0 K)) : G S (Do Tryd.prog (vCall (.func (.func 27) #[] ⟨[]⟩) [arg0]) K) := Gs.into (args := [arg0]) (caps := []) (sf := s27 Tryd.prog arg0) (c27 arg0) hg

/- skewer/skewerref19.Print : names 0 x, 1 x -/
def s28 (P : Program) (arg0 : Value) (K : Value → WP) : WP :=
  Do P (V (Instr.box 27 arg0)) fun x1 =>
  Do P (V (Instr.fieldAt 27 x1 1)) fun t2_3 =>
  Do P (V (Instr.loadAt 3 t2_3)) fun t3_4 =>
  Do P (V (EqG .eql 3 (.tmp 4) (.const (.int .i64 0)) t3_4 (.int .i64 0))) fun t4_5 =>
  If t4_5 (
   Do P (V (Instr.fieldAt 27 x1 0)) fun t5_6 =>
   Do P (V (Instr.loadAt 3 t5_6)) fun t6_7 =>
   Do P (vCall (.func (.func 43) #[] ⟨[]⟩) [t6_7]) fun t7_8 =>
   K t7_8
  ) (
   Dr <|
   Qk P (V (Instr.fieldAt 27 x1 0)) fun C8 t8_9 =>
   Qk P (V (Instr.loadAt 3 t8_9)) fun C9 t9_10 =>
   Qk P (V (Instr.fieldAt 27 x1 1)) fun C10 t10_13 =>
   Qk P (V (Instr.loadAt 3 t10_13)) fun C11 t11_14 =>
   Do P (vCall (.func (.func 43) #[] ⟨[]⟩) [t9_10]) fun t12_11 =>
   With C11 <|
   With C10 <|
   Qk P (V (binOp .add 9 t12_11 (.string ⟨#[47]⟩))) fun C13 t13_12 =>
   Do P (vCall (.func (.func 44) #[] ⟨[]⟩) [t11_14]) fun t14_15 =>
   With C13 <|
   Do P (vCall (.func (.func 43) #[] ⟨[]⟩) [t14_15]) fun t15_16 =>
   With C13 <|
   Qk P (V (binOp .add 9 t13_12 t15_16)) fun C16 t16_17 =>
   K t16_17
  )
def A28 : Ann := .s (.n) (.s (.s (.n) (.s (.s (.n) (.n)) (.n))) (.s (.plan [(0, 2, 512), (1, 512, 1024), (2, 1024, 2048), (4, 2048, 4096), (0, 2, 8192), (16, 8192, 16384), (36, 16384, 32768), (64, 32768, 65536), (136, 69632, 131072), (511, 131072, 4)] (.q 0 (.q 1 (.q 4 (.q 5 (.l 2 (.q 3 (.l 6 (.l 7 (.q 8 (.q 9 .done))))))))))) (.n)))
set_option maxRecDepth 100000 in
theorem c28 (arg0 : Value) (K : Value → WP) (w : World) (h : s28 Tryd.prog arg0 K w) : Runs Tryd.prog 28 [arg0] K w :=
  runs_of_E wide (fn := Tryd.f28) (c := Tryd.f28.body.getD .skip) 18 A28 [arg0] w K Tryd.func28 (by kernel_rfl) (by kernel_rfl) (by kernel_rfl) (by kernel_rfl)
    (Eq.mp (by kernel_rfl : s28 Tryd.prog arg0 K w = E Tryd.prog (Tryd.f28.body.getD .skip) A28 (topK Tryd.prog K Tryd.f28.results) (fun i => (([arg0] : List Value)[i]?).getD undef) w) h)
theorem ct28 {arg0 : Value} {h : Hp} {post : Hp → Value → Prop} (hg : ∀ w0, Gs w0 h h [] (s28 Tryd.prog arg0 (RetP w0 h post))) : Ct Tryd.prog 28 [arg0] h post := Ct.of (sf := s28 Tryd.prog arg0) (c28 arg0) hg
theorem in28 {arg0 : Value} {S : WP} {K : Value → WP} (hg : G S (s28 Tryd.prog arg0 K)) : G S (Do Tryd.prog (vCall (.func (.func 28) #[] ⟨[]⟩) [arg0]) K) := Gs.into (args := [arg0]) (caps := []) (sf := s28 Tryd.prog arg0) (c28 arg0) hg

/- skewer/dyad.Parse : names 0 s, 1 s, 4 top, 5 bottom, 6 ok, 7 num, 8 e, 9 x, 10 power, 11 f -/
def s29 (P : Program) (arg0 : Value) (K : Value → WP) : WP :=
  Do P (V (Instr.alloc 27 true (.tuple #[]))) fun t1_2 =>
  Do P (vCall (.func (.func 45) #[] ⟨[]⟩) [arg0, (.string ⟨#[47]⟩)]) fun t2_14 =>
  Do P (V (Instr.extract t2_14 0)) fun t3_15 =>
  Do P (V (Instr.extract t2_14 1)) fun t4_16 =>
  Do P (V (Instr.extract t2_14 2)) fun t5_17 =>
  Do P (vCall (.func (.func 46) #[] ⟨[]⟩) [t3_15]) fun t6_20 =>
  Do P (V (Instr.extract t6_20 0)) fun t7_21 =>
  Do P (V (Instr.extract t6_20 1)) fun t8_22 =>
  Do P (vBuild 27 [(0, t7_21)]) fun t9_24 =>
  Do P (V (Instr.alloc 27 true (.tuple #[]))) fun x10 =>
  Do P (U (Instr.storeAt 27 x10 t9_24)) fun t11_x =>
  Jn (α := Unit) (fun j12 => Jk fun _ => -- 
   Jn (α := Value) (fun j13 => Jk fun _ => -- t56
    If j13 (
     Do P (vBuild 27 []) fun t14_57 =>
     Do P (U (Instr.storeAt 27 t1_2 t14_57)) fun t15_x =>
     RetC P 27 t1_2 fun r => K (.tuple #[r, (.int .i64 3)])
    ) (
     Do P (V (Instr.loadAt 27 x10)) fun t16_58 =>
     Do P (U (Instr.storeAt 27 t1_2 t16_58)) fun t17_x =>
     RetC P 27 t1_2 fun r => K (.tuple #[r, (.int .i64 0)])
    )
   ) fun k13 =>
   Do P (V (EqG .neq 68 (.tmp 44) (.const .nilIface) t8_22 .nilIface)) fun t18_45 =>
   Gd t18_45 false (
    Do P (V (Instr.loadAt 27 x10)) fun t19_47 =>
    Do P (vCall (.func (.func 16) #[] ⟨[]⟩) [t19_47]) fun t20_48 =>
    Do P (V (Op.unary .not t20_48)) fun t21_49 =>
    Gd t21_49 false (
     Do P (V (Instr.loadAt 27 x10)) fun t22_52 =>
     Do P (vCall (.func (.func 27) #[] ⟨[]⟩) [t22_52]) fun t23_53 =>
     Do P (V (EqG .neq 9 (.tmp 53) (.tmp 54) t23_53 arg0)) fun t24_55 =>
     k13 t24_55
    ) (
     k13 (.bool true)
    )
   ) (
    k13 (.bool true)
   )
  ) fun k12 =>
  If t5_17 (
   Do P (vCall (.func (.func 46) #[] ⟨[]⟩) [t4_16]) fun t25_28 =>
   Do P (V (Instr.extract t25_28 0)) fun t26_29 =>
   Do P (V (Instr.extract t25_28 1)) fun t27_30 =>
   Jn (α := Value) (fun j28 => Jk fun _ => -- t38
    If j28 (
     Do P (vBuild 27 []) fun t29_39 =>
     Do P (U (Instr.storeAt 27 t1_2 t29_39)) fun t30_x =>
     RetC P 27 t1_2 fun r => K (.tuple #[r, (.int .i64 3)])
    ) (
     Do P (V (convert 3 53 t26_29)) fun t31_41 =>
     Do P (vCall (.func (.func 33) #[] ⟨[]⟩) [t31_41]) fun t32_42 =>
     Do P (V (Instr.fieldAt 27 x10 1)) fun t33_43 =>
     Do P (U (Instr.storeAt 3 t33_43 t32_42)) fun t34_x =>
     k12 ()
    )
   ) fun k28 =>
   Do P (V (EqG .neq 68 (.tmp 31) (.const .nilIface) t27_30 .nilIface)) fun t35_32 =>
   Gd t35_32 false (
    Do P (V (convert 3 53 t26_29)) fun t36_35 =>
    Do P (vCall (.func (.func 47) #[] ⟨[]⟩) [t36_35]) fun t37_36 =>
    Do P (V (EqG .neq 3 (.tmp 36) (.const (.int .i64 1)) t37_36 (.int .i64 1))) fun t38_37 =>
    k28 t38_37
   ) (
    k28 (.bool true)
   )
  ) (
   k12 ()
  )
def A29 : Ann := .s (.n) (.s (.n) (.s (.n) (.s (.n) (.j [] 17592152493064 (.s (.n) (.s (.s (.n) (.s (.j [38] 547608330240 (.n) (.s (.s (.n) (.n)) (.n))) (.n))) (.n))) (.s (.j [56] 144097595889811456 (.n) (.s (.s (.n) (.n)) (.n))) (.s (.n) (.n)))))))
set_option maxRecDepth 100000 in
theorem c29 (arg0 : Value) (K : Value → WP) (w : World) (h : s29 Tryd.prog arg0 K w) : Runs Tryd.prog 29 [arg0] K w :=
  runs_of_E wide (fn := Tryd.f29) (c := Tryd.f29.body.getD .skip) 59 A29 [arg0] w K Tryd.func29 (by kernel_rfl) (by kernel_rfl) (by kernel_rfl) (by kernel_rfl)
    (Eq.mp (by kernel_rfl : s29 Tryd.prog arg0 K w = E Tryd.prog (Tryd.f29.body.getD .skip) A29 (topK Tryd.prog K Tryd.f29.results) (fun i => (([arg0] : List Value)[i]?).getD undef) w) h)
theorem ct29 {arg0 : Value} {h : Hp} {post : Hp → Value → Prop} (hg : ∀ w0, Gs w0 h h [] (s29 Tryd.prog arg0 (RetP w0 h post))) : Ct Tryd.prog 29 [arg0] h post := Ct.of (sf := s29 Tryd.prog arg0) (c29 arg0) hg
theorem in29 {arg0 : Value} {S : WP} {K : Value → WP} (hg : G S (s29 Tryd.prog arg0 K)) : G S (Do Tryd.prog (vCall (.func (.func 29) #[] ⟨[]⟩) [arg0]) K) := Gs.into (args := [arg0]) (caps := []) (sf := s29 Tryd.prog arg0) (c29 arg0) hg

/- skewer/skewerref19.Parse : names 0 s, 1 s, 4 g -/
def s30 (P : Program) (arg0 : Value) (K : Value → WP) : WP :=
  Do P (V (Instr.alloc 27 true (.tuple #[]))) fun t1_2 =>
  Do P (vCall (.func (.func 48) #[] ⟨[]⟩) [arg0]) fun t2_6 =>
  Do P (V (Instr.alloc 31 true (.tuple #[]))) fun g3 =>
  Do P (U (Instr.storeAt 31 g3 t2_6)) fun t4_x =>
  Dr <|
  Qk P (V (Instr.fieldAt 31 g3 0)) fun C5 t5_7 =>
  Qk P (V (Instr.loadAt 27 t5_7)) fun C6 t6_8 =>
  Qk P (V (Instr.fieldAt 31 g3 1)) fun C7 t7_9 =>
  Qk P (V (Instr.loadAt 29 t7_9)) fun C8 t8_10 =>
  Do P (U (Instr.storeAt 27 t1_2 t6_8)) fun t9_x =>
  With C8 <|
  With C7 <|
  RetC P 27 t1_2 fun r => K (.tuple #[r, t8_10])
def A30 : Ann := .s (.n) (.s (.n) (.s (.plan [(0, 16, 128), (1, 128, 256), (0, 16, 512), (4, 512, 1024), (3, 260, 0), (31, 1024, 8)] (.q 0 (.q 1 (.q 2 (.q 3 (.l 4 (.q 5 .done))))))) (.n)))
set_option maxRecDepth 100000 in
theorem c30 (arg0 : Value) (K : Value → WP) (w : World) (h : s30 Tryd.prog arg0 K w) : Runs Tryd.prog 30 [arg0] K w :=
  runs_of_E wide (fn := Tryd.f30) (c := Tryd.f30.body.getD .skip) 11 A30 [arg0] w K Tryd.func30 (by kernel_rfl) (by kernel_rfl) (by kernel_rfl) (by kernel_rfl)
    (Eq.mp (by kernel_rfl : s30 Tryd.prog arg0 K w = E Tryd.prog (Tryd.f30.body.getD .skip) A30 (topK Tryd.prog K Tryd.f30.results) (fun i => (([arg0] : List Value)[i]?).getD undef) w) h)
theorem ct30 {arg0 : Value} {h : Hp} {post : Hp → Value → Prop} (hg : ∀ w0, Gs w0 h h [] (s30 Tryd.prog arg0 (RetP w0 h post))) : Ct Tryd.prog 30 [arg0] h post := Ct.of (sf := s30 Tryd.prog arg0) (c30 arg0) hg
theorem in30 {arg0 : Value} {S : WP} {K : Value → WP} (hg : G S (s30 Tryd.prog arg0 K)) : G S (Do Tryd.prog (vCall (.func (.func 30) #[] ⟨[]⟩) [arg0]) K) := Gs.into (args := [arg0]) (caps := []) (sf := s30 Tryd.prog arg0) (c30 arg0) hg

/- skewer/skewerlaw19.inside : names 0 x, 1 a, 2 b, 3 x, 4 a, 5 b -/
def s31 (P : Program) (arg0 arg1 arg2 : Value) (K : Value → WP) : WP :=
  Do P (V (Instr.box 27 arg0)) fun x1 =>
  Do P (V (Instr.box 27 arg1)) fun a2 =>
  Do P (V (Instr.box 27 arg2)) fun b3 =>
  Do P (V (Instr.loadAt 27 x1)) fun t4_7 =>
  Do P (vCall (.func (.func 18) #[] ⟨[]⟩) [t4_7]) fun t5_8 =>
  Gd t5_8 true (
   Do P (V (Instr.loadAt 27 a2)) fun t6_10 =>
   Do P (V (Instr.loadAt 27 x1)) fun t7_11 =>
   Do P (vCall (.func (.func 24) #[] ⟨[]⟩) [t6_10, t7_11]) fun t8_12 =>
   Do P (V (binOp .lss 3 t8_12 (.int .i64 0))) fun t9_13 =>
   Gd t9_13 true (
    Do P (V (Instr.loadAt 27 x1)) fun t10_16 =>
    Do P (V (Instr.loadAt 27 b3)) fun t11_17 =>
    Do P (vCall (.func (.func 24) #[] ⟨[]⟩) [t10_16, t11_17]) fun t12_18 =>
    Do P (V (binOp .lss 3 t12_18 (.int .i64 0))) fun t13_19 =>
    K t13_19
   ) (
    K (.bool false)
   )
  ) (
   K (.bool false)
  )
def A31 : Ann := .s (.n) (.s (.n) (.n))
set_option maxRecDepth 100000 in
theorem c31 (arg0 arg1 arg2 : Value) (K : Value → WP) (w : World) (h : s31 Tryd.prog arg0 arg1 arg2 K w) : Runs Tryd.prog 31 [arg0, arg1, arg2] K w :=
  runs_of_E wide (fn := Tryd.f31) (c := Tryd.f31.body.getD .skip) 21 A31 [arg0, arg1, arg2] w K Tryd.func31 (by kernel_rfl) (by kernel_rfl) (by kernel_rfl) (by kernel_rfl)
    (Eq.mp (by kernel_rfl : s31 Tryd.prog arg0 arg1 arg2 K w = E Tryd.prog (Tryd.f31.body.getD .skip) A31 (topK Tryd.prog K Tryd.f31.results) (fun i => (([arg0, arg1, arg2] : List Value)[i]?).getD undef) w) h)
theorem ct31 {arg0 arg1 arg2 : Value} {h : Hp} {post : Hp → Value → Prop} (hg : ∀ w0, Gs w0 h h [] (s31 Tryd.prog arg0 arg1 arg2 (RetP w0 h post))) : Ct Tryd.prog 31 [arg0, arg1, arg2] h post := Ct.of (sf := s31 Tryd.prog arg0 arg1 arg2) (c31 arg0 arg1 arg2) hg
theorem in31 {arg0 arg1 arg2 : Value} {S : WP} {K : Value → WP} (hg : G S (s31 Tryd.prog arg0 arg1 arg2 K)) : G S (Do Tryd.prog (vCall (.func (.func 31) #[] ⟨[]⟩) [arg0, arg1, arg2]) K) := Gs.into (args := [arg0, arg1, arg2]) (caps := []) (sf := s31 Tryd.prog arg0 arg1 arg2) (c31 arg0 arg1 arg2) hg

/- skewer/skewerref19.made : names 0 num, 1 exp, 2 num, 3 exp, 5 x -/
def s32 (P : Program) (arg0 arg1 : Value) (K : Value → WP) : WP :=
  Do P (V (Instr.alloc 31 true (.tuple #[]))) fun t1_4 =>
  Jn (α := Value) (fun j2 => Jk fun _ => -- t11
   If j2 (
    Do P (vBuild 31 [(1, (.int .i64 190))]) fun t3_12 =>
    Do P (U (Instr.storeAt 31 t1_4 t3_12)) fun t4_x =>
    RetC P 31 t1_4 K
   ) (
    Lp (α := Value × Value) (fun c5 s5 => Jk fun _ => -- num exp
     Jn (α := Value) (fun j6 => Jk fun _ => -- t19
      If j6 (
       Do P (V (binOp .quo 3 s5.1 (.int .i64 2))) fun t7_21 =>
       Do P (V (binOp .sub 3 s5.2 (.int .i64 1))) fun t8_23 =>
       c5 (t7_21, t8_23)
      ) (
       Do P (vBuild 27 [(0, s5.1), (1, s5.2)]) fun t9_26 =>
       Do P (V (Instr.alloc 27 true (.tuple #[]))) fun x10 =>
       Do P (U (Instr.storeAt 27 x10 t9_26)) fun t11_x =>
       Do P (V (Instr.loadAt 27 x10)) fun t12_27 =>
       Do P (vCall (.func (.func 18) #[] ⟨[]⟩) [t12_27]) fun t13_28 =>
       Do P (V (Op.unary .not t13_28)) fun t14_29 =>
       If t14_29 (
        Do P (vBuild 31 [(1, (.int .i64 190))]) fun t15_30 =>
        Do P (U (Instr.storeAt 31 t1_4 t15_30)) fun t16_x =>
        RetC P 31 t1_4 K
       ) (
        Do P (V (Instr.loadAt 27 x10)) fun t17_31 =>
        Do P (vBuild 31 [(0, t17_31)]) fun t18_32 =>
        Do P (U (Instr.storeAt 31 t1_4 t18_32)) fun t19_x =>
        RetC P 31 t1_4 K
       )
      )
     ) fun k6 =>
     Do P (V (binOp .gtr 3 s5.2 (.int .i64 0))) fun t20_14 =>
     Gd t20_14 true (
      Do P (V (binOp .rem 3 s5.1 (.int .i64 2))) fun t21_17 =>
      Do P (V (EqG .eql 3 (.tmp 17) (.const (.int .i64 0)) t21_17 (.int .i64 0))) fun t22_18 =>
      k6 t22_18
     ) (
      k6 (.bool false)
     )
    ) (arg0, arg1)
   )
  ) fun k2 =>
  Do P (V (binOp .lss 3 arg1 (.int .i64 0))) fun t23_7 =>
  Gd t23_7 false (
   Do P (V (binOp .gtr 3 arg1 (.int .i64 62))) fun t24_10 =>
   k2 t24_10
  ) (
   k2 (.bool true)
  )
def A32 : Ann := .s (.n) (.s (.j [11] 4032 (.n) (.s (.s (.n) (.n)) (.n))) (.s (.lp [0, 1] 16769027 (.s (.j [19] 1040384 (.n) (.s (.n) (.n))) (.s (.n) (.n)))) (.s (.n) (.s (.s (.n) (.s (.s (.n) (.n)) (.n))) (.s (.n) (.n))))))
set_option maxRecDepth 100000 in
theorem c32 (arg0 arg1 : Value) (K : Value → WP) (w : World) (h : s32 Tryd.prog arg0 arg1 K w) : Runs Tryd.prog 32 [arg0, arg1] K w :=
  runs_of_E wide (fn := Tryd.f32) (c := Tryd.f32.body.getD .skip) 33 A32 [arg0, arg1] w K Tryd.func32 (by kernel_rfl) (by kernel_rfl) (by kernel_rfl) (by kernel_rfl)
    (Eq.mp (by kernel_rfl : s32 Tryd.prog arg0 arg1 K w = E Tryd.prog (Tryd.f32.body.getD .skip) A32 (topK Tryd.prog K Tryd.f32.results) (fun i => (([arg0, arg1] : List Value)[i]?).getD undef) w) h)
theorem ct32 {arg0 arg1 : Value} {h : Hp} {post : Hp → Value → Prop} (hg : ∀ w0, Gs w0 h h [] (s32 Tryd.prog arg0 arg1 (RetP w0 h post))) : Ct Tryd.prog 32 [arg0, arg1] h post := Ct.of (sf := s32 Tryd.prog arg0 arg1) (c32 arg0 arg1) hg
theorem in32 {arg0 arg1 : Value} {S : WP} {K : Value → WP} (hg : G S (s32 Tryd.prog arg0 arg1 K)) : G S (Do Tryd.prog (vCall (.func (.func 32) #[] ⟨[]⟩) [arg0, arg1]) K) := Gs.into (args := [arg0, arg1]) (caps := []) (sf := s32 Tryd.prog arg0 arg1) (c32 arg0 arg1) hg

/- math/bits.TrailingZeros : names 0 x, 1 x -/
def s33 (P : Program) (arg0 : Value) (K : Value → WP) : WP :=
  If (.bool false) (
   Do P (V (convert 53 73 arg0)) fun t1_4 =>
   Do P (vCall (.func (.func 49) #[] ⟨[]⟩) [t1_4]) fun t2_5 =>
   K t2_5
  ) (
   Do P (vCall (.func (.func 50) #[] ⟨[]⟩) [arg0]) fun t3_7 =>
   K t3_7
  )
def A33 : Ann := .s (.n) (.s (.s (.s (.n) (.n)) (.n)) (.s (.n) (.n)))
set_option maxRecDepth 100000 in
theorem c33 (arg0 : Value) (K : Value → WP) (w : World) (h : s33 Tryd.prog arg0 K w) : Runs Tryd.prog 33 [arg0] K w :=
  runs_of_E wide (fn := Tryd.f33) (c := Tryd.f33.body.getD .skip) 8 A33 [arg0] w K Tryd.func33 (by kernel_rfl) (by kernel_rfl) (by kernel_rfl) (by kernel_rfl)
    (Eq.mp (by kernel_rfl : s33 Tryd.prog arg0 K w = E Tryd.prog (Tryd.f33.body.getD .skip) A33 (topK Tryd.prog K Tryd.f33.results) (fun i => (([arg0] : List Value)[i]?).getD undef) w) h)
theorem ct33 {arg0 : Value} {h : Hp} {post : Hp → Value → Prop} (hg : ∀ w0, Gs w0 h h [] (s33 Tryd.prog arg0 (RetP w0 h post))) : Ct Tryd.prog 33 [arg0] h post := Ct.of (sf := s33 Tryd.prog arg0) (c33 arg0) hg
theorem in33 {arg0 : Value} {S : WP} {K : Value → WP} (hg : G S (s33 Tryd.prog arg0 K)) : G S (Do Tryd.prog (vCall (.func (.func 33) #[] ⟨[]⟩) [arg0]) K) := Gs.into (args := [arg0]) (caps := []) (sf := s33 Tryd.prog arg0) (c33 arg0) hg

/- (skewer/dyad.number).floor : names 0 x, 1 exp, 2 x, 3 exp, 5 shift, 6 most -/
def s34 (P : Program) (arg0 arg1 : Value) (K : Value → WP) : WP :=
  Do P (V (Instr.box 55 arg0)) fun x1 =>
  Do P (V (Instr.fieldAt 55 x1 1)) fun t2_8 =>
  Do P (V (Instr.loadAt 3 t2_8)) fun t3_9 =>
  Do P (V (binOp .leq 3 arg1 t3_9)) fun t4_10 =>
  If t4_10 (
   Do P (V (Instr.fieldAt 55 x1 0)) fun t5_11 =>
   Do P (V (Instr.loadAt 3 t5_11)) fun t6_12 =>
   Do P (V (Instr.fieldAt 55 x1 1)) fun t7_13 =>
   Do P (V (Instr.loadAt 3 t7_13)) fun t8_14 =>
   Do P (V (binOp .sub 3 t8_14 arg1)) fun t9_16 =>
   Do P (V (binOp .shr 3 t6_12 t9_16)) fun t10_17 =>
   K t10_17
  ) (
   Do P (V (Instr.fieldAt 55 x1 1)) fun t11_19 =>
   Do P (V (Instr.loadAt 3 t11_19)) fun t12_20 =>
   Do P (V (binOp .sub 3 arg1 t12_20)) fun t13_21 =>
   Do P (V (binOp .shr 3 (.int .i64 1099511627776) t13_21)) fun t14_23 =>
   Do P (V (Instr.fieldAt 55 x1 0)) fun t15_25 =>
   Do P (V (Instr.loadAt 3 t15_25)) fun t16_26 =>
   Do P (V (binOp .gtr 3 t16_26 t14_23)) fun t17_28 =>
   If t17_28 (
    K (.int .i64 1099511627777)
   ) (
    Do P (V (Instr.fieldAt 55 x1 0)) fun t18_30 =>
    Do P (V (Instr.loadAt 3 t18_30)) fun t19_31 =>
    Do P (V (Op.unary .neg t14_23)) fun t20_33 =>
    Do P (V (binOp .lss 3 t19_31 t20_33)) fun t21_34 =>
    If t21_34 (
     K (.int .i64 (-1099511627778))
    ) (
     Do P (V (Instr.fieldAt 55 x1 0)) fun t22_35 =>
     Do P (V (Instr.loadAt 3 t22_35)) fun t23_36 =>
     Do P (V (binOp .shl 3 t23_36 t13_21)) fun t24_38 =>
     K t24_38
    )
   )
  )
def A34 : Ann := .s (.n) (.s (.s (.n) (.s (.s (.n) (.n)) (.n))) (.s (.n) (.s (.s (.n) (.s (.n) (.s (.s (.n) (.n)) (.s (.n) (.s (.s (.n) (.n)) (.n)))))) (.s (.n) (.n)))))
set_option maxRecDepth 100000 in
theorem c34 (arg0 arg1 : Value) (K : Value → WP) (w : World) (h : s34 Tryd.prog arg0 arg1 K w) : Runs Tryd.prog 34 [arg0, arg1] K w :=
  runs_of_E wide (fn := Tryd.f34) (c := Tryd.f34.body.getD .skip) 39 A34 [arg0, arg1] w K Tryd.func34 (by kernel_rfl) (by kernel_rfl) (by kernel_rfl) (by kernel_rfl)
    (Eq.mp (by kernel_rfl : s34 Tryd.prog arg0 arg1 K w = E Tryd.prog (Tryd.f34.body.getD .skip) A34 (topK Tryd.prog K Tryd.f34.results) (fun i => (([arg0, arg1] : List Value)[i]?).getD undef) w) h)
theorem ct34 {arg0 arg1 : Value} {h : Hp} {post : Hp → Value → Prop} (hg : ∀ w0, Gs w0 h h [] (s34 Tryd.prog arg0 arg1 (RetP w0 h post))) : Ct Tryd.prog 34 [arg0, arg1] h post := Ct.of (sf := s34 Tryd.prog arg0 arg1) (c34 arg0 arg1) hg
theorem in34 {arg0 arg1 : Value} {S : WP} {K : Value → WP} (hg : G S (s34 Tryd.prog arg0 arg1 K)) : G S (Do Tryd.prog (vCall (.func (.func 34) #[] ⟨[]⟩) [arg0, arg1]) K) := Gs.into (args := [arg0, arg1]) (caps := []) (sf := s34 Tryd.prog arg0 arg1) (c34 arg0 arg1) hg

/- (skewer/dyad.number).rest : names 0 x, 1 x -/
def s35 (P : Program) (arg0 : Value) (K : Value → WP) : WP :=
  Do P (V (Instr.box 55 arg0)) fun x1 =>
  Dr <|
  Qk P (V (Instr.fieldAt 55 x1 0)) fun C2 t2_3 =>
  Qk P (V (Instr.loadAt 3 t2_3)) fun C3 t3_4 =>
  Qk P (V (Instr.fieldAt 55 x1 1)) fun C4 t4_5 =>
  Qk P (V (Instr.loadAt 3 t4_5)) fun C5 t5_6 =>
  Qk P (V (binOp .shl 3 (.int .i64 1) t5_6)) fun C6 t6_7 =>
  Qk P (V (binOp .sub 3 t6_7 (.int .i64 1))) fun C7 t7_8 =>
  Qk P (V (binOp .and 3 t3_4 t7_8)) fun C8 t8_9 =>
  Qk P (V (Instr.fieldAt 55 x1 1)) fun C9 t9_10 =>
  Qk P (V (Instr.loadAt 3 t9_10)) fun C10 t10_11 =>
  Qk P (V (binOp .sub 3 (.int .i64 30) t10_11)) fun C11 t11_12 =>
  Qk P (V (binOp .shl 3 t8_9 t11_12)) fun C12 t12_13 =>
  K t12_13
def A35 : Ann := .s (.n) (.s (.plan [(0, 2, 8), (1, 8, 16), (0, 2, 32), (4, 32, 64), (8, 64, 128), (16, 128, 256), (34, 272, 512), (0, 2, 1024), (128, 1024, 2048), (256, 2048, 4096), (576, 4608, 8192), (2047, 8192, 4)] (.q 0 (.q 1 (.q 2 (.q 3 (.q 4 (.q 5 (.q 6 (.q 7 (.q 8 (.q 9 (.q 10 (.q 11 .done))))))))))))) (.n))
set_option maxRecDepth 100000 in
theorem c35 (arg0 : Value) (K : Value → WP) (w : World) (h : s35 Tryd.prog arg0 K w) : Runs Tryd.prog 35 [arg0] K w :=
  runs_of_E wide (fn := Tryd.f35) (c := Tryd.f35.body.getD .skip) 14 A35 [arg0] w K Tryd.func35 (by kernel_rfl) (by kernel_rfl) (by kernel_rfl) (by kernel_rfl)
    (Eq.mp (by kernel_rfl : s35 Tryd.prog arg0 K w = E Tryd.prog (Tryd.f35.body.getD .skip) A35 (topK Tryd.prog K Tryd.f35.results) (fun i => (([arg0] : List Value)[i]?).getD undef) w) h)
theorem ct35 {arg0 : Value} {h : Hp} {post : Hp → Value → Prop} (hg : ∀ w0, Gs w0 h h [] (s35 Tryd.prog arg0 (RetP w0 h post))) : Ct Tryd.prog 35 [arg0] h post := Ct.of (sf := s35 Tryd.prog arg0) (c35 arg0) hg
theorem in35 {arg0 : Value} {S : WP} {K : Value → WP} (hg : G S (s35 Tryd.prog arg0 K)) : G S (Do Tryd.prog (vCall (.func (.func 35) #[] ⟨[]⟩) [arg0]) K) := Gs.into (args := [arg0]) (caps := []) (sf := s35 Tryd.prog arg0) (c35 arg0) hg

/- skewer/skewerref19.added : names 0 a, 1 b, 2 a, 3 b, 5 u, 6 r, 7 v, 8 s, 9 w, 10 t, 11 exp -/
def s36 (P : Program) (arg0 arg1 : Value) (K : Value → WP) : WP :=
  Do P (V (Instr.box 27 arg0)) fun a1 =>
  Do P (V (Instr.box 27 arg1)) fun b2 =>
  Do P (V (Instr.alloc 31 true (.tuple #[]))) fun t3_4 =>
  Do P (V (Instr.loadAt 27 a1)) fun t4_13 =>
  Do P (vCall (.func (.func 39) #[] ⟨[]⟩) [t4_13]) fun t5_14 =>
  Do P (V (Instr.extract t5_14 0)) fun t6_15 =>
  Do P (V (Instr.extract t5_14 1)) fun t7_16 =>
  Do P (V (Instr.loadAt 27 b2)) fun t8_18 =>
  Do P (vCall (.func (.func 39) #[] ⟨[]⟩) [t8_18]) fun t9_19 =>
  Do P (V (Instr.extract t9_19 0)) fun t10_20 =>
  Do P (V (Instr.extract t9_19 1)) fun t11_21 =>
  Do P (V (binOp .add 3 t6_15 t10_20)) fun t12_24 =>
  Do P (V (binOp .add 3 t7_16 t11_21)) fun t13_27 =>
  Jn (α := Value × Value) (fun j14 => Jk fun _ => -- w t
   Lp (α := Value × Value) (fun c15 s15 => Jk fun _ => -- t exp
    Jn (α := Value) (fun j16 => Jk fun _ => -- t42
     If j16 (
      Do P (V (binOp .quo 3 s15.1 (.int .i64 2))) fun t17_44 =>
      Do P (V (binOp .sub 3 s15.2 (.int .i64 1))) fun t18_46 =>
      c15 (t17_44, t18_46)
     ) (
      Jn (α := Value) (fun j19 => Jk fun _ => -- exp
       Jn (α := Value) (fun j20 => Jk fun _ => -- t73
        If j20 (
         Do P (vBuild 31 [(1, (.int .i64 190))]) fun t21_74 =>
         Do P (U (Instr.storeAt 31 t3_4 t21_74)) fun t22_x =>
         RetC P 31 t3_4 K
        ) (
         Do P (vCall (.func (.func 44) #[] ⟨[]⟩) [j19]) fun t23_77 =>
         Do P (V (binOp .mul 3 j14.1 t23_77)) fun t24_78 =>
         Do P (V (binOp .add 3 t24_78 s15.1)) fun t25_80 =>
         Do P (vCall (.func (.func 32) #[] ⟨[]⟩) [t25_80, j19]) fun t26_82 =>
         Do P (U (Instr.storeAt 31 t3_4 t26_82)) fun t27_x =>
         RetC P 31 t3_4 K
        )
       ) fun k20 =>
       Do P (V (binOp .gtr 3 j14.1 (.int .i64 1099511627776))) fun t28_50 =>
       Gd t28_50 false (
        Do P (V (binOp .lss 3 j14.1 (.int .i64 (-1099511627777)))) fun t29_53 =>
        Gd t29_53 false (
         Do P (V (binOp .gtr 3 j19 (.int .i64 0))) fun t30_57 =>
         Gd t30_57 true (
          Do P (vCall (.func (.func 44) #[] ⟨[]⟩) [j19]) fun t31_61 =>
          Do P (V (binOp .quo 3 (.int .i64 1099511627776) t31_61)) fun t32_62 =>
          Do P (V (binOp .gtr 3 j14.1 t32_62)) fun t33_63 =>
          Gd t33_63 false (
           Do P (vCall (.func (.func 44) #[] ⟨[]⟩) [j19]) fun t34_67 =>
           Do P (V (binOp .quo 3 (.int .i64 (-1099511627776)) t34_67)) fun t35_68 =>
           Do P (V (binOp .sub 3 t35_68 (.int .i64 1))) fun t36_69 =>
           Do P (V (binOp .lss 3 j14.1 t36_69)) fun t37_70 =>
           k20 t37_70
          ) (
           k20 (.bool true)
          )
         ) (
          k20 (.bool false)
         )
        ) (
         k20 (.bool true)
        )
       ) (
        k20 (.bool true)
       )
      ) fun k19 =>
      Do P (V (EqG .eql 3 (.tmp 47) (.const (.int .i64 0)) s15.1 (.int .i64 0))) fun t38_48 =>
      If t38_48 (
       k19 (.int .i64 0)
      ) (
       k19 s15.2
      )
     )
    ) fun k16 =>
    Do P (V (binOp .gtr 3 s15.2 (.int .i64 0))) fun t39_37 =>
    Gd t39_37 true (
     Do P (V (binOp .rem 3 s15.1 (.int .i64 2))) fun t40_40 =>
     Do P (V (EqG .eql 3 (.tmp 40) (.const (.int .i64 0)) t40_40 (.int .i64 0))) fun t41_41 =>
     k16 t41_41
    ) (
     k16 (.bool false)
    )
   ) (j14.2, (.int .i64 30))
  ) fun k14 =>
  Do P (vCall (.func (.func 44) #[] ⟨[]⟩) [(.int .i64 30)]) fun t42_29 =>
  Do P (V (binOp .geq 3 t13_27 t42_29)) fun t43_30 =>
  If t43_30 (
   Do P (V (binOp .add 3 t12_24 (.int .i64 1))) fun t44_32 =>
   Do P (vCall (.func (.func 44) #[] ⟨[]⟩) [(.int .i64 30)]) fun t45_34 =>
   Do P (V (binOp .sub 3 t13_27 t45_34)) fun t46_35 =>
   k14 (t44_32, t46_35)
  ) (
   k14 (t12_24, t13_27)
  )
def A36 : Ann := .s (.n) (.s (.n) (.s (.n) (.s (.n) (.s (.n) (.j [9, 10] 68451042816 (.s (.n) (.s (.s (.n) (.n)) (.n))) (.s (.n) (.s (.lp [10, 11] 140668768881664 (.s (.j [42] 8727373545472 (.n) (.s (.n) (.n))) (.s (.n) (.n)))) (.j [11] 422212465068032 (.s (.n) (.s (.n) (.n))) (.s (.j [73] 18889465368528627433472 (.n) (.s (.s (.n) (.n)) (.n))) (.s (.n) (.n)))))))))))
set_option maxRecDepth 100000 in
theorem c36 (arg0 arg1 : Value) (K : Value → WP) (w : World) (h : s36 Tryd.prog arg0 arg1 K w) : Runs Tryd.prog 36 [arg0, arg1] K w :=
  runs_of_E wide (fn := Tryd.f36) (c := Tryd.f36.body.getD .skip) 83 A36 [arg0, arg1] w K Tryd.func36 (by kernel_rfl) (by kernel_rfl) (by kernel_rfl) (by kernel_rfl)
    (Eq.mp (by kernel_rfl : s36 Tryd.prog arg0 arg1 K w = E Tryd.prog (Tryd.f36.body.getD .skip) A36 (topK Tryd.prog K Tryd.f36.results) (fun i => (([arg0, arg1] : List Value)[i]?).getD undef) w) h)
theorem ct36 {arg0 arg1 : Value} {h : Hp} {post : Hp → Value → Prop} (hg : ∀ w0, Gs w0 h h [] (s36 Tryd.prog arg0 arg1 (RetP w0 h post))) : Ct Tryd.prog 36 [arg0, arg1] h post := Ct.of (sf := s36 Tryd.prog arg0 arg1) (c36 arg0 arg1) hg
theorem in36 {arg0 arg1 : Value} {S : WP} {K : Value → WP} (hg : G S (s36 Tryd.prog arg0 arg1 K)) : G S (Do Tryd.prog (vCall (.func (.func 36) #[] ⟨[]⟩) [arg0, arg1]) K) := Gs.into (args := [arg0, arg1]) (caps := []) (sf := s36 Tryd.prog arg0 arg1) (c36 arg0 arg1) hg

/- cmp.Or[int] : names 0 vals, 1 vals, 3 zero, 4 _, 5 val -/
def s37 (P : Program) (arg0 : Value) (K : Value → WP) : WP :=
  Do P (vBuiltin .len #[76] 3 [arg0]) fun t1_7 =>
  Lp (α := Value) (fun c2 s2 => Jk fun _ => -- t8
   Do P (V (binOp .lss 3 s2 t1_7)) fun t3_9 =>
   If t3_9 (
    Do P (V (Instr.indexAt 76 arg0 s2)) fun t4_10 =>
    Do P (V (Instr.loadAt 3 t4_10)) fun t5_11 =>
    Do P (V (EqG .neq 3 (.tmp 12) (.tmp 13) t5_11 (.int .i64 0))) fun t6_14 =>
    If t6_14 (
     K t5_11
    ) (
     Do P (V (binOp .add 3 s2 (.int .i64 1))) fun t7_16 =>
     c2 t7_16
    )
   ) (
    K (.int .i64 0)
   )
  ) (.int .i64 0)
def A37 : Ann := .s (.n) (.s (.n) (.s (.s (.n) (.lp [8] 130852 (.s (.n) (.s (.s (.n) (.n)) (.s (.s (.n) (.s (.n) (.s (.s (.n) (.n)) (.n)))) (.n)))))) (.s (.n) (.n))))
set_option maxRecDepth 100000 in
theorem c37 (arg0 : Value) (K : Value → WP) (w : World) (h : s37 Tryd.prog arg0 K w) : Runs Tryd.prog 37 [arg0] K w :=
  runs_of_E wide (fn := Tryd.f37) (c := Tryd.f37.body.getD .skip) 18 A37 [arg0] w K Tryd.func37 (by kernel_rfl) (by kernel_rfl) (by kernel_rfl) (by kernel_rfl)
    (Eq.mp (by kernel_rfl : s37 Tryd.prog arg0 K w = E Tryd.prog (Tryd.f37.body.getD .skip) A37 (topK Tryd.prog K Tryd.f37.results) (fun i => (([arg0] : List Value)[i]?).getD undef) w) h)
theorem ct37 {arg0 : Value} {h : Hp} {post : Hp → Value → Prop} (hg : ∀ w0, Gs w0 h h [] (s37 Tryd.prog arg0 (RetP w0 h post))) : Ct Tryd.prog 37 [arg0] h post := Ct.of (sf := s37 Tryd.prog arg0) (c37 arg0) hg
theorem in37 {arg0 : Value} {S : WP} {K : Value → WP} (hg : G S (s37 Tryd.prog arg0 K)) : G S (Do Tryd.prog (vCall (.func (.func 37) #[] ⟨[]⟩) [arg0]) K) := Gs.into (args := [arg0]) (caps := []) (sf := s37 Tryd.prog arg0) (c37 arg0) hg

/- cmp.Compare[int] : names 0 x, 1 y, 2 x, 3 y, 5 xNaN, 6 yNaN -/
def s38 (P : Program) (arg0 arg1 : Value) (K : Value → WP) : WP :=
  Do P (vCall (.func (.func 51) #[] ⟨[]⟩) [arg0]) fun t1_8 =>
  Do P (vCall (.func (.func 51) #[] ⟨[]⟩) [arg1]) fun t2_10 =>
  If t1_8 (
   If t2_10 (
    K (.int .i64 0)
   ) (
    K (.int .i64 (-1))
   )
  ) (
   If t2_10 (
    K (.int .i64 1)
   ) (
    Do P (V (binOp .lss 3 arg0 arg1)) fun t3_16 =>
    If t3_16 (
     K (.int .i64 (-1))
    ) (
     Do P (V (binOp .gtr 3 arg0 arg1)) fun t4_19 =>
     If t4_19 (
      K (.int .i64 1)
     ) (
      K (.int .i64 0)
     )
    )
   )
  )
def A38 : Ann := .s (.n) (.s (.n) (.s (.n) (.s (.s (.n) (.s (.s (.s (.n) (.s (.s (.n) (.n)) (.n))) (.s (.n) (.n))) (.n))) (.s (.s (.n) (.s (.s (.n) (.n)) (.n))) (.s (.s (.n) (.s (.s (.n) (.n)) (.n))) (.s (.s (.n) (.s (.s (.n) (.n)) (.n))) (.s (.n) (.n))))))))
set_option maxRecDepth 100000 in
theorem c38 (arg0 arg1 : Value) (K : Value → WP) (w : World) (h : s38 Tryd.prog arg0 arg1 K w) : Runs Tryd.prog 38 [arg0, arg1] K w :=
  runs_of_E wide (fn := Tryd.f38) (c := Tryd.f38.body.getD .skip) 20 A38 [arg0, arg1] w K Tryd.func38 (by kernel_rfl) (by kernel_rfl) (by kernel_rfl) (by kernel_rfl)
    (Eq.mp (by kernel_rfl : s38 Tryd.prog arg0 arg1 K w = E Tryd.prog (Tryd.f38.body.getD .skip) A38 (topK Tryd.prog K Tryd.f38.results) (fun i => (([arg0, arg1] : List Value)[i]?).getD undef) w) h)
theorem ct38 {arg0 arg1 : Value} {h : Hp} {post : Hp → Value → Prop} (hg : ∀ w0, Gs w0 h h [] (s38 Tryd.prog arg0 arg1 (RetP w0 h post))) : Ct Tryd.prog 38 [arg0, arg1] h post := Ct.of (sf := s38 Tryd.prog arg0 arg1) (c38 arg0 arg1) hg
theorem in38 {arg0 arg1 : Value} {S : WP} {K : Value → WP} (hg : G S (s38 Tryd.prog arg0 arg1 K)) : G S (Do Tryd.prog (vCall (.func (.func 38) #[] ⟨[]⟩) [arg0, arg1]) K) := Gs.into (args := [arg0, arg1]) (caps := []) (sf := s38 Tryd.prog arg0 arg1) (c38 arg0 arg1) hg

/- skewer/skewerref19.whole : names 0 x, 1 x, 4 p, 5 w, 6 r -/
def s39 (P : Program) (arg0 : Value) (K : Value → WP) : WP :=
  Do P (V (Instr.box 27 arg0)) fun x1 =>
  Do P (V (Instr.fieldAt 27 x1 1)) fun t2_7 =>
  Do P (V (Instr.loadAt 3 t2_7)) fun t3_8 =>
  Do P (vCall (.func (.func 44) #[] ⟨[]⟩) [t3_8]) fun t4_9 =>
  Do P (V (Instr.fieldAt 27 x1 0)) fun t5_10 =>
  Do P (V (Instr.loadAt 3 t5_10)) fun t6_11 =>
  Do P (V (binOp .quo 3 t6_11 t4_9)) fun t7_13 =>
  Do P (V (Instr.fieldAt 27 x1 0)) fun t8_14 =>
  Do P (V (Instr.loadAt 3 t8_14)) fun t9_15 =>
  Do P (V (binOp .rem 3 t9_15 t4_9)) fun t10_17 =>
  Jn (α := Value × Value) (fun j11 => Jk fun _ => -- w r
   Do P (V (Instr.fieldAt 27 x1 1)) fun t12_27 =>
   Do P (V (Instr.loadAt 3 t12_27)) fun t13_28 =>
   Do P (V (binOp .sub 3 (.int .i64 30) t13_28)) fun t14_29 =>
   Do P (vCall (.func (.func 44) #[] ⟨[]⟩) [t14_29]) fun t15_30 =>
   Do P (V (binOp .mul 3 j11.2 t15_30)) fun t16_31 =>
   K (.tuple #[j11.1, t16_31])
  ) fun k11 =>
  Do P (V (binOp .lss 3 t10_17 (.int .i64 0))) fun t17_19 =>
  If t17_19 (
   Do P (V (binOp .sub 3 t7_13 (.int .i64 1))) fun t18_21 =>
   Do P (V (binOp .add 3 t10_17 t4_9)) fun t19_24 =>
   k11 (t18_21, t19_24)
  ) (
   k11 (t7_13, t10_17)
  )
def A39 : Ann := .s (.n) (.s (.n) (.s (.n) (.s (.n) (.j [5, 6] 33292384 (.s (.n) (.s (.s (.n) (.n)) (.n))) (.s (.n) (.n))))))
set_option maxRecDepth 100000 in
theorem c39 (arg0 : Value) (K : Value → WP) (w : World) (h : s39 Tryd.prog arg0 K w) : Runs Tryd.prog 39 [arg0] K w :=
  runs_of_E wide (fn := Tryd.f39) (c := Tryd.f39.body.getD .skip) 32 A39 [arg0] w K Tryd.func39 (by kernel_rfl) (by kernel_rfl) (by kernel_rfl) (by kernel_rfl)
    (Eq.mp (by kernel_rfl : s39 Tryd.prog arg0 K w = E Tryd.prog (Tryd.f39.body.getD .skip) A39 (topK Tryd.prog K Tryd.f39.results) (fun i => (([arg0] : List Value)[i]?).getD undef) w) h)
theorem ct39 {arg0 : Value} {h : Hp} {post : Hp → Value → Prop} (hg : ∀ w0, Gs w0 h h [] (s39 Tryd.prog arg0 (RetP w0 h post))) : Ct Tryd.prog 39 [arg0] h post := Ct.of (sf := s39 Tryd.prog arg0) (c39 arg0) hg
theorem in39 {arg0 : Value} {S : WP} {K : Value → WP} (hg : G S (s39 Tryd.prog arg0 K)) : G S (Do Tryd.prog (vCall (.func (.func 39) #[] ⟨[]⟩) [arg0]) K) := Gs.into (args := [arg0]) (caps := []) (sf := s39 Tryd.prog arg0) (c39 arg0) hg

/- skewer/dyad.abs : names 0 n, 1 n -/
def s40 (P : Program) (arg0 : Value) (K : Value → WP) : WP :=
  Do P (V (Op.unary .neg arg0)) fun t1_5 =>
  Do P (vBuiltin .max #[3, 3] 3 [arg0, t1_5]) fun t2_6 =>
  K t2_6
def A40 : Ann := .s (.n) (.s (.n) (.n))
set_option maxRecDepth 100000 in
theorem c40 (arg0 : Value) (K : Value → WP) (w : World) (h : s40 Tryd.prog arg0 K w) : Runs Tryd.prog 40 [arg0] K w :=
  runs_of_E wide (fn := Tryd.f40) (c := Tryd.f40.body.getD .skip) 7 A40 [arg0] w K Tryd.func40 (by kernel_rfl) (by kernel_rfl) (by kernel_rfl) (by kernel_rfl)
    (Eq.mp (by kernel_rfl : s40 Tryd.prog arg0 K w = E Tryd.prog (Tryd.f40.body.getD .skip) A40 (topK Tryd.prog K Tryd.f40.results) (fun i => (([arg0] : List Value)[i]?).getD undef) w) h)
theorem ct40 {arg0 : Value} {h : Hp} {post : Hp → Value → Prop} (hg : ∀ w0, Gs w0 h h [] (s40 Tryd.prog arg0 (RetP w0 h post))) : Ct Tryd.prog 40 [arg0] h post := Ct.of (sf := s40 Tryd.prog arg0) (c40 arg0) hg
theorem in40 {arg0 : Value} {S : WP} {K : Value → WP} (hg : G S (s40 Tryd.prog arg0 K)) : G S (Do Tryd.prog (vCall (.func (.func 40) #[] ⟨[]⟩) [arg0]) K) := Gs.into (args := [arg0]) (caps := []) (sf := s40 Tryd.prog arg0) (c40 arg0) hg

/- skewer/skewerref19.between : names 0 a, 1 b, 2 a, 3 b, 5 exp, 6 low, 7 high, 8 n, 9 x -/
def s41 (P : Program) (arg0 arg1 : Value) (K : Value → WP) : WP :=
  Do P (V (Instr.box 27 arg0)) fun a1 =>
  Do P (V (Instr.box 27 arg1)) fun b2 =>
  Do P (V (Instr.alloc 31 true (.tuple #[]))) fun t3_4 =>
  Lp (α := Value) (fun c4 s4 => Jk fun _ => -- exp
   Do P (V (binOp .leq 3 s4 (.int .i64 30))) fun t5_11 =>
   If t5_11 (
    Jn (α := Unit) (fun j6 => Jk fun _ => -- 
     Do P (V (binOp .add 3 s4 (.int .i64 1))) fun t7_13 =>
     c4 t7_13
    ) fun k6 =>
    Do P (V (Instr.loadAt 27 a1)) fun t8_14 =>
    Do P (vCall (.func (.func 52) #[] ⟨[]⟩) [t8_14, s4]) fun t9_16 =>
    Do P (V (binOp .add 3 t9_16 (.int .i64 1))) fun t10_17 =>
    Do P (V (Instr.loadAt 27 b2)) fun t11_18 =>
    Do P (vCall (.func (.func 22) #[] ⟨[]⟩) [t11_18]) fun t12_19 =>
    Do P (vCall (.func (.func 52) #[] ⟨[]⟩) [t12_19, s4]) fun t13_21 =>
    Do P (V (Op.unary .neg t13_21)) fun t14_22 =>
    Do P (V (binOp .sub 3 t14_22 (.int .i64 1))) fun t15_23 =>
    Do P (vBuiltin .max #[3, 3] 3 [t10_17, (.int .i64 (-1099511627776))]) fun t16_25 =>
    Do P (vBuiltin .min #[3, 3] 3 [t15_23, (.int .i64 1099511627776)]) fun t17_27 =>
    Do P (V (binOp .gtr 3 t16_25 t17_27)) fun t18_30 =>
    If t18_30 (
     k6 ()
    ) (
     Jn (α := Value) (fun j19 => Jk fun _ => -- n
      Jn (α := Value) (fun j20 => Jk fun _ => -- n
       Jn (α := Value) (fun j21 => Jk fun _ => -- n
        Do P (vBuild 27 [(0, j21), (1, s4)]) fun t22_49 =>
        Do P (V (Instr.alloc 27 true (.tuple #[]))) fun x23 =>
        Do P (U (Instr.storeAt 27 x23 t22_49)) fun t24_x =>
        Jn (α := Value) (fun j25 => Jk fun _ => -- t61
         If j25 (
          Do P (V (Instr.loadAt 27 x23)) fun t26_62 =>
          Do P (vBuild 31 [(0, t26_62)]) fun t27_63 =>
          Do P (U (Instr.storeAt 31 t3_4 t27_63)) fun t28_x =>
          RetC P 31 t3_4 K
         ) (
          k6 ()
         )
        ) fun k25 =>
        Do P (V (Instr.loadAt 27 x23)) fun t29_50 =>
        Do P (vCall (.func (.func 18) #[] ⟨[]⟩) [t29_50]) fun t30_51 =>
        Gd t30_51 true (
         Do P (V (binOp .geq 3 j21 t16_25)) fun t31_55 =>
         Gd t31_55 true (
          Do P (V (binOp .leq 3 j21 t17_27)) fun t32_60 =>
          k25 t32_60
         ) (
          k25 (.bool false)
         )
        ) (
         k25 (.bool false)
        )
       ) fun k21 =>
       Jn (α := Value) (fun j33 => Jk fun _ => -- t43
        If j33 (
         Do P (vCall (.func (.func 53) #[] ⟨[]⟩) [t16_25, t17_27]) fun t34_46 =>
         k21 t34_46
        ) (
         k21 j20
        )
       ) fun k33 =>
       Do P (V (binOp .gtr 3 s4 (.int .i64 0))) fun t35_38 =>
       Gd t35_38 true (
        Do P (V (binOp .rem 3 j20 (.int .i64 2))) fun t36_41 =>
        Do P (V (EqG .eql 3 (.tmp 41) (.const (.int .i64 0)) t36_41 (.int .i64 0))) fun t37_42 =>
        k33 t37_42
       ) (
        k33 (.bool false)
       )
      ) fun k20 =>
      Do P (V (binOp .lss 3 t17_27 (.int .i64 0))) fun t38_35 =>
      If t38_35 (
       k20 t17_27
      ) (
       k20 j19
      )
     ) fun k19 =>
     Do P (V (binOp .gtr 3 t16_25 (.int .i64 0))) fun t39_32 =>
     If t39_32 (
      k19 t16_25
     ) (
      k19 (.int .i64 0)
     )
    )
   ) (
    Do P (vBuild 31 [(1, (.int .i64 190))]) fun t40_64 =>
    Do P (U (Instr.storeAt 31 t3_4 t40_64)) fun t41_x =>
    RetC P 31 t3_4 K
   )
  ) (.int .i64 0)
def A41 : Ann := .s (.n) (.s (.s (.n) (.lp [5] 18446744073709551584 (.s (.s (.n) (.s (.n) (.n))) (.j [] 18446744073709536192 (.s (.n) (.s (.n) (.s (.n) (.s (.n) (.s (.s (.n) (.s (.n) (.n))) (.s (.n) (.j [8] 15032385792 (.s (.n) (.s (.n) (.n))) (.j [8] 120259084544 (.s (.n) (.s (.n) (.n))) (.j [8] 140600049402112 (.j [43] 17454747090944 (.n) (.s (.n) (.n))) (.s (.n) (.j [61] 4610560118520545280 (.n) (.s (.s (.n) (.n)) (.n))))))))))))) (.n))))) (.s (.n) (.n)))
set_option maxRecDepth 100000 in
theorem c41 (arg0 arg1 : Value) (K : Value → WP) (w : World) (h : s41 Tryd.prog arg0 arg1 K w) : Runs Tryd.prog 41 [arg0, arg1] K w :=
  runs_of_E wide (fn := Tryd.f41) (c := Tryd.f41.body.getD .skip) 65 A41 [arg0, arg1] w K Tryd.func41 (by kernel_rfl) (by kernel_rfl) (by kernel_rfl) (by kernel_rfl)
    (Eq.mp (by kernel_rfl : s41 Tryd.prog arg0 arg1 K w = E Tryd.prog (Tryd.f41.body.getD .skip) A41 (topK Tryd.prog K Tryd.f41.results) (fun i => (([arg0, arg1] : List Value)[i]?).getD undef) w) h)
theorem ct41 {arg0 arg1 : Value} {h : Hp} {post : Hp → Value → Prop} (hg : ∀ w0, Gs w0 h h [] (s41 Tryd.prog arg0 arg1 (RetP w0 h post))) : Ct Tryd.prog 41 [arg0, arg1] h post := Ct.of (sf := s41 Tryd.prog arg0 arg1) (c41 arg0 arg1) hg
theorem in41 {arg0 arg1 : Value} {S : WP} {K : Value → WP} (hg : G S (s41 Tryd.prog arg0 arg1 K)) : G S (Do Tryd.prog (vCall (.func (.func 41) #[] ⟨[]⟩) [arg0, arg1]) K) := Gs.into (args := [arg0, arg1]) (caps := []) (sf := s41 Tryd.prog arg0 arg1) (c41 arg0 arg1) hg

/- skewer/skewerref19.decimal : names 0 n, 1 n -/
def s43 (P : Program) (arg0 : Value) (K : Value → WP) : WP :=
  Do P (V (binOp .lss 3 arg0 (.int .i64 0))) fun t1_4 =>
  If t1_4 (
   Do P (V (Op.unary .neg arg0)) fun t2_6 =>
   Do P (vCall (.func (.func 43) #[] ⟨[]⟩) [t2_6]) fun t3_7 =>
   Do P (V (binOp .add 9 (.string ⟨#[45]⟩) t3_7)) fun t4_8 =>
   K t4_8
  ) (
   Do P (V (binOp .lss 3 arg0 (.int .i64 10))) fun t5_10 =>
   If t5_10 (
    Do P (V (binOp .add 3 (.int .i64 48) arg0)) fun t6_12 =>
    Do P (V (convert 3 5 t6_12)) fun t7_13 =>
    Do P (vBuildSlice 79 1 [(0, t7_13)]) fun t8_14 =>
    Do P (V (convert 79 9 t8_14)) fun t9_15 =>
    K t9_15
   ) (
    Dr <|
    Qk P (V (binOp .quo 3 arg0 (.int .i64 10))) fun C10 t10_17 =>
    Qk P (V (binOp .rem 3 arg0 (.int .i64 10))) fun C11 t11_20 =>
    Qk P (V (binOp .add 3 (.int .i64 48) t11_20)) fun C12 t12_21 =>
    Qk P (V (convert 3 5 t12_21)) fun C13 t13_22 =>
    Or2 (
     Do P (vCall (.func (.func 43) #[] ⟨[]⟩) [t10_17]) fun t14_18 =>
     With C13 <|
     With C12 <|
     With C11 <|
     Do P (vBuildSlice 79 1 [(0, t13_22)]) fun t15_23 =>
     With C10 <|
     Do P (V (convert 79 9 t15_23)) fun t16_24 =>
     With C10 <|
     Qk P (V (binOp .add 9 t14_18 t16_24)) fun C17 t17_25 =>
     K t17_25
    ) (
     Do P (vBuildSlice 79 1 [(0, t13_22)]) fun t18_23 =>
     With C10 <|
     Or2 (
      Do P (vCall (.func (.func 43) #[] ⟨[]⟩) [t10_17]) fun t19_18 =>
      With C13 <|
      With C12 <|
      With C11 <|
      Do P (V (convert 79 9 t18_23)) fun t20_24 =>
      With C10 <|
      Qk P (V (binOp .add 9 t19_18 t20_24)) fun C21 t21_25 =>
      K t21_25
     ) (
      Do P (V (convert 79 9 t18_23)) fun t22_24 =>
      With C10 <|
      Do P (vCall (.func (.func 43) #[] ⟨[]⟩) [t10_17]) fun t23_18 =>
      With C13 <|
      With C12 <|
      With C11 <|
      Qk P (V (binOp .add 9 t23_18 t22_24)) fun C24 t24_25 =>
      K t24_25
     )
    )
   )
  )
def A43 : Ann := .s (.n) (.s (.s (.n) (.s (.s (.n) (.n)) (.n))) (.s (.s (.n) (.s (.s (.n) (.n)) (.n))) (.s (.plan [(0, 1, 65536), (1, 65536, 131072), (2, 131072, 262144), (0, 1, 524288), (8, 524288, 1048576), (16, 1048576, 2097152), (32, 2097152, 4194304), (64, 4194304, 8388608), (128, 8388608, 16777216), (260, 17039360, 33554432), (1023, 33554432, 4)] (.q 0 (.q 1 (.q 3 (.q 4 (.q 5 (.q 6 (.or (.l 2 (.l 7 (.l 8 (.q 9 (.q 10 .done))))) (.l 7 (.or (.l 2 (.l 8 (.q 9 (.q 10 .done)))) (.l 8 (.l 2 (.q 9 (.q 10 .done)))))))))))))) (.n))))
set_option maxRecDepth 100000 in
theorem c43 (arg0 : Value) (K : Value → WP) (w : World) (h : s43 Tryd.prog arg0 K w) : Runs Tryd.prog 43 [arg0] K w :=
  runs_of_E wide (fn := Tryd.f43) (c := Tryd.f43.body.getD .skip) 26 A43 [arg0] w K Tryd.func43 (by kernel_rfl) (by kernel_rfl) (by kernel_rfl) (by kernel_rfl)
    (Eq.mp (by kernel_rfl : s43 Tryd.prog arg0 K w = E Tryd.prog (Tryd.f43.body.getD .skip) A43 (topK Tryd.prog K Tryd.f43.results) (fun i => (([arg0] : List Value)[i]?).getD undef) w) h)
theorem ct43 {arg0 : Value} {h : Hp} {post : Hp → Value → Prop} (hg : ∀ w0, Gs w0 h h [] (s43 Tryd.prog arg0 (RetP w0 h post))) : Ct Tryd.prog 43 [arg0] h post := Ct.of (sf := s43 Tryd.prog arg0) (c43 arg0) hg
theorem in43 {arg0 : Value} {S : WP} {K : Value → WP} (hg : G S (s43 Tryd.prog arg0 K)) : G S (Do Tryd.prog (vCall (.func (.func 43) #[] ⟨[]⟩) [arg0]) K) := Gs.into (args := [arg0]) (caps := []) (sf := s43 Tryd.prog arg0) (c43 arg0) hg

/- skewer/skewerref19.power : names 0 n, 1 n -/
def s44 (P : Program) (arg0 : Value) (K : Value → WP) : WP :=
  Do P (V (EqG .eql 3 (.tmp 3) (.const (.int .i64 0)) arg0 (.int .i64 0))) fun t1_4 =>
  If t1_4 (
   K (.int .i64 1)
  ) (
   Do P (V (binOp .sub 3 arg0 (.int .i64 1))) fun t2_6 =>
   Do P (vCall (.func (.func 44) #[] ⟨[]⟩) [t2_6]) fun t3_7 =>
   Do P (V (binOp .mul 3 (.int .i64 2) t3_7)) fun t4_8 =>
   K t4_8
  )
def A44 : Ann := .s (.n) (.s (.s (.n) (.s (.s (.n) (.n)) (.n))) (.s (.n) (.n)))
set_option maxRecDepth 100000 in
theorem c44 (arg0 : Value) (K : Value → WP) (w : World) (h : s44 Tryd.prog arg0 K w) : Runs Tryd.prog 44 [arg0] K w :=
  runs_of_E wide (fn := Tryd.f44) (c := Tryd.f44.body.getD .skip) 9 A44 [arg0] w K Tryd.func44 (by kernel_rfl) (by kernel_rfl) (by kernel_rfl) (by kernel_rfl)
    (Eq.mp (by kernel_rfl : s44 Tryd.prog arg0 K w = E Tryd.prog (Tryd.f44.body.getD .skip) A44 (topK Tryd.prog K Tryd.f44.results) (fun i => (([arg0] : List Value)[i]?).getD undef) w) h)
theorem ct44 {arg0 : Value} {h : Hp} {post : Hp → Value → Prop} (hg : ∀ w0, Gs w0 h h [] (s44 Tryd.prog arg0 (RetP w0 h post))) : Ct Tryd.prog 44 [arg0] h post := Ct.of (sf := s44 Tryd.prog arg0) (c44 arg0) hg
theorem in44 {arg0 : Value} {S : WP} {K : Value → WP} (hg : G S (s44 Tryd.prog arg0 K)) : G S (Do Tryd.prog (vCall (.func (.func 44) #[] ⟨[]⟩) [arg0]) K) := Gs.into (args := [arg0]) (caps := []) (sf := s44 Tryd.prog arg0) (c44 arg0) hg

/- math/bits.OnesCount : names 0 x, 1 x -/
def s47 (P : Program) (arg0 : Value) (K : Value → WP) : WP :=
  If (.bool false) (
   Do P (V (convert 53 73 arg0)) fun t1_4 =>
   Do P (vCall (.func (.func 58) #[] ⟨[]⟩) [t1_4]) fun t2_5 =>
   K t2_5
  ) (
   Do P (vCall (.func (.func 59) #[] ⟨[]⟩) [arg0]) fun t3_7 =>
   K t3_7
  )
def A47 : Ann := .s (.n) (.s (.s (.s (.n) (.n)) (.n)) (.s (.n) (.n)))
set_option maxRecDepth 100000 in
theorem c47 (arg0 : Value) (K : Value → WP) (w : World) (h : s47 Tryd.prog arg0 K w) : Runs Tryd.prog 47 [arg0] K w :=
  runs_of_E wide (fn := Tryd.f47) (c := Tryd.f47.body.getD .skip) 8 A47 [arg0] w K Tryd.func47 (by kernel_rfl) (by kernel_rfl) (by kernel_rfl) (by kernel_rfl)
    (Eq.mp (by kernel_rfl : s47 Tryd.prog arg0 K w = E Tryd.prog (Tryd.f47.body.getD .skip) A47 (topK Tryd.prog K Tryd.f47.results) (fun i => (([arg0] : List Value)[i]?).getD undef) w) h)
theorem ct47 {arg0 : Value} {h : Hp} {post : Hp → Value → Prop} (hg : ∀ w0, Gs w0 h h [] (s47 Tryd.prog arg0 (RetP w0 h post))) : Ct Tryd.prog 47 [arg0] h post := Ct.of (sf := s47 Tryd.prog arg0) (c47 arg0) hg
theorem in47 {arg0 : Value} {S : WP} {K : Value → WP} (hg : G S (s47 Tryd.prog arg0 K)) : G S (Do Tryd.prog (vCall (.func (.func 47) #[] ⟨[]⟩) [arg0]) K) := Gs.into (args := [arg0]) (caps := []) (sf := s47 Tryd.prog arg0) (c47 arg0) hg

/- skewer/skewerref19.parsed : names 0 s, 1 s, 3 bad, 4 top, 5 bottom, 6 i, 7 sign, 8 n, 9 d, 10 exp, 11 x -/
def s48 (P : Program) (arg0 : Value) (K : Value → WP) : WP :=
  Do P (V (Instr.alloc 31 true (.tuple #[]))) fun t1_2 =>
  Do P (vBuild 31 [(1, (.int .i64 3))]) fun t2_12 =>
  Do P (V (Instr.alloc 31 true (.tuple #[]))) fun bad3 =>
  Do P (U (Instr.storeAt 31 bad3 t2_12)) fun t4_x =>
  Jn (α := Value × Value) (fun j5 => Jk fun _ => -- top bottom
   Jn (α := Value × Value) (fun j6 => Jk fun _ => -- top sign
    Do P (vCall (.func (.func 60) #[] ⟨[]⟩) [j6.1]) fun t7_42 =>
    Do P (vCall (.func (.func 60) #[] ⟨[]⟩) [j5.2]) fun t8_44 =>
    Jn (α := Value) (fun j9 => Jk fun _ => -- t50
     If j9 (
      Do P (V (Instr.loadAt 31 bad3)) fun t10_51 =>
      Do P (U (Instr.storeAt 31 t1_2 t10_51)) fun t11_x =>
      RetC P 31 t1_2 K
     ) (
      Lp (α := Value × Value) (fun c12 s12 => Jk fun _ => -- d exp
       Jn (α := Value) (fun j13 => Jk fun _ => -- t58
        If j13 (
         Do P (V (binOp .quo 3 s12.1 (.int .i64 2))) fun t14_60 =>
         Do P (V (binOp .add 3 s12.2 (.int .i64 1))) fun t15_62 =>
         c12 (t14_60, t15_62)
        ) (
         Do P (V (binOp .mul 3 j6.2 t7_42)) fun t16_65 =>
         Do P (vBuild 27 [(0, t16_65), (1, s12.2)]) fun t17_67 =>
         Do P (V (Instr.alloc 27 true (.tuple #[]))) fun x18 =>
         Do P (U (Instr.storeAt 27 x18 t17_67)) fun t19_x =>
         Jn (α := Value) (fun j20 => Jk fun _ => -- t76
          If j20 (
           Do P (V (Instr.loadAt 31 bad3)) fun t21_77 =>
           Do P (U (Instr.storeAt 31 t1_2 t21_77)) fun t22_x =>
           RetC P 31 t1_2 K
          ) (
           Do P (V (Instr.loadAt 27 x18)) fun t23_78 =>
           Do P (vBuild 31 [(0, t23_78)]) fun t24_79 =>
           Do P (U (Instr.storeAt 31 t1_2 t24_79)) fun t25_x =>
           RetC P 31 t1_2 K
          )
         ) fun k20 =>
         Do P (V (Instr.loadAt 27 x18)) fun t26_68 =>
         Do P (vCall (.func (.func 18) #[] ⟨[]⟩) [t26_68]) fun t27_69 =>
         Do P (V (Op.unary .not t27_69)) fun t28_70 =>
         Gd t28_70 false (
          Do P (V (Instr.loadAt 27 x18)) fun t29_72 =>
          Do P (vCall (.func (.func 28) #[] ⟨[]⟩) [t29_72]) fun t30_73 =>
          Do P (V (EqG .neq 9 (.tmp 73) (.tmp 74) t30_73 arg0)) fun t31_75 =>
          k20 t31_75
         ) (
          k20 (.bool true)
         )
        )
       ) fun k13 =>
       Do P (V (binOp .rem 3 s12.1 (.int .i64 2))) fun t32_53 =>
       Do P (V (EqG .eql 3 (.tmp 53) (.const (.int .i64 0)) t32_53 (.int .i64 0))) fun t33_54 =>
       Gd t33_54 true (
        Do P (V (binOp .leq 3 s12.2 (.int .i64 30))) fun t34_57 =>
        k13 t34_57
       ) (
        k13 (.bool false)
       )
      ) (t8_44, (.int .i64 0))
     )
    ) fun k9 =>
    Do P (V (binOp .lss 3 t7_42 (.int .i64 0))) fun t35_46 =>
    Gd t35_46 false (
     Do P (V (binOp .lss 3 t8_44 (.int .i64 1))) fun t36_49 =>
     k9 t36_49
    ) (
     k9 (.bool true)
    )
   ) fun k6 =>
   Jn (α := Value) (fun j37 => Jk fun _ => -- t38
    If j37 (
     Do P (V (Instr.sliceAt 9 j5.1 (some (.int .i64 1)) none none)) fun t38_40 =>
     k6 (t38_40, (.int .i64 (-1)))
    ) (
     k6 (j5.1, (.int .i64 1))
    )
   ) fun k37 =>
   Do P (vBuiltin .len #[9] 3 [j5.1]) fun t39_32 =>
   Do P (V (binOp .gtr 3 t39_32 (.int .i64 0))) fun t40_33 =>
   Gd t40_33 true (
    Do P (V (Instr.index 9 j5.1 (.int .i64 0))) fun t41_36 =>
    Do P (V (EqG .eql 5 (.tmp 36) (.const (.int .u8 45)) t41_36 (.int .u8 45))) fun t42_37 =>
    k37 t42_37
   ) (
    k37 (.bool false)
   )
  ) fun k5 =>
  Lp (α := Value × Value × Value) (fun c43 s43 => Jk fun _ => -- top bottom i
   Do P (vBuiltin .len #[9] 3 [arg0]) fun t44_16 =>
   Do P (V (binOp .lss 3 s43.2.2 t44_16)) fun t45_17 =>
   If t45_17 (
    Do P (V (Instr.index 9 arg0 s43.2.2)) fun t46_22 =>
    Do P (V (EqG .eql 5 (.tmp 22) (.const (.int .u8 47)) t46_22 (.int .u8 47))) fun t47_23 =>
    If t47_23 (
     Do P (V (Instr.sliceAt 9 arg0 none (some s43.2.2) none)) fun t48_26 =>
     Do P (V (binOp .add 3 s43.2.2 (.int .i64 1))) fun t49_29 =>
     Do P (V (Instr.sliceAt 9 arg0 (some t49_29) none none)) fun t50_30 =>
     k5 (t48_26, t50_30)
    ) (
     Do P (V (binOp .add 3 s43.2.2 (.int .i64 1))) fun t51_19 =>
     c43 (s43.1, s43.2.1, t51_19)
    )
   ) (
    k5 (s43.1, s43.2.1)
   )
  ) (arg0, (.string ⟨#[49]⟩), (.int .i64 0))
def A48 : Ann := .s (.n) (.s (.n) (.s (.n) (.s (.n) (.j [4, 5] 2147467376 (.s (.n) (.lp [4, 5, 6] 2147467376 (.s (.s (.n) (.s (.n) (.n))) (.s (.s (.n) (.s (.s (.n) (.s (.n) (.n))) (.n))) (.n))))) (.s (.n) (.j [4, 7] 2196875772048 (.j [38] 547608330240 (.n) (.s (.s (.n) (.n)) (.n))) (.s (.n) (.s (.n) (.s (.j [50] 2216615441596416 (.n) (.s (.s (.n) (.n)) (.n))) (.s (.n) (.s (.lp [9, 10] 9218868437227406848 (.s (.j [58] 571957152676052992 (.n) (.s (.n) (.n))) (.s (.n) (.n)))) (.s (.n) (.s (.j [76] 150820579546649294012416 (.n) (.s (.s (.n) (.n)) (.n))) (.s (.n) (.n)))))))))))))))
set_option maxRecDepth 100000 in
theorem c48 (arg0 : Value) (K : Value → WP) (w : World) (h : s48 Tryd.prog arg0 K w) : Runs Tryd.prog 48 [arg0] K w :=
  runs_of_E wide (fn := Tryd.f48) (c := Tryd.f48.body.getD .skip) 80 A48 [arg0] w K Tryd.func48 (by kernel_rfl) (by kernel_rfl) (by kernel_rfl) (by kernel_rfl)
    (Eq.mp (by kernel_rfl : s48 Tryd.prog arg0 K w = E Tryd.prog (Tryd.f48.body.getD .skip) A48 (topK Tryd.prog K Tryd.f48.results) (fun i => (([arg0] : List Value)[i]?).getD undef) w) h)
theorem ct48 {arg0 : Value} {h : Hp} {post : Hp → Value → Prop} (hg : ∀ w0, Gs w0 h h [] (s48 Tryd.prog arg0 (RetP w0 h post))) : Ct Tryd.prog 48 [arg0] h post := Ct.of (sf := s48 Tryd.prog arg0) (c48 arg0) hg
theorem in48 {arg0 : Value} {S : WP} {K : Value → WP} (hg : G S (s48 Tryd.prog arg0 K)) : G S (Do Tryd.prog (vCall (.func (.func 48) #[] ⟨[]⟩) [arg0]) K) := Gs.into (args := [arg0]) (caps := []) (sf := s48 Tryd.prog arg0) (c48 arg0) hg

/- math/bits.TrailingZeros64 : names 0 x, 1 x -/
def s50 (P : Program) (arg0 : Value) (K : Value → WP) : WP :=
  Do P (V (EqG .eql 75 (.tmp 3) (.const (.int .u64 0)) arg0 (.int .u64 0))) fun t1_4 =>
  If t1_4 (
   K (.int .i64 64)
  ) (
   Do P (V (Op.unary .neg arg0)) fun t2_7 =>
   Do P (V (binOp .and 75 arg0 t2_7)) fun t3_8 =>
   Do P (V (binOp .mul 75 t3_8 (.int .u64 285870213051353865))) fun t4_9 =>
   Do P (V (binOp .shr 75 t4_9 (.int .u64 58))) fun t5_10 =>
   Do P (V (Instr.indexAt 83 (.pointer (some ⟨1, 0, none⟩)) t5_10)) fun t6_11 =>
   Do P (V (Instr.loadAt 5 t6_11)) fun t7_12 =>
   Do P (V (convert 5 3 t7_12)) fun t8_13 =>
   K t8_13
  )
def A50 : Ann := .s (.n) (.s (.s (.n) (.s (.s (.n) (.n)) (.n))) (.s (.n) (.n)))
set_option maxRecDepth 100000 in
theorem c50 (arg0 : Value) (K : Value → WP) (w : World) (h : s50 Tryd.prog arg0 K w) : Runs Tryd.prog 50 [arg0] K w :=
  runs_of_E wide (fn := Tryd.f50) (c := Tryd.f50.body.getD .skip) 14 A50 [arg0] w K Tryd.func50 (by kernel_rfl) (by kernel_rfl) (by kernel_rfl) (by kernel_rfl)
    (Eq.mp (by kernel_rfl : s50 Tryd.prog arg0 K w = E Tryd.prog (Tryd.f50.body.getD .skip) A50 (topK Tryd.prog K Tryd.f50.results) (fun i => (([arg0] : List Value)[i]?).getD undef) w) h)
theorem ct50 {arg0 : Value} {h : Hp} {post : Hp → Value → Prop} (hg : ∀ w0, Gs w0 h h [] (s50 Tryd.prog arg0 (RetP w0 h post))) : Ct Tryd.prog 50 [arg0] h post := Ct.of (sf := s50 Tryd.prog arg0) (c50 arg0) hg
theorem in50 {arg0 : Value} {S : WP} {K : Value → WP} (hg : G S (s50 Tryd.prog arg0 K)) : G S (Do Tryd.prog (vCall (.func (.func 50) #[] ⟨[]⟩) [arg0]) K) := Gs.into (args := [arg0]) (caps := []) (sf := s50 Tryd.prog arg0) (c50 arg0) hg

/- cmp.isNaN[int] : names 0 x, 1 x -/
def s51 (P : Program) (arg0 : Value) (K : Value → WP) : WP :=
  Do P (V (EqG .neq 3 (.tmp 3) (.tmp 4) arg0 arg0)) fun t1_5 =>
  K t1_5
def A51 : Ann := .s (.n) (.s (.n) (.n))
set_option maxRecDepth 100000 in
theorem c51 (arg0 : Value) (K : Value → WP) (w : World) (h : s51 Tryd.prog arg0 K w) : Runs Tryd.prog 51 [arg0] K w :=
  runs_of_E wide (fn := Tryd.f51) (c := Tryd.f51.body.getD .skip) 6 A51 [arg0] w K Tryd.func51 (by kernel_rfl) (by kernel_rfl) (by kernel_rfl) (by kernel_rfl)
    (Eq.mp (by kernel_rfl : s51 Tryd.prog arg0 K w = E Tryd.prog (Tryd.f51.body.getD .skip) A51 (topK Tryd.prog K Tryd.f51.results) (fun i => (([arg0] : List Value)[i]?).getD undef) w) h)
theorem ct51 {arg0 : Value} {h : Hp} {post : Hp → Value → Prop} (hg : ∀ w0, Gs w0 h h [] (s51 Tryd.prog arg0 (RetP w0 h post))) : Ct Tryd.prog 51 [arg0] h post := Ct.of (sf := s51 Tryd.prog arg0) (c51 arg0) hg
theorem in51 {arg0 : Value} {S : WP} {K : Value → WP} (hg : G S (s51 Tryd.prog arg0 K)) : G S (Do Tryd.prog (vCall (.func (.func 51) #[] ⟨[]⟩) [arg0]) K) := Gs.into (args := [arg0]) (caps := []) (sf := s51 Tryd.prog arg0) (c51 arg0) hg

/- skewer/skewerref19.floor : names 0 x, 1 exp, 2 x, 3 exp, 5 w, 6 r, 7 p -/
def s52 (P : Program) (arg0 arg1 : Value) (K : Value → WP) : WP :=
  Do P (V (Instr.box 27 arg0)) fun x1 =>
  Do P (V (Instr.loadAt 27 x1)) fun t2_9 =>
  Do P (vCall (.func (.func 39) #[] ⟨[]⟩) [t2_9]) fun t3_10 =>
  Do P (V (Instr.extract t3_10 0)) fun t4_11 =>
  Do P (V (Instr.extract t3_10 1)) fun t5_12 =>
  Do P (vCall (.func (.func 44) #[] ⟨[]⟩) [arg1]) fun t6_14 =>
  Do P (V (binOp .quo 3 (.int .i64 1099511627776) t6_14)) fun t7_17 =>
  Do P (V (binOp .add 3 t7_17 (.int .i64 1))) fun t8_18 =>
  Do P (V (binOp .gtr 3 t4_11 t8_18)) fun t9_19 =>
  If t9_19 (
   K (.int .i64 1099511627777)
  ) (
   Do P (V (binOp .quo 3 (.int .i64 (-1099511627776)) t6_14)) fun t10_22 =>
   Do P (V (binOp .sub 3 t10_22 (.int .i64 2))) fun t11_23 =>
   Do P (V (binOp .lss 3 t4_11 t11_23)) fun t12_24 =>
   If t12_24 (
    K (.int .i64 (-1099511627778))
   ) (
    Do P (V (binOp .mul 3 t4_11 t6_14)) fun t13_27 =>
    Do P (V (binOp .sub 3 (.int .i64 30) arg1)) fun t14_30 =>
    Do P (vCall (.func (.func 44) #[] ⟨[]⟩) [t14_30]) fun t15_31 =>
    Do P (V (binOp .quo 3 t5_12 t15_31)) fun t16_32 =>
    Do P (V (binOp .add 3 t13_27 t16_32)) fun t17_33 =>
    K t17_33
   )
  )
def A52 : Ann := .s (.n) (.s (.n) (.s (.n) (.s (.s (.n) (.s (.s (.n) (.n)) (.n))) (.s (.s (.n) (.s (.s (.n) (.n)) (.n))) (.s (.n) (.n))))))
set_option maxRecDepth 100000 in
theorem c52 (arg0 arg1 : Value) (K : Value → WP) (w : World) (h : s52 Tryd.prog arg0 arg1 K w) : Runs Tryd.prog 52 [arg0, arg1] K w :=
  runs_of_E wide (fn := Tryd.f52) (c := Tryd.f52.body.getD .skip) 34 A52 [arg0, arg1] w K Tryd.func52 (by kernel_rfl) (by kernel_rfl) (by kernel_rfl) (by kernel_rfl)
    (Eq.mp (by kernel_rfl : s52 Tryd.prog arg0 arg1 K w = E Tryd.prog (Tryd.f52.body.getD .skip) A52 (topK Tryd.prog K Tryd.f52.results) (fun i => (([arg0, arg1] : List Value)[i]?).getD undef) w) h)
theorem ct52 {arg0 arg1 : Value} {h : Hp} {post : Hp → Value → Prop} (hg : ∀ w0, Gs w0 h h [] (s52 Tryd.prog arg0 arg1 (RetP w0 h post))) : Ct Tryd.prog 52 [arg0, arg1] h post := Ct.of (sf := s52 Tryd.prog arg0 arg1) (c52 arg0 arg1) hg
theorem in52 {arg0 arg1 : Value} {S : WP} {K : Value → WP} (hg : G S (s52 Tryd.prog arg0 arg1 K)) : G S (Do Tryd.prog (vCall (.func (.func 52) #[] ⟨[]⟩) [arg0, arg1]) K) := Gs.into (args := [arg0, arg1]) (caps := []) (sf := s52 Tryd.prog arg0 arg1) (c52 arg0 arg1) hg

/- skewer/skewerref19.odd : names 0 low, 1 high, 2 low, 3 high -/
def s53 (P : Program) (arg0 arg1 : Value) (K : Value → WP) : WP :=
  Jn (α := Value) (fun j1 => Jk fun _ => -- t10
   If j1 (
    K (.int .i64 1)
   ) (
    Jn (α := Value) (fun j2 => Jk fun _ => -- t16
     If j2 (
      K (.int .i64 (-1))
     ) (
      Jn (α := Value) (fun j3 => Jk fun _ => -- t23
       If j3 (
        K arg0
       ) (
        Jn (α := Value) (fun j4 => Jk fun _ => -- t31
         If j4 (
          Do P (V (binOp .add 3 arg0 (.int .i64 1))) fun t5_33 =>
          K t5_33
         ) (
          Jn (α := Value) (fun j6 => Jk fun _ => -- t40
           If j6 (
            K arg1
           ) (
            Jn (α := Value) (fun j7 => Jk fun _ => -- t48
             If j7 (
              Do P (V (binOp .sub 3 arg1 (.int .i64 1))) fun t8_50 =>
              K t8_50
             ) (
              K (.int .i64 0)
             )
            ) fun k7 =>
            Do P (V (binOp .lss 3 arg1 (.int .i64 0))) fun t9_43 =>
            Gd t9_43 true (
             Do P (V (binOp .lss 3 arg0 arg1)) fun t10_47 =>
             k7 t10_47
            ) (
             k7 (.bool false)
            )
           )
          ) fun k6 =>
          Do P (V (binOp .lss 3 arg1 (.int .i64 0))) fun t11_35 =>
          Gd t11_35 true (
           Do P (V (binOp .rem 3 arg1 (.int .i64 2))) fun t12_38 =>
           Do P (V (EqG .neq 3 (.tmp 38) (.const (.int .i64 0)) t12_38 (.int .i64 0))) fun t13_39 =>
           k6 t13_39
          ) (
           k6 (.bool false)
          )
         )
        ) fun k4 =>
        Do P (V (binOp .gtr 3 arg0 (.int .i64 0))) fun t14_26 =>
        Gd t14_26 true (
         Do P (V (binOp .lss 3 arg0 arg1)) fun t15_30 =>
         k4 t15_30
        ) (
         k4 (.bool false)
        )
       )
      ) fun k3 =>
      Do P (V (binOp .gtr 3 arg0 (.int .i64 0))) fun t16_18 =>
      Gd t16_18 true (
       Do P (V (binOp .rem 3 arg0 (.int .i64 2))) fun t17_21 =>
       Do P (V (EqG .neq 3 (.tmp 21) (.const (.int .i64 0)) t17_21 (.int .i64 0))) fun t18_22 =>
       k3 t18_22
      ) (
       k3 (.bool false)
      )
     )
    ) fun k2 =>
    Do P (V (binOp .leq 3 arg0 (.int .i64 (-1)))) fun t19_12 =>
    Gd t19_12 true (
     Do P (V (binOp .geq 3 arg1 (.int .i64 (-1)))) fun t20_15 =>
     k2 t20_15
    ) (
     k2 (.bool false)
    )
   )
  ) fun k1 =>
  Do P (V (binOp .leq 3 arg0 (.int .i64 1))) fun t21_6 =>
  Gd t21_6 true (
   Do P (V (binOp .geq 3 arg1 (.int .i64 1))) fun t22_9 =>
   k1 t22_9
  ) (
   k1 (.bool false)
  )
def A53 : Ann := .s (.n) (.s (.j [10] 2016 (.n) (.s (.s (.n) (.n)) (.n))) (.s (.j [16] 129024 (.n) (.s (.s (.n) (.n)) (.n))) (.s (.j [23] 16646144 (.n) (.s (.s (.n) (.n)) (.n))) (.s (.j [31] 4261412864 (.n) (.s (.s (.n) (.n)) (.n))) (.s (.j [40] 2181843386368 (.n) (.s (.s (.n) (.n)) (.n))) (.s (.j [48] 558551906910208 (.n) (.s (.s (.n) (.n)) (.n))) (.s (.n) (.n))))))))
set_option maxRecDepth 100000 in
theorem c53 (arg0 arg1 : Value) (K : Value → WP) (w : World) (h : s53 Tryd.prog arg0 arg1 K w) : Runs Tryd.prog 53 [arg0, arg1] K w :=
  runs_of_E wide (fn := Tryd.f53) (c := Tryd.f53.body.getD .skip) 51 A53 [arg0, arg1] w K Tryd.func53 (by kernel_rfl) (by kernel_rfl) (by kernel_rfl) (by kernel_rfl)
    (Eq.mp (by kernel_rfl : s53 Tryd.prog arg0 arg1 K w = E Tryd.prog (Tryd.f53.body.getD .skip) A53 (topK Tryd.prog K Tryd.f53.results) (fun i => (([arg0, arg1] : List Value)[i]?).getD undef) w) h)
theorem ct53 {arg0 arg1 : Value} {h : Hp} {post : Hp → Value → Prop} (hg : ∀ w0, Gs w0 h h [] (s53 Tryd.prog arg0 arg1 (RetP w0 h post))) : Ct Tryd.prog 53 [arg0, arg1] h post := Ct.of (sf := s53 Tryd.prog arg0 arg1) (c53 arg0 arg1) hg
theorem in53 {arg0 arg1 : Value} {S : WP} {K : Value → WP} (hg : G S (s53 Tryd.prog arg0 arg1 K)) : G S (Do Tryd.prog (vCall (.func (.func 53) #[] ⟨[]⟩) [arg0, arg1]) K) := Gs.into (args := [arg0, arg1]) (caps := []) (sf := s53 Tryd.prog arg0 arg1) (c53 arg0 arg1) hg

/- math/bits.OnesCount64 : names 0 x, 1 x -/
def s59 (P : Program) (arg0 : Value) (K : Value → WP) : WP :=
  Do P (V (binOp .shr 75 arg0 (.int .u64 1))) fun t1_4 =>
  Do P (V (binOp .and 75 t1_4 (.int .u64 6148914691236517205))) fun t2_5 =>
  Do P (V (binOp .and 75 arg0 (.int .u64 6148914691236517205))) fun t3_7 =>
  Do P (V (binOp .add 75 t2_5 t3_7)) fun t4_8 =>
  Do P (V (binOp .shr 75 t4_8 (.int .u64 2))) fun t5_10 =>
  Do P (V (binOp .and 75 t5_10 (.int .u64 3689348814741910323))) fun t6_11 =>
  Do P (V (binOp .and 75 t4_8 (.int .u64 3689348814741910323))) fun t7_13 =>
  Do P (V (binOp .add 75 t6_11 t7_13)) fun t8_14 =>
  Do P (V (binOp .shr 75 t8_14 (.int .u64 4))) fun t9_16 =>
  Do P (V (binOp .add 75 t9_16 t8_14)) fun t10_18 =>
  Do P (V (binOp .and 75 t10_18 (.int .u64 1085102592571150095))) fun t11_19 =>
  Do P (V (binOp .shr 75 t11_19 (.int .u64 8))) fun t12_22 =>
  Do P (V (binOp .add 75 t11_19 t12_22)) fun t13_23 =>
  Do P (V (binOp .shr 75 t13_23 (.int .u64 16))) fun t14_26 =>
  Do P (V (binOp .add 75 t13_23 t14_26)) fun t15_27 =>
  Do P (V (binOp .shr 75 t15_27 (.int .u64 32))) fun t16_30 =>
  Do P (V (binOp .add 75 t15_27 t16_30)) fun t17_31 =>
  Do P (V (convert 75 3 t17_31)) fun t18_33 =>
  Do P (V (binOp .and 3 t18_33 (.int .i64 127))) fun t19_34 =>
  K t19_34
def A59 : Ann := .s (.n) (.s (.n) (.s (.n) (.s (.n) (.s (.n) (.s (.n) (.s (.n) (.s (.n) (.n))))))))
set_option maxRecDepth 100000 in
theorem c59 (arg0 : Value) (K : Value → WP) (w : World) (h : s59 Tryd.prog arg0 K w) : Runs Tryd.prog 59 [arg0] K w :=
  runs_of_E wide (fn := Tryd.f59) (c := Tryd.f59.body.getD .skip) 35 A59 [arg0] w K Tryd.func59 (by kernel_rfl) (by kernel_rfl) (by kernel_rfl) (by kernel_rfl)
    (Eq.mp (by kernel_rfl : s59 Tryd.prog arg0 K w = E Tryd.prog (Tryd.f59.body.getD .skip) A59 (topK Tryd.prog K Tryd.f59.results) (fun i => (([arg0] : List Value)[i]?).getD undef) w) h)
theorem ct59 {arg0 : Value} {h : Hp} {post : Hp → Value → Prop} (hg : ∀ w0, Gs w0 h h [] (s59 Tryd.prog arg0 (RetP w0 h post))) : Ct Tryd.prog 59 [arg0] h post := Ct.of (sf := s59 Tryd.prog arg0) (c59 arg0) hg
theorem in59 {arg0 : Value} {S : WP} {K : Value → WP} (hg : G S (s59 Tryd.prog arg0 K)) : G S (Do Tryd.prog (vCall (.func (.func 59) #[] ⟨[]⟩) [arg0]) K) := Gs.into (args := [arg0]) (caps := []) (sf := s59 Tryd.prog arg0) (c59 arg0) hg

/- skewer/skewerref19.read : names 0 s, 1 s, 3 n, 4 i -/
def s60 (P : Program) (arg0 : Value) (K : Value → WP) : WP :=
  Jn (α := Value) (fun j1 => Jk fun _ => -- t12
   If j1 (
    K (.int .i64 (-1))
   ) (
    Lp (α := Value × Value) (fun c2 s2 => Jk fun _ => -- n i
     Do P (vBuiltin .len #[9] 3 [arg0]) fun t3_15 =>
     Do P (V (binOp .lss 3 s2.2 t3_15)) fun t4_16 =>
     If t4_16 (
      Jn (α := Value) (fun j5 => Jk fun _ => -- t28
       If j5 (
        K (.int .i64 (-1))
       ) (
        Do P (V (binOp .mul 3 (.int .i64 10) s2.1)) fun t6_30 =>
        Do P (V (Instr.index 9 arg0 s2.2)) fun t7_33 =>
        Do P (V (binOp .sub 5 t7_33 (.int .u8 48))) fun t8_34 =>
        Do P (V (convert 5 3 t8_34)) fun t9_35 =>
        Do P (V (binOp .add 3 t6_30 t9_35)) fun t10_36 =>
        Do P (V (binOp .add 3 s2.2 (.int .i64 1))) fun t11_18 =>
        c2 (t10_36, t11_18)
       )
      ) fun k5 =>
      Do P (V (Instr.index 9 arg0 s2.2)) fun t12_21 =>
      Do P (V (binOp .lss 5 t12_21 (.int .u8 48))) fun t13_22 =>
      Gd t13_22 false (
       Do P (V (Instr.index 9 arg0 s2.2)) fun t14_26 =>
       Do P (V (binOp .gtr 5 t14_26 (.int .u8 57))) fun t15_27 =>
       k5 t15_27
      ) (
       k5 (.bool true)
      )
     ) (
      K s2.1
     )
    ) ((.int .i64 0), (.int .i64 0))
   )
  ) fun k1 =>
  Do P (vBuiltin .len #[9] 3 [arg0]) fun t16_6 =>
  Do P (V (EqG .eql 3 (.tmp 6) (.const (.int .i64 0)) t16_6 (.int .i64 0))) fun t17_7 =>
  Gd t17_7 false (
   Do P (vBuiltin .len #[9] 3 [arg0]) fun t18_10 =>
   Do P (V (binOp .gtr 3 t18_10 (.int .i64 15))) fun t19_11 =>
   k1 t19_11
  ) (
   k1 (.bool true)
  )
def A60 : Ann := .s (.n) (.s (.j [12] 8160 (.n) (.s (.s (.n) (.n)) (.n))) (.s (.n) (.s (.s (.n) (.lp [3, 4] 137438945308 (.s (.s (.n) (.s (.n) (.n))) (.s (.s (.j [28] 536346624 (.n) (.s (.s (.n) (.n)) (.n))) (.n)) (.n))))) (.s (.n) (.n)))))
set_option maxRecDepth 100000 in
theorem c60 (arg0 : Value) (K : Value → WP) (w : World) (h : s60 Tryd.prog arg0 K w) : Runs Tryd.prog 60 [arg0] K w :=
  runs_of_E wide (fn := Tryd.f60) (c := Tryd.f60.body.getD .skip) 38 A60 [arg0] w K Tryd.func60 (by kernel_rfl) (by kernel_rfl) (by kernel_rfl) (by kernel_rfl)
    (Eq.mp (by kernel_rfl : s60 Tryd.prog arg0 K w = E Tryd.prog (Tryd.f60.body.getD .skip) A60 (topK Tryd.prog K Tryd.f60.results) (fun i => (([arg0] : List Value)[i]?).getD undef) w) h)
theorem ct60 {arg0 : Value} {h : Hp} {post : Hp → Value → Prop} (hg : ∀ w0, Gs w0 h h [] (s60 Tryd.prog arg0 (RetP w0 h post))) : Ct Tryd.prog 60 [arg0] h post := Ct.of (sf := s60 Tryd.prog arg0) (c60 arg0) hg
theorem in60 {arg0 : Value} {S : WP} {K : Value → WP} (hg : G S (s60 Tryd.prog arg0 K)) : G S (Do Tryd.prog (vCall (.func (.func 60) #[] ⟨[]⟩) [arg0]) K) := Gs.into (args := [arg0]) (caps := []) (sf := s60 Tryd.prog arg0) (c60 arg0) hg

end Go.Proofs.YtcapijkioaocmaaDoor
