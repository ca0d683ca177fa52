/-
  The shallow forms of functions of the program, printed by a program of the prover; and what the types are.
-/
import Derived.Test.YtlljhipmnkdpeaaGreatDoorKf
import Derived.Test.YtlljhipmnkdpeaaGreatDoorProg
set_option linter.unusedVariables false
set_option maxRecDepth 100000
namespace Go.Proofs.YtlljhipmnkdpeaaGreatDoor
open Go Go.Sk

theorem wide : Tryz.prog.follows .mixedOrders = true := by kernel_rfl
instance g3 : IsGo Tryz.prog 3 := ⟨by kernel_rfl⟩
instance g4 : IsGo Tryz.prog 4 := ⟨by kernel_rfl⟩
instance g5 : IsGo Tryz.prog 5 := ⟨by kernel_rfl⟩
instance g6 : IsGo Tryz.prog 6 := ⟨by kernel_rfl⟩
instance g7 : IsGo Tryz.prog 7 := ⟨by kernel_rfl⟩
instance g8 : IsGo Tryz.prog 8 := ⟨by kernel_rfl⟩
instance g9 : IsGo Tryz.prog 9 := ⟨by kernel_rfl⟩
instance g10 : IsGo Tryz.prog 10 := ⟨by kernel_rfl⟩
instance g11 : IsGo Tryz.prog 11 := ⟨by kernel_rfl⟩
instance g12 : IsGo Tryz.prog 12 := ⟨by kernel_rfl⟩
instance g13 : IsGo Tryz.prog 13 := ⟨by kernel_rfl⟩
instance g14 : IsGo Tryz.prog 14 := ⟨by kernel_rfl⟩
instance g15 : IsGo Tryz.prog 15 := ⟨by kernel_rfl⟩
instance g16 : IsGo Tryz.prog 16 := ⟨by kernel_rfl⟩
instance g17 : IsGo Tryz.prog 17 := ⟨by kernel_rfl⟩
instance g18 : IsGo Tryz.prog 18 := ⟨by kernel_rfl⟩
instance g19 : IsGo Tryz.prog 19 := ⟨by kernel_rfl⟩
instance g20 : IsGo Tryz.prog 20 := ⟨by kernel_rfl⟩
instance g21 : IsGo Tryz.prog 21 := ⟨by kernel_rfl⟩
instance g22 : IsGo Tryz.prog 22 := ⟨by kernel_rfl⟩
instance g23 : IsGo Tryz.prog 23 := ⟨by kernel_rfl⟩
instance g24 : IsGo Tryz.prog 24 := ⟨by kernel_rfl⟩
instance g25 : IsGo Tryz.prog 25 := ⟨by kernel_rfl⟩
instance g26 : IsGo Tryz.prog 26 := ⟨by kernel_rfl⟩
instance g27 : IsGo Tryz.prog 27 := ⟨by kernel_rfl⟩
instance g28 : IsGo Tryz.prog 28 := ⟨by kernel_rfl⟩
instance g29 : IsGo Tryz.prog 29 := ⟨by kernel_rfl⟩
instance g30 : IsGo Tryz.prog 30 := ⟨by kernel_rfl⟩
instance g31 : IsGo Tryz.prog 31 := ⟨by kernel_rfl⟩
instance g32 : IsGo Tryz.prog 32 := ⟨by kernel_rfl⟩
instance g33 : IsGo Tryz.prog 33 := ⟨by kernel_rfl⟩
instance g34 : IsGo Tryz.prog 34 := ⟨by kernel_rfl⟩
instance g35 : IsGo Tryz.prog 35 := ⟨by kernel_rfl⟩
instance g40 : IsGo Tryz.prog 40 := ⟨by kernel_rfl⟩
instance g42 : IsGo Tryz.prog 42 := ⟨by kernel_rfl⟩
instance g43 : IsGo Tryz.prog 43 := ⟨by kernel_rfl⟩
instance g44 : IsGo Tryz.prog 44 := ⟨by kernel_rfl⟩
instance g45 : IsGo Tryz.prog 45 := ⟨by kernel_rfl⟩
instance g46 : IsGo Tryz.prog 46 := ⟨by kernel_rfl⟩
instance g36 : IsGo Tryz.prog 36 := ⟨by kernel_rfl⟩
instance g37 : IsGo Tryz.prog 37 := ⟨by kernel_rfl⟩
instance g38 : IsGo Tryz.prog 38 := ⟨by kernel_rfl⟩
instance g39 : IsGo Tryz.prog 39 := ⟨by kernel_rfl⟩
instance g41 : IsGo Tryz.prog 41 := ⟨by kernel_rfl⟩
instance g54 : IsGo Tryz.prog 54 := ⟨by kernel_rfl⟩
instance g55 : IsGo Tryz.prog 55 := ⟨by kernel_rfl⟩
instance : TOne Tryz.prog 1 := ⟨by kernel_rfl⟩
instance : TSize Tryz.prog 1 1 := ⟨by kernel_rfl⟩
instance : TZero Tryz.prog 1 [.nilFunc] := ⟨by kernel_rfl⟩
instance : TOne Tryz.prog 2 := ⟨by kernel_rfl⟩
instance : TSize Tryz.prog 2 1 := ⟨by kernel_rfl⟩
instance : TZero Tryz.prog 2 [(.int .i64 0)] := ⟨by kernel_rfl⟩
instance : TInt Tryz.prog 2 .i64 := ⟨by kernel_rfl⟩
instance : TOne Tryz.prog 3 := ⟨by kernel_rfl⟩
instance : TSize Tryz.prog 3 1 := ⟨by kernel_rfl⟩
instance : TZero Tryz.prog 3 [(.int .i64 0)] := ⟨by kernel_rfl⟩
instance : TInt Tryz.prog 3 .i64 := ⟨by kernel_rfl⟩
instance : TOne Tryz.prog 4 := ⟨by kernel_rfl⟩
instance : TSize Tryz.prog 4 1 := ⟨by kernel_rfl⟩
instance : TZero Tryz.prog 4 [(.bool false)] := ⟨by kernel_rfl⟩
instance : TBool Tryz.prog 4 := ⟨by kernel_rfl⟩
instance : TOne Tryz.prog 5 := ⟨by kernel_rfl⟩
instance : TSize Tryz.prog 5 1 := ⟨by kernel_rfl⟩
instance : TZero Tryz.prog 5 [(.int .u8 0)] := ⟨by kernel_rfl⟩
instance : TInt Tryz.prog 5 .u8 := ⟨by kernel_rfl⟩
instance : TOne Tryz.prog 6 := ⟨by kernel_rfl⟩
instance : TSize Tryz.prog 6 1 := ⟨by kernel_rfl⟩
instance : TZero Tryz.prog 6 [(.int .u8 0)] := ⟨by kernel_rfl⟩
instance : TInt Tryz.prog 6 .u8 := ⟨by kernel_rfl⟩
instance : TAgg Tryz.prog 7 4 := ⟨by kernel_rfl⟩
instance : TSize Tryz.prog 7 4 := ⟨by kernel_rfl⟩
instance : TZero Tryz.prog 7 [(.int .i64 0), (.int .i64 0), (.bool false), (.int .u8 0)] := ⟨by kernel_rfl⟩
instance : TStruct Tryz.prog 7 [(0, 1), (1, 1), (2, 1), (3, 1)] := ⟨by kernel_rfl⟩
instance : TField Tryz.prog 7 0 0 := ⟨by kernel_rfl⟩
instance : TField Tryz.prog 7 1 1 := ⟨by kernel_rfl⟩
instance : TField Tryz.prog 7 2 2 := ⟨by kernel_rfl⟩
instance : TField Tryz.prog 7 3 3 := ⟨by kernel_rfl⟩
instance : TFieldV Tryz.prog 7 0 0 1 false := ⟨by kernel_rfl⟩
instance : TFieldV Tryz.prog 7 1 1 1 false := ⟨by kernel_rfl⟩
instance : TFieldV Tryz.prog 7 2 2 1 false := ⟨by kernel_rfl⟩
instance : TFieldV Tryz.prog 7 3 3 1 false := ⟨by kernel_rfl⟩
instance : TAgg Tryz.prog 8 4 := ⟨by kernel_rfl⟩
instance : TSize Tryz.prog 8 4 := ⟨by kernel_rfl⟩
instance : TZero Tryz.prog 8 [(.int .i64 0), (.int .i64 0), (.bool false), (.int .u8 0)] := ⟨by kernel_rfl⟩
instance : TStruct Tryz.prog 8 [(0, 1), (1, 1), (2, 1), (3, 1)] := ⟨by kernel_rfl⟩
instance : TField Tryz.prog 8 0 0 := ⟨by kernel_rfl⟩
instance : TField Tryz.prog 8 1 1 := ⟨by kernel_rfl⟩
instance : TField Tryz.prog 8 2 2 := ⟨by kernel_rfl⟩
instance : TField Tryz.prog 8 3 3 := ⟨by kernel_rfl⟩
instance : TFieldV Tryz.prog 8 0 0 1 false := ⟨by kernel_rfl⟩
instance : TFieldV Tryz.prog 8 1 1 1 false := ⟨by kernel_rfl⟩
instance : TFieldV Tryz.prog 8 2 2 1 false := ⟨by kernel_rfl⟩
instance : TFieldV Tryz.prog 8 3 3 1 false := ⟨by kernel_rfl⟩
instance : TOne Tryz.prog 9 := ⟨by kernel_rfl⟩
instance : TSize Tryz.prog 9 1 := ⟨by kernel_rfl⟩
instance : TZero Tryz.prog 9 [(.string ⟨#[]⟩)] := ⟨by kernel_rfl⟩
instance : TStr Tryz.prog 9 := ⟨by kernel_rfl⟩
instance : TOne Tryz.prog 11 := ⟨by kernel_rfl⟩
instance : TSize Tryz.prog 11 1 := ⟨by kernel_rfl⟩
instance : TZero Tryz.prog 11 [(.string ⟨#[]⟩)] := ⟨by kernel_rfl⟩
instance : TStr Tryz.prog 11 := ⟨by kernel_rfl⟩
instance : TOne Tryz.prog 16 := ⟨by kernel_rfl⟩
instance : TSize Tryz.prog 16 1 := ⟨by kernel_rfl⟩
instance : TZero Tryz.prog 16 [(.pointer none)] := ⟨by kernel_rfl⟩
instance : TOne Tryz.prog 22 := ⟨by kernel_rfl⟩
instance : TSize Tryz.prog 22 1 := ⟨by kernel_rfl⟩
instance : TZero Tryz.prog 22 [(.slice none 0 0)] := ⟨by kernel_rfl⟩
instance : TSlice Tryz.prog 22 5 1 1 := ⟨by kernel_rfl⟩
instance : TOne Tryz.prog 23 := ⟨by kernel_rfl⟩
instance : TSize Tryz.prog 23 1 := ⟨by kernel_rfl⟩
instance : TZero Tryz.prog 23 [(.slice none 0 0)] := ⟨by kernel_rfl⟩
instance : TSlice Tryz.prog 23 41 2 16 := ⟨by kernel_rfl⟩
instance : TAgg Tryz.prog 24 3 := ⟨by kernel_rfl⟩
instance : TSize Tryz.prog 24 3 := ⟨by kernel_rfl⟩
instance : TZero Tryz.prog 24 [(.int .i64 0), (.int .i64 0), (.int .i64 0)] := ⟨by kernel_rfl⟩
instance : TArr Tryz.prog 24 3 3 1 := ⟨by kernel_rfl⟩
instance : TOne Tryz.prog 26 := ⟨by kernel_rfl⟩
instance : TSize Tryz.prog 26 1 := ⟨by kernel_rfl⟩
instance : TZero Tryz.prog 26 [(.slice none 0 0)] := ⟨by kernel_rfl⟩
instance : TSlice Tryz.prog 26 41 2 16 := ⟨by kernel_rfl⟩
instance : TOne Tryz.prog 29 := ⟨by kernel_rfl⟩
instance : TSize Tryz.prog 29 1 := ⟨by kernel_rfl⟩
instance : TZero Tryz.prog 29 [(.slice none 0 0)] := ⟨by kernel_rfl⟩
instance : TSlice Tryz.prog 29 26 1 24 := ⟨by kernel_rfl⟩
instance : TOne Tryz.prog 33 := ⟨by kernel_rfl⟩
instance : TSize Tryz.prog 33 1 := ⟨by kernel_rfl⟩
instance : TZero Tryz.prog 33 [(.slice none 0 0)] := ⟨by kernel_rfl⟩
instance : TSlice Tryz.prog 33 3 1 8 := ⟨by kernel_rfl⟩
instance : TAgg Tryz.prog 37 2 := ⟨by kernel_rfl⟩
instance : TSize Tryz.prog 37 2 := ⟨by kernel_rfl⟩
instance : TZero Tryz.prog 37 [(.slice none 0 0), (.slice none 0 0)] := ⟨by kernel_rfl⟩
instance : TArr Tryz.prog 37 2 22 1 := ⟨by kernel_rfl⟩
instance : TOne Tryz.prog 38 := ⟨by kernel_rfl⟩
instance : TSize Tryz.prog 38 1 := ⟨by kernel_rfl⟩
instance : TZero Tryz.prog 38 [(.slice none 0 0)] := ⟨by kernel_rfl⟩
instance : TSlice Tryz.prog 38 42 2 2 := ⟨by kernel_rfl⟩
instance : TAgg Tryz.prog 41 2 := ⟨by kernel_rfl⟩
instance : TSize Tryz.prog 41 2 := ⟨by kernel_rfl⟩
instance : TZero Tryz.prog 41 [(.int .i64 0), (.int .i64 0)] := ⟨by kernel_rfl⟩
instance : TStruct Tryz.prog 41 [(0, 1), (1, 1)] := ⟨by kernel_rfl⟩
instance : TField Tryz.prog 41 0 0 := ⟨by kernel_rfl⟩
instance : TField Tryz.prog 41 1 1 := ⟨by kernel_rfl⟩
instance : TFieldV Tryz.prog 41 0 0 1 false := ⟨by kernel_rfl⟩
instance : TFieldV Tryz.prog 41 1 1 1 false := ⟨by kernel_rfl⟩
instance : EqTy Tryz.prog 41 2 := EqTy.of (by kernel_rfl) (by kernel_rfl) (by kernel_rfl)
instance : TAgg Tryz.prog 42 2 := ⟨by kernel_rfl⟩
instance : TSize Tryz.prog 42 2 := ⟨by kernel_rfl⟩
instance : TZero Tryz.prog 42 [(.int .u8 0), (.int .u8 0)] := ⟨by kernel_rfl⟩
instance : TArr Tryz.prog 42 2 5 1 := ⟨by kernel_rfl⟩
instance : TOne Tryz.prog 43 := ⟨by kernel_rfl⟩
instance : TSize Tryz.prog 43 1 := ⟨by kernel_rfl⟩
instance : TZero Tryz.prog 43 [(.int .i64 0)] := ⟨by kernel_rfl⟩
instance : TInt Tryz.prog 43 .i64 := ⟨by kernel_rfl⟩
instance : TOne Tryz.prog 48 := ⟨by kernel_rfl⟩
instance : TSize Tryz.prog 48 1 := ⟨by kernel_rfl⟩
instance : TZero Tryz.prog 48 [(.slice none 0 0)] := ⟨by kernel_rfl⟩
instance : TSlice Tryz.prog 48 9 1 16 := ⟨by kernel_rfl⟩
instance : TAgg Tryz.prog 50 8 := ⟨by kernel_rfl⟩
instance : TSize Tryz.prog 50 8 := ⟨by kernel_rfl⟩
instance : TZero Tryz.prog 50 [(.int .u8 0), (.int .u8 0), (.int .u8 0), (.int .u8 0), (.int .u8 0), (.int .u8 0), (.int .u8 0), (.int .u8 0)] := ⟨by kernel_rfl⟩
instance : TArr Tryz.prog 50 8 5 1 := ⟨by kernel_rfl⟩
instance : TOne Tryz.prog 52 := ⟨by kernel_rfl⟩
instance : TSize Tryz.prog 52 1 := ⟨by kernel_rfl⟩
instance : TZero Tryz.prog 52 [.nilFunc] := ⟨by kernel_rfl⟩
instance : TAgg Tryz.prog 54 3 := ⟨by kernel_rfl⟩
instance : TSize Tryz.prog 54 3 := ⟨by kernel_rfl⟩
instance : TZero Tryz.prog 54 [(.int .u8 0), (.int .u8 0), (.int .u8 0)] := ⟨by kernel_rfl⟩
instance : TArr Tryz.prog 54 3 5 1 := ⟨by kernel_rfl⟩
instance : TAgg Tryz.prog 59 4 := ⟨by kernel_rfl⟩
instance : TSize Tryz.prog 59 4 := ⟨by kernel_rfl⟩
instance : TZero Tryz.prog 59 [(.int .i64 0), (.int .i64 0), (.int .i64 0), (.int .i64 0)] := ⟨by kernel_rfl⟩
instance : TArr Tryz.prog 59 4 3 1 := ⟨by kernel_rfl⟩
instance : TAgg Tryz.prog 61 2 := ⟨by kernel_rfl⟩
instance : TSize Tryz.prog 61 2 := ⟨by kernel_rfl⟩
instance : TZero Tryz.prog 61 [(.string ⟨#[]⟩), (.int .i64 0)] := ⟨by kernel_rfl⟩
instance : TStruct Tryz.prog 61 [(0, 1), (1, 1)] := ⟨by kernel_rfl⟩
instance : TField Tryz.prog 61 0 0 := ⟨by kernel_rfl⟩
instance : TField Tryz.prog 61 1 1 := ⟨by kernel_rfl⟩
instance : TFieldV Tryz.prog 61 0 0 1 false := ⟨by kernel_rfl⟩
instance : TFieldV Tryz.prog 61 1 1 1 false := ⟨by kernel_rfl⟩
instance : TAgg Tryz.prog 76 22 := ⟨by kernel_rfl⟩
instance : TSize Tryz.prog 76 22 := ⟨by kernel_rfl⟩
instance : TZero Tryz.prog 76 [(.string ⟨#[]⟩), (.int .i64 0), (.string ⟨#[]⟩), (.int .i64 0), (.string ⟨#[]⟩), (.int .i64 0), (.string ⟨#[]⟩), (.int .i64 0), (.string ⟨#[]⟩), (.int .i64 0), (.string ⟨#[]⟩), (.int .i64 0), (.string ⟨#[]⟩), (.int .i64 0), (.string ⟨#[]⟩), (.int .i64 0), (.string ⟨#[]⟩), (.int .i64 0), (.string ⟨#[]⟩), (.int .i64 0), (.string ⟨#[]⟩), (.int .i64 0)] := ⟨by kernel_rfl⟩
instance : TArr Tryz.prog 76 11 61 2 := ⟨by kernel_rfl⟩
instance : TIface Tryz.prog 88 := ⟨by kernel_rfl⟩
instance : TOne Tryz.prog 88 := ⟨by kernel_rfl⟩
instance : TSize Tryz.prog 88 1 := ⟨by kernel_rfl⟩
instance : TZero Tryz.prog 88 [.nilIface] := ⟨by kernel_rfl⟩
instance : TAgg Tryz.prog 165 0 := ⟨by kernel_rfl⟩
instance : TSize Tryz.prog 165 0 := ⟨by kernel_rfl⟩
instance : TZero Tryz.prog 165 [] := ⟨by kernel_rfl⟩
instance : TArr Tryz.prog 165 0 16 1 := ⟨by kernel_rfl⟩
instance : TAgg Tryz.prog 167 0 := ⟨by kernel_rfl⟩
instance : TSize Tryz.prog 167 0 := ⟨by kernel_rfl⟩
instance : TZero Tryz.prog 167 [] := ⟨by kernel_rfl⟩
instance : TStruct Tryz.prog 167 [(0, 0)] := ⟨by kernel_rfl⟩
instance : TFieldV Tryz.prog 167 0 0 0 true := ⟨by kernel_rfl⟩

/- skewer/skewerlaw02.ProgMatchesReference : names 0 l, 1 raw, 2 w, 3 l, 4 raw, 5 w, 7 up, 8 progs, 9 i, 10 p -/
def s3 (P : Program) (arg0 arg1 arg2 : Value) (K : Value → WP) : WP :=
  Do P (V (Instr.box 24 arg2)) fun w1 =>
  Do P (vCall (.func (.func 10) #[] ⟨[]⟩) []) fun t2_11 =>
  Do P (vCall (.func (.func 11) #[] ⟨[]⟩) [arg0]) fun t3_13 =>
  Do P (vCall (.func (.func 12) #[] ⟨[]⟩) [arg1]) fun t4_15 =>
  Do P (vCall (.func (.func 11) #[] ⟨[]⟩) [arg0]) fun t5_17 =>
  Do P (vCall (.func (.func 12) #[] ⟨[]⟩) [arg1]) fun t6_19 =>
  Do P (vBuiltin .append #[26, 26] 26 [t5_17, t6_19]) fun t7_20 =>
  Do P (vBuildSlice 29 3 [(0, t3_13), (1, t4_15), (2, t7_20)]) fun t8_21 =>
  Lp (α := Value) (fun c9 s9 => Jk fun _ => -- i
   Do P (vBuiltin .len #[29] 3 [t8_21]) fun t10_24 =>
   Do P (V (binOp .lss 3 s9 t10_24)) fun t11_25 =>
   If t11_25 (
    Do P (V (Instr.indexAt 29 t8_21 s9)) fun t12_30 =>
    Do P (V (Instr.loadAt 26 t12_30)) fun t13_31 =>
    Jn (α := Value) (fun j14 => Jk fun _ => -- t77
     If j14 (
      K (.bool false)
     ) (
      Do P (V (binOp .add 3 s9 (.int .i64 1))) fun t15_27 =>
      c9 t15_27
     )
    ) fun k14 =>
    Dr <|
    Qk P (V (Instr.indexAt 24 w1 (.int .i64 0))) fun C16 t16_33 =>
    Qk P (V (Instr.loadAt 3 t16_33)) fun C17 t17_34 =>
    Qk P (V (Instr.indexAt 24 w1 (.int .i64 1))) fun C18 t18_35 =>
    Qk P (V (Instr.loadAt 3 t18_35)) fun C19 t19_36 =>
    Qk P (V (Instr.indexAt 24 w1 (.int .i64 2))) fun C20 t20_37 =>
    Qk P (V (Instr.loadAt 3 t20_37)) fun C21 t21_38 =>
    Qk P (V (Instr.indexAt 24 w1 (.int .i64 0))) fun C22 t22_41 =>
    Qk P (V (Instr.loadAt 3 t22_41)) fun C23 t23_42 =>
    Qk P (V (Instr.indexAt 24 w1 (.int .i64 1))) fun C24 t24_43 =>
    Qk P (V (Instr.loadAt 3 t24_43)) fun C25 t25_44 =>
    Qk P (V (Instr.indexAt 24 w1 (.int .i64 2))) fun C26 t26_45 =>
    Qk P (V (Instr.loadAt 3 t26_45)) fun C27 t27_46 =>
    Do P (vCall (.func (.func 13) #[] ⟨[]⟩) [t13_31, t17_34, t19_36, t21_38]) fun t28_39 =>
    With C27 <|
    With C26 <|
    With C25 <|
    With C24 <|
    With C23 <|
    With C22 <|
    Do P (vCall (.func (.func 14) #[] ⟨[]⟩) [t13_31, t23_42, t25_44, t27_46]) fun t29_47 =>
    Qk P (V (EqG .neq 4 (.tmp 39) (.tmp 47) t28_39 t29_47)) fun C30 t30_48 =>
    Gd t30_48 false (
     Do P (vCall (.func (.func 13) #[] ⟨[]⟩) [t13_31, (.int .i64 8), (.int .i64 6), (.int .i64 4)]) fun t31_51 =>
     Do P (vCall (.func (.func 14) #[] ⟨[]⟩) [t13_31, (.int .i64 8), (.int .i64 6), (.int .i64 4)]) fun t32_53 =>
     Qk P (V (EqG .neq 4 (.tmp 51) (.tmp 53) t31_51 t32_53)) fun C33 t33_54 =>
     Gd t33_54 false (
      Do P (vCall (.func (.func 15) #[] ⟨[]⟩) [t13_31]) fun t34_58 =>
      Do P (vCall (.func (.func 16) #[] ⟨[]⟩) [t13_31]) fun t35_60 =>
      Qk P (V (EqG .neq 4 (.tmp 58) (.tmp 60) t34_58 t35_60)) fun C36 t36_61 =>
      Gd t36_61 false (
       Do P (vCall (.func (.func 18) #[] ⟨[]⟩) [t13_31]) fun t37_65 =>
       Do P (vCall (.func (.func 19) #[] ⟨[]⟩) [t13_31]) fun t38_67 =>
       Do P (vCall (.func (.func 17) #[] ⟨[]⟩) [t37_65, t38_67]) fun t39_68 =>
       Qk P (V (Op.unary .not t39_68)) fun C40 t40_69 =>
       Gd t40_69 false (
        Do P (vCall (.func (.func 20) #[] ⟨[]⟩) [t13_31]) fun t41_73 =>
        Do P (vCall (.func (.func 21) #[] ⟨[]⟩) [t13_31]) fun t42_75 =>
        Qk P (V (EqG .neq 9 (.tmp 73) (.tmp 75) t41_73 t42_75)) fun C43 t43_76 =>
        k14 t43_76
       ) (
        k14 (.bool true)
       )
      ) (
       k14 (.bool true)
      )
     ) (
      k14 (.bool true)
     )
    ) (
     k14 (.bool true)
    )
   ) (
    K t2_11
   )
  ) (.int .i64 0)
def A3 : Ann := .s (.n) (.s (.n) (.s (.n) (.s (.s (.n) (.lp [9] 302231454903657289483840 (.s (.s (.n) (.s (.n) (.n))) (.s (.s (.n) (.j [77] 302231454903652998709248 (.plan [(0, 1024, 4294967296), (0, 32, 8589934592), (2, 8589934592, 17179869184), (0, 32, 34359738368), (8, 34359738368, 68719476736), (0, 32, 137438953472), (32, 137438953472, 274877906944), (85, 365072220160, 549755813888), (0, 1024, 1099511627776), (0, 32, 2199023255552), (512, 2199023255552, 4398046511104), (0, 32, 8796093022208), (2048, 8796093022208, 17592186044416), (0, 32, 35184372088832), (8192, 35184372088832, 70368744177664), (21888, 93458488360960, 140737488355328), (32896, 141287244169216, 281474976710656), (98304, 281474976710656, 562949953421312), (131072, 562949953422336, 1125899906842624), (393216, 1688849860263936, 2251799813685248), (131072, 562949953422336, 4503599627370496), (1703936, 5066549580791808, 9007199254740992), (2752512, 11821949021847552, 18014398509481984), (4325376, 18577348462903296, 36028797018963968), (10485760, 36028797018963968, 72057594037927936), (16777216, 72057594037928960, 144115188075855872), (50331648, 216172782113783808, 288230376151711744), (16777216, 72057594037928960, 576460752303423488), (218103808, 648518346341351424, 1152921504606846976), (352321536, 1513209474796486656, 2305843009213693952), (553648128, 2377900603251621888, 4611686018427387904), (1342177280, 4611686018427387904, 9223372036854775808), (2147483648, 9223372036854776832, 18446744073709551616), (6442450944, 27670116110564327424, 36893488147419103232), (2147483648, 9223372036854776832, 73786976294838206464), (27917287424, 83010348331692982272, 147573952589676412928), (45097156608, 193690812773950291968, 295147905179352825856), (70866960384, 304371277216207601664, 590295810358705651712), (139586437120, 599519182395560427520, 1180591620717411303424), (343597383680, 1180591620717411303424, 2361183241434822606848), (549755813888, 2361183241434822607872, 4722366482869645213696), (1649267441664, 7083549724304467820544, 9444732965739290427392), (549755813888, 2361183241434822607872, 18889465931478580854784), (7146825580544, 21250649172913403461632, 37778931862957161709568), (11544872091648, 49584848070131274743808, 75557863725914323419136), (18141941858304, 77919046967349146025984, 151115727451828646838272)] (.q 0 (.q 1 (.q 2 (.q 3 (.q 4 (.q 5 (.q 6 (.q 8 (.q 9 (.q 10 (.q 11 (.q 12 (.q 13 (.q 14 (.l 7 (.l 15 (.q 16 (.q 17 (.q 18 (.q 20 (.l 19 (.l 21 (.q 22 (.q 23 (.q 24 (.q 25 (.q 27 (.l 26 (.l 28 (.q 29 (.q 30 (.q 31 (.q 32 (.q 34 (.l 33 (.l 35 (.l 36 (.q 37 (.q 38 (.q 39 (.q 40 (.q 42 (.l 41 (.l 43 (.q 44 (.q 45 .done))))))))))))))))))))))))))))))))))))))))))))))) (.s (.s (.n) (.n)) (.n)))) (.n))))) (.s (.n) (.n)))))
set_option maxRecDepth 100000 in
theorem c3 (arg0 arg1 arg2 : Value) (K : Value → WP) (w : World) (h : s3 Tryz.prog arg0 arg1 arg2 K w) : Runs Tryz.prog 3 [arg0, arg1, arg2] K w :=
  runs_of_E wide (fn := Tryz.f3) (c := Tryz.f3.body.getD .skip) 79 A3 [arg0, arg1, arg2] w K Tryz.func3 (by kernel_rfl) (by kernel_rfl) (by kernel_rfl) (by kernel_rfl)
    (Eq.mp (by kernel_rfl : s3 Tryz.prog arg0 arg1 arg2 K w = E Tryz.prog (Tryz.f3.body.getD .skip) A3 (topK Tryz.prog K Tryz.f3.results) (fun i => (([arg0, arg1, arg2] : List Value)[i]?).getD undef) w) h)
theorem ct3 {arg0 arg1 arg2 : Value} {h : Hp} {post : Hp → Value → Prop} (hg : ∀ w0, Gs w0 h h [] (s3 Tryz.prog arg0 arg1 arg2 (RetP w0 h post))) : Ct Tryz.prog 3 [arg0, arg1, arg2] h post := Ct.of (sf := s3 Tryz.prog arg0 arg1 arg2) (c3 arg0 arg1 arg2) hg
theorem in3 {arg0 arg1 arg2 : Value} {S : WP} {K : Value → WP} (hg : G S (s3 Tryz.prog arg0 arg1 arg2 K)) : G S (Do Tryz.prog (vCall (.func (.func 3) #[] ⟨[]⟩) [arg0, arg1, arg2]) K) := Gs.into (args := [arg0, arg1, arg2]) (caps := []) (sf := s3 Tryz.prog arg0 arg1 arg2) (c3 arg0 arg1 arg2) hg

/- skewer/skewerlaw02.ProgTexts : names 0 l, 1 raw, 2 l, 3 raw, 5 up, 6 a, 7 b, 8 all, 9 c, 10 i, 11 p, 12 e, 13 q, 14 f -/
def s4 (P : Program) (arg0 arg1 : Value) (K : Value → WP) : WP :=
  Do P (V (Instr.box 37 arg0)) fun l1 =>
  Do P (vCall (.func (.func 10) #[] ⟨[]⟩) []) fun t2_15 =>
  Dr <|
  Qk P (V (Instr.indexAt 37 l1 (.int .i64 0))) fun C3 t3_16 =>
  Qk P (V (Instr.loadAt 22 t3_16)) fun C4 t4_17 =>
  Qk P (V (Instr.indexAt 37 l1 (.int .i64 1))) fun C5 t5_19 =>
  Qk P (V (Instr.loadAt 22 t5_19)) fun C6 t6_20 =>
  Do P (vCall (.func (.func 11) #[] ⟨[]⟩) [t4_17]) fun t7_18 =>
  With C6 <|
  With C5 <|
  Do P (vCall (.func (.func 11) #[] ⟨[]⟩) [t6_20]) fun t8_21 =>
  Do P (vCall (.func (.func 22) #[] ⟨[]⟩) []) fun t9_22 =>
  Do P (vBuildSlice 26 0 []) fun t10_23 =>
  Lp (α := Value × Value) (fun c11 s11 => Jk fun _ => -- c i
   Jn (α := Value) (fun j12 => Jk fun _ => -- t31
    If j12 (
     Do P (V (Instr.indexAt 38 arg1 s11.2)) fun t13_38 =>
     Do P (V (Instr.indexAt 42 t13_38 (.int .i64 0))) fun t14_39 =>
     Do P (V (Instr.loadAt 5 t14_39)) fun t15_40 =>
     Do P (V (convert 5 3 t15_40)) fun t16_41 =>
     Do P (vBuiltin .len #[23] 3 [t9_22]) fun t17_43 =>
     Do P (V (binOp .rem 3 t16_41 t17_43)) fun t18_44 =>
     Do P (V (Instr.indexAt 23 t9_22 t18_44)) fun t19_45 =>
     Do P (V (Instr.loadAt 41 t19_45)) fun t20_46 =>
     Do P (vBuildSlice 26 1 [(0, t20_46)]) fun t21_47 =>
     Do P (vBuiltin .append #[26, 26] 26 [s11.1, t21_47]) fun t22_48 =>
     Do P (V (binOp .add 3 s11.2 (.int .i64 1))) fun t23_33 =>
     c11 (t22_48, t23_33)
    ) (
     Jn (α := Value) (fun j24 => Jk fun _ => -- c
      Do P (vCall (.func (.func 20) #[] ⟨[]⟩) [t7_18]) fun t25_55 =>
      Do P (vCall (.func (.func 23) #[] ⟨[]⟩) [t25_55]) fun t26_56 =>
      Do P (V (Instr.extract t26_56 0)) fun t27_57 =>
      Do P (V (Instr.extract t26_56 1)) fun t28_58 =>
      Do P (vCall (.func (.func 20) #[] ⟨[]⟩) [j24]) fun t29_61 =>
      Do P (vCall (.func (.func 23) #[] ⟨[]⟩) [t29_61]) fun t30_62 =>
      Do P (V (Instr.extract t30_62 0)) fun t31_63 =>
      Do P (V (Instr.extract t30_62 1)) fun t32_64 =>
      Do P (V (EqG .eql 43 (.tmp 65) (.const (.int .i64 0)) t28_58 (.int .i64 0))) fun t33_66 =>
      Gd t33_66 true (
       Do P (V (EqG .eql 43 (.tmp 68) (.const (.int .i64 0)) t32_64 (.int .i64 0))) fun t34_69 =>
       Gd t34_69 true (
        Do P (vCall (.func (.func 24) #[] ⟨[]⟩) [t27_57, t7_18]) fun t35_74 =>
        Gd t35_74 true (
         Do P (vCall (.func (.func 24) #[] ⟨[]⟩) [t31_63, j24]) fun t36_79 =>
         Gd t36_79 true (
          Do P (vCall (.func (.func 20) #[] ⟨[]⟩) [t7_18]) fun t37_83 =>
          Do P (vCall (.func (.func 20) #[] ⟨[]⟩) [t8_21]) fun t38_85 =>
          Do P (V (EqG .eql 9 (.tmp 83) (.tmp 85) t37_83 t38_85)) fun t39_86 =>
          Do P (vCall (.func (.func 24) #[] ⟨[]⟩) [t7_18, t8_21]) fun t40_89 =>
          Do P (V (EqG .eql 4 (.tmp 86) (.tmp 89) t39_86 t40_89)) fun t41_90 =>
          Gd t41_90 true (
           Do P (vCall (.func (.func 20) #[] ⟨[]⟩) [t7_18]) fun t42_94 =>
           Do P (vCall (.func (.func 20) #[] ⟨[]⟩) [j24]) fun t43_96 =>
           Do P (V (EqG .eql 9 (.tmp 94) (.tmp 96) t42_94 t43_96)) fun t44_97 =>
           Do P (vCall (.func (.func 24) #[] ⟨[]⟩) [t7_18, j24]) fun t45_100 =>
           Do P (V (EqG .eql 4 (.tmp 97) (.tmp 100) t44_97 t45_100)) fun t46_101 =>
           Gd t46_101 true (
            K t2_15
           ) (
            K (.bool false)
           )
          ) (
           K (.bool false)
          )
         ) (
          K (.bool false)
         )
        ) (
         K (.bool false)
        )
       ) (
        K (.bool false)
       )
      ) (
       K (.bool false)
      )
     ) fun k24 =>
     Do P (vCall (.func (.func 14) #[] ⟨[]⟩) [s11.1, (.int .i64 8), (.int .i64 6), (.int .i64 4)]) fun t47_50 =>
     Do P (V (Op.unary .not t47_50)) fun t48_51 =>
     If t48_51 (
      k24 t7_18
     ) (
      k24 s11.1
     )
    )
   ) fun k12 =>
   Do P (vBuiltin .len #[38] 3 [arg1]) fun t49_26 =>
   Do P (V (binOp .lss 3 s11.2 t49_26)) fun t50_27 =>
   Gd t50_27 true (
    Do P (V (binOp .lss 3 s11.2 (.int .i64 8))) fun t51_30 =>
    k12 t51_30
   ) (
    k12 (.bool false)
   )
  ) (t10_23, (.int .i64 0))
def A4 : Ann := .s (.n) (.s (.n) (.s (.plan [(0, 4, 65536), (1, 65536, 131072), (2, 131072, 262144), (0, 4, 524288), (8, 524288, 1048576), (20, 1048576, 2097152), (39, 262144, 64), (127, 2097152, 128)] (.q 0 (.q 1 (.q 3 (.q 4 (.l 2 (.l 5 (.q 6 (.q 7 .done))))))))) (.s (.n) (.s (.s (.n) (.lp [9, 10] 562949936645632 (.s (.j [31] 4278190080 (.n) (.s (.n) (.n))) (.s (.n) (.n))))) (.j [9] 8444249301320192 (.s (.n) (.s (.n) (.n))) (.s (.n) (.s (.n) (.s (.n) (.n)))))))))
set_option maxRecDepth 100000 in
theorem c4 (arg0 arg1 : Value) (K : Value → WP) (w : World) (h : s4 Tryz.prog arg0 arg1 K w) : Runs Tryz.prog 4 [arg0, arg1] K w :=
  runs_of_E wide (fn := Tryz.f4) (c := Tryz.f4.body.getD .skip) 106 A4 [arg0, arg1] w K Tryz.func4 (by kernel_rfl) (by kernel_rfl) (by kernel_rfl) (by kernel_rfl)
    (Eq.mp (by kernel_rfl : s4 Tryz.prog arg0 arg1 K w = E Tryz.prog (Tryz.f4.body.getD .skip) A4 (topK Tryz.prog K Tryz.f4.results) (fun i => (([arg0, arg1] : List Value)[i]?).getD undef) w) h)
theorem ct4 {arg0 arg1 : Value} {h : Hp} {post : Hp → Value → Prop} (hg : ∀ w0, Gs w0 h h [] (s4 Tryz.prog arg0 arg1 (RetP w0 h post))) : Ct Tryz.prog 4 [arg0, arg1] h post := Ct.of (sf := s4 Tryz.prog arg0 arg1) (c4 arg0 arg1) hg
theorem in4 {arg0 arg1 : Value} {S : WP} {K : Value → WP} (hg : G S (s4 Tryz.prog arg0 arg1 K)) : G S (Do Tryz.prog (vCall (.func (.func 4) #[] ⟨[]⟩) [arg0, arg1]) K) := Gs.into (args := [arg0, arg1]) (caps := []) (sf := s4 Tryz.prog arg0 arg1) (c4 arg0 arg1) hg

/- skewer/skewerlaw02.ProgParses : names 0 l, 1 s, 2 w, 3 l, 4 s, 5 w, 7 up, 8 t, 9 i, 10 k, 11 texts, 12 n, 13 p, 14 e, 15 q, 16 f -/
def s5 (P : Program) (arg0 arg1 arg2 : Value) (K : Value → WP) : WP :=
  Do P (V (Instr.box 42 arg2)) fun w1 =>
  Do P (vCall (.func (.func 10) #[] ⟨[]⟩) []) fun t2_17 =>
  Do P (vBuiltin .len #[9] 3 [arg1]) fun t3_19 =>
  Do P (V (binOp .gtr 3 t3_19 (.int .i64 80))) fun t4_20 =>
  If t4_20 (
   K t2_17
  ) (
   Do P (vCall (.func (.func 11) #[] ⟨[]⟩) [arg0]) fun t5_23 =>
   Do P (vCall (.func (.func 21) #[] ⟨[]⟩) [t5_23]) fun t6_24 =>
   Do P (V (Instr.indexAt 42 w1 (.int .i64 0))) fun t7_25 =>
   Do P (V (Instr.loadAt 5 t7_25)) fun t8_26 =>
   Do P (V (convert 5 3 t8_26)) fun t9_27 =>
   Do P (vBuiltin .len #[9] 3 [t6_24]) fun t10_29 =>
   Do P (V (binOp .add 3 t10_29 (.int .i64 1))) fun t11_30 =>
   Do P (V (binOp .rem 3 t9_27 t11_30)) fun t12_31 =>
   Do P (V (Instr.indexAt 42 w1 (.int .i64 1))) fun t13_33 =>
   Do P (V (Instr.loadAt 5 t13_33)) fun t14_34 =>
   Do P (V (binOp .rem 5 t14_34 (.int .u8 4))) fun t15_35 =>
   Do P (V (convert 5 3 t15_35)) fun t16_36 =>
   Do P (V (binOp .add 3 t12_31 t16_36)) fun t17_37 =>
   Do P (vBuiltin .len #[9] 3 [t6_24]) fun t18_39 =>
   Do P (vBuiltin .min #[3, 3] 3 [t17_37, t18_39]) fun t19_40 =>
   Dr <|
   Qk P (V (Instr.sliceAt 9 t6_24 none (some t12_31) none)) fun C20 t20_44 =>
   Qk P (V (binOp .add 9 t20_44 arg1)) fun C21 t21_46 =>
   Qk P (V (Instr.sliceAt 9 t6_24 (some t19_40) none none)) fun C22 t22_49 =>
   Qk P (V (binOp .add 9 t21_46 t22_49)) fun C23 t23_50 =>
   Qk P (V (Instr.sliceAt 9 t6_24 none (some t12_31) none)) fun C24 t24_53 =>
   Qk P (V (binOp .add 9 t6_24 (.string ⟨#[32]⟩))) fun C25 t25_55 =>
   Qk P (V (binOp .add 9 t25_55 arg1)) fun C26 t26_57 =>
   Do P (vBuildSlice 48 4 [(0, arg1), (1, t23_50), (2, t24_53), (3, t26_57)]) fun t27_58 =>
   Lp (α := Value) (fun c28 s28 => Jk fun _ => -- n
    Do P (vBuiltin .len #[48] 3 [t27_58]) fun t29_61 =>
    Do P (V (binOp .lss 3 s28 t29_61)) fun t30_62 =>
    If t30_62 (
     Do P (V (Instr.indexAt 48 t27_58 s28)) fun t31_68 =>
     Do P (V (Instr.loadAt 9 t31_68)) fun t32_69 =>
     Do P (vCall (.func (.func 23) #[] ⟨[]⟩) [t32_69]) fun t33_70 =>
     Do P (V (Instr.extract t33_70 0)) fun t34_71 =>
     Do P (V (Instr.extract t33_70 1)) fun t35_72 =>
     Do P (V (Instr.indexAt 48 t27_58 s28)) fun t36_76 =>
     Do P (V (Instr.loadAt 9 t36_76)) fun t37_77 =>
     Do P (vCall (.func (.func 25) #[] ⟨[]⟩) [t37_77]) fun t38_78 =>
     Do P (V (Instr.extract t38_78 0)) fun t39_79 =>
     Do P (V (Instr.extract t38_78 1)) fun t40_80 =>
     Jn (α := Value) (fun j41 => Jk fun _ => -- t102
      If j41 (
       K (.bool false)
      ) (
       Do P (V (binOp .add 3 s28 (.int .i64 1))) fun t42_64 =>
       c28 t42_64
      )
     ) fun k41 =>
     Dr <|
     Qk P (V (EqG .neq 43 (.tmp 81) (.tmp 82) t35_72 t40_80)) fun C43 t43_83 =>
     Gd t43_83 false (
      Do P (vCall (.func (.func 24) #[] ⟨[]⟩) [t34_71, t39_79]) fun t44_87 =>
      Qk P (V (Op.unary .not t44_87)) fun C45 t45_88 =>
      Gd t45_88 false (
       Qk P (V (EqG .eql 43 (.tmp 91) (.const (.int .i64 0)) t35_72 (.int .i64 0))) fun C46 t46_92 =>
       Gd t46_92 true (
        Qk P (V (Instr.indexAt 48 t27_58 s28)) fun C47 t47_98 =>
        Qk P (V (Instr.loadAt 9 t47_98)) fun C48 t48_99 =>
        Do P (vCall (.func (.func 20) #[] ⟨[]⟩) [t34_71]) fun t49_95 =>
        With C48 <|
        With C47 <|
        Qk P (V (EqG .neq 9 (.tmp 95) (.tmp 99) t49_95 t48_99)) fun C50 t50_100 =>
        k41 t50_100
       ) (
        k41 (.bool false)
       )
      ) (
       k41 (.bool true)
      )
     ) (
      k41 (.bool true)
     )
    ) (
     K t2_17
    )
   ) (.int .i64 0)
  )
def A5 : Ann := .s (.n) (.s (.n) (.s (.s (.n) (.s (.s (.n) (.n)) (.n))) (.s (.n) (.s (.n) (.s (.n) (.s (.plan [(0, 2, 2199023255552), (0, 256, 4398046511104), (0, 512, 8796093022208), (6, 13194139533312, 17592186044416), (0, 2, 35184372088832), (24, 52776558133248, 70368744177664), (0, 256, 140737488355328), (0, 1024, 281474976710656), (192, 422212465065984, 562949953421312), (288, 633318697598976, 1125899906842624), (0, 256, 2251799813685248), (0, 512, 4503599627370496), (3072, 6755399441055744, 9007199254740992), (0, 256, 18014398509481984), (8192, 18014398509481984, 36028797018963968), (0, 2, 72057594037927936), (49152, 108086391056891904, 144115188075855872), (70145, 154250486260695040, 288230376151711744), (262143, 288230376151711744, 2048)] (.q 0 (.q 1 (.q 2 (.q 3 (.q 4 (.q 5 (.q 6 (.q 7 (.q 8 (.q 9 (.q 10 (.q 11 (.q 12 (.q 13 (.q 14 (.q 15 (.q 16 (.l 17 (.q 18 .done)))))))))))))))))))) (.s (.s (.n) (.lp [12] 10141204801825258751221322346560 (.s (.s (.n) (.s (.n) (.n))) (.s (.s (.n) (.s (.n) (.j [102] 10141202383974195982715276230656 (.plan [(0, 16384, 2417851639229258349412352), (0, 65536, 4835703278458516698824704), (3, 7253554917687775048237056, 9671406556917033397649408), (4, 9671406556917033397649408, 19342813113834066795298816), (8, 19342813113834066795307008, 38685626227668133590597632), (8, 19342813113834066795331584, 77371252455336267181195264), (56, 135399691796838467567091712, 154742504910672534362390528), (72, 174085318024506601157689344, 309485009821345068724781056), (136, 328827822935179135520079872, 618970019642690137449562112), (320, 618970019642690137449562112, 1237940039285380274899124224), (512, 1237940039285380274899140608, 2475880078570760549798248448), (1536, 3713820117856140824697372672, 4951760157141521099596496896), (2560, 6189700196426901374495621120, 9903520314283042199192993792), (4096, 9903520314283042199193001984, 19807040628566084398385987584), (12288, 29710560942849126597578981376, 39614081257132168796771975168), (4096, 9903520314283042199192995840, 79228162514264337593543950336), (4096, 9903520314283042199192997888, 158456325028528675187087900672), (102400, 247588007857076054979824844800, 316912650057057350374175801344), (135168, 326816170371340392573368795136, 633825300114114700748351602688), (282624, 683342901685529911744316571648, 1267650600228229401496703205376), (528896, 1278792060581797823970795323392, 2535301200456458802993406410752), (1049088, 2536539140495744183268305534976, 5070602400912917605986812821504)] (.q 0 (.q 1 (.q 2 (.q 3 (.q 4 (.q 5 (.l 6 (.q 7 (.q 8 (.q 9 (.q 10 (.q 11 (.q 12 (.q 13 (.q 15 (.q 16 (.q 17 (.q 18 (.l 14 (.q 19 (.q 20 (.q 21 .done))))))))))))))))))))))) (.s (.s (.n) (.n)) (.n))))) (.n))))) (.s (.n) (.n)))))))))
set_option maxRecDepth 100000 in
theorem c5 (arg0 arg1 arg2 : Value) (K : Value → WP) (w : World) (h : s5 Tryz.prog arg0 arg1 arg2 K w) : Runs Tryz.prog 5 [arg0, arg1, arg2] K w :=
  runs_of_E wide (fn := Tryz.f5) (c := Tryz.f5.body.getD .skip) 104 A5 [arg0, arg1, arg2] w K Tryz.func5 (by kernel_rfl) (by kernel_rfl) (by kernel_rfl) (by kernel_rfl)
    (Eq.mp (by kernel_rfl : s5 Tryz.prog arg0 arg1 arg2 K w = E Tryz.prog (Tryz.f5.body.getD .skip) A5 (topK Tryz.prog K Tryz.f5.results) (fun i => (([arg0, arg1, arg2] : List Value)[i]?).getD undef) w) h)
theorem ct5 {arg0 arg1 arg2 : Value} {h : Hp} {post : Hp → Value → Prop} (hg : ∀ w0, Gs w0 h h [] (s5 Tryz.prog arg0 arg1 arg2 (RetP w0 h post))) : Ct Tryz.prog 5 [arg0, arg1, arg2] h post := Ct.of (sf := s5 Tryz.prog arg0 arg1 arg2) (c5 arg0 arg1 arg2) hg
theorem in5 {arg0 arg1 arg2 : Value} {S : WP} {K : Value → WP} (hg : G S (s5 Tryz.prog arg0 arg1 arg2 K)) : G S (Do Tryz.prog (vCall (.func (.func 5) #[] ⟨[]⟩) [arg0, arg1, arg2]) K) := Gs.into (args := [arg0, arg1, arg2]) (caps := []) (sf := s5 Tryz.prog arg0 arg1 arg2) (c5 arg0 arg1 arg2) hg

/- skewer/skewerlaw02.ProgTurns : names 0 l, 1 w, 2 l, 3 w, 5 up, 6 p, 7 to, 8 back, 9 i, 10 k, 11 i, 12 q, 13 i, 14 want, 15 dirs, 16 turned, 17 i, 18 found, 19 k -/
def s6 (P : Program) (arg0 arg1 : Value) (K : Value → WP) : WP :=
  Do P (V (Instr.box 50 arg1)) fun w1 =>
  Do P (vCall (.func (.func 10) #[] ⟨[]⟩) []) fun t2_20 =>
  Jn (α := Value × Value × Value) (fun j3 => Jk fun _ => -- p to back
   Lp (α := Value) (fun c4 s4 => Jk fun _ => -- i
    Do P (V (binOp .lss 3 s4 (.int .i64 8))) fun t5_26 =>
    If t5_26 (
     Do P (V (Instr.indexAt 50 w1 s4)) fun t6_30 =>
     Do P (V (Instr.loadAt 5 t6_30)) fun t7_31 =>
     Do P (V (convert 5 3 t7_31)) fun t8_32 =>
     Do P (V (binOp .rem 3 t8_32 (.int .i64 8))) fun t9_33 =>
     Dr <|
     Qk P (V (Instr.indexAt 33 j3.2.1 t9_33)) fun C10 t10_40 =>
     Qk P (V (Instr.loadAt 3 t10_40)) fun C11 t11_41 =>
     Qk P (V (Instr.indexAt 33 j3.2.1 s4)) fun C12 t12_44 =>
     Qk P (V (Instr.loadAt 3 t12_44)) fun C13 t13_45 =>
     Qk P (V (Instr.indexAt 33 j3.2.1 s4)) fun C14 t14_46 =>
     Do P (U (Instr.storeAt 3 t14_46 t11_41)) fun t15_x =>
     Qk P (V (Instr.indexAt 33 j3.2.1 t9_33)) fun C16 t16_47 =>
     Do P (U (Instr.storeAt 3 t16_47 t13_45)) fun t17_x =>
     Do P (V (binOp .add 3 s4 (.int .i64 1))) fun t18_28 =>
     c4 t18_28
    ) (
     Lp (α := Value) (fun c19 s19 => Jk fun _ => -- i
      Do P (V (binOp .lss 3 s19 (.int .i64 8))) fun t20_49 =>
      If t20_49 (
       Do P (V (Instr.indexAt 33 j3.2.1 s19)) fun t21_55 =>
       Do P (V (Instr.loadAt 3 t21_55)) fun t22_56 =>
       Do P (V (Instr.indexAt 33 j3.2.2 t22_56)) fun t23_58 =>
       Do P (U (Instr.storeAt 3 t23_58 s19)) fun t24_x =>
       Do P (V (binOp .add 3 s19 (.int .i64 1))) fun t25_51 =>
       c19 t25_51
      ) (
       Do P (vCall (.func (.func 26) #[] ⟨[]⟩) [j3.1, j3.2.1]) fun t26_61 =>
       Jn (α := Value) (fun j27 => Jk fun _ => -- t86
        If j27 (
         K (.bool false)
        ) (
         Lp (α := Value) (fun c28 s28 => Jk fun _ => -- i
          Do P (vBuiltin .len #[26] 3 [j3.1]) fun t29_89 =>
          Do P (V (binOp .lss 3 s28 t29_89)) fun t30_90 =>
          If t30_90 (
           Do P (V (Instr.indexAt 26 j3.1 s28)) fun t31_95 =>
           Do P (V (Instr.loadAt 41 t31_95)) fun t32_96 =>
           Do P (V (Instr.alloc 41 true (.tuple #[]))) fun want33 =>
           Do P (U (Instr.storeAt 41 want33 t32_96)) fun t34_x =>
           Jn (α := Unit) (fun j35 => Jk fun _ => -- 
            Dr <|
            Qk P (V (Instr.indexAt 26 t26_61 s28)) fun C36 t36_113 =>
            Qk P (V (Instr.loadAt 41 t36_113)) fun C37 t37_114 =>
            Qk P (V (Instr.loadAt 41 want33)) fun C38 t38_115 =>
            Qk P (V (EqG .neq 41 (.tmp 114) (.tmp 115) t37_114 t38_115)) fun C39 t39_116 =>
            If t39_116 (
             K (.bool false)
            ) (
             Do P (V (binOp .add 3 s28 (.int .i64 1))) fun t40_92 =>
             c28 t40_92
            )
           ) fun k35 =>
           Do P (V (Instr.indexAt 26 j3.1 s28)) fun t41_99 =>
           Do P (V (Instr.loadAt 41 t41_99)) fun t42_100 =>
           Do P (vCall (.func (.func 27) #[] ⟨[]⟩) [t42_100]) fun t43_101 =>
           If t43_101 (
            Do P (V (Instr.indexAt 26 j3.1 s28)) fun t44_105 =>
            Do P (V (Instr.fieldAt 41 t44_105 1)) fun t45_106 =>
            Do P (V (Instr.loadAt 3 t45_106)) fun t46_107 =>
            Do P (V (Instr.indexAt 33 j3.2.1 t46_107)) fun t47_108 =>
            Do P (V (Instr.loadAt 3 t47_108)) fun t48_109 =>
            Do P (V (Instr.fieldAt 41 want33 1)) fun t49_110 =>
            Do P (U (Instr.storeAt 3 t49_110 t48_109)) fun t50_x =>
            k35 ()
           ) (
            k35 ()
           )
          ) (
           Do P (vCall (.func (.func 18) #[] ⟨[]⟩) [j3.1]) fun t51_118 =>
           Do P (vCall (.func (.func 18) #[] ⟨[]⟩) [t26_61]) fun t52_120 =>
           Do P (vBuiltin .len #[33] 3 [t51_118]) fun t53_122 =>
           Do P (vBuiltin .len #[33] 3 [t52_120]) fun t54_124 =>
           Do P (V (EqG .neq 3 (.tmp 122) (.tmp 124) t53_122 t54_124)) fun t55_125 =>
           If t55_125 (
            K (.bool false)
           ) (
            Lp (α := Value) (fun c56 s56 => Jk fun _ => -- i
             Do P (vBuiltin .len #[33] 3 [t51_118]) fun t57_128 =>
             Do P (V (binOp .lss 3 s56 t57_128)) fun t58_129 =>
             If t58_129 (
              Jn (α := Value) (fun j59 => Jk fun _ => -- t145
               If j59 (
                K (.bool false)
               ) (
                Lp (α := Value × Value) (fun c60 s60 => Jk fun _ => -- found k
                 Do P (vBuiltin .len #[33] 3 [t52_120]) fun t61_148 =>
                 Do P (V (binOp .lss 3 s60.2 t61_148)) fun t62_149 =>
                 If t62_149 (
                  Jn (α := Value) (fun j63 => Jk fun _ => -- found
                   Do P (V (binOp .add 3 s60.2 (.int .i64 1))) fun t64_151 =>
                   c60 (j63, t64_151)
                  ) fun k63 =>
                  Dr <|
                  Gd s60.1 false (
                   Qk P (V (Instr.indexAt 33 t51_118 s56)) fun C65 t65_156 =>
                   Qk P (V (Instr.loadAt 3 t65_156)) fun C66 t66_157 =>
                   Qk P (V (binOp .geq 3 t66_157 (.int .i64 0))) fun C67 t67_158 =>
                   Gd t67_158 true (
                    Qk P (V (Instr.indexAt 33 t51_118 s56)) fun C68 t68_162 =>
                    Qk P (V (Instr.loadAt 3 t68_162)) fun C69 t69_163 =>
                    Qk P (V (binOp .lss 3 t69_163 (.int .i64 8))) fun C70 t70_164 =>
                    Gd t70_164 true (
                     Qk P (V (Instr.indexAt 33 t52_120 s60.2)) fun C71 t71_169 =>
                     Qk P (V (Instr.loadAt 3 t71_169)) fun C72 t72_170 =>
                     Qk P (V (Instr.indexAt 33 t51_118 s56)) fun C73 t73_174 =>
                     Qk P (V (Instr.loadAt 3 t73_174)) fun C74 t74_175 =>
                     Qk P (V (Instr.indexAt 33 j3.2.1 t74_175)) fun C75 t75_176 =>
                     Qk P (V (Instr.loadAt 3 t75_176)) fun C76 t76_177 =>
                     Qk P (V (EqG .eql 3 (.tmp 170) (.tmp 177) t72_170 t76_177)) fun C77 t77_178 =>
                     k63 t77_178
                    ) (
                     k63 (.bool false)
                    )
                   ) (
                    k63 (.bool false)
                   )
                  ) (
                   k63 (.bool true)
                  )
                 ) (
                  Do P (V (Op.unary .not s60.1)) fun t78_182 =>
                  If t78_182 (
                   K (.bool false)
                  ) (
                   Do P (V (binOp .add 3 s56 (.int .i64 1))) fun t79_131 =>
                   c56 t79_131
                  )
                 )
                ) ((.bool false), (.int .i64 0))
               )
              ) fun k59 =>
              Dr <|
              Qk P (V (binOp .gtr 3 s56 (.int .i64 0))) fun C80 t80_133 =>
              Gd t80_133 true (
               Qk P (V (binOp .sub 3 s56 (.int .i64 1))) fun C81 t81_137 =>
               Qk P (V (Instr.indexAt 33 t52_120 t81_137)) fun C82 t82_138 =>
               Qk P (V (Instr.loadAt 3 t82_138)) fun C83 t83_139 =>
               Qk P (V (Instr.indexAt 33 t52_120 s56)) fun C84 t84_142 =>
               Qk P (V (Instr.loadAt 3 t84_142)) fun C85 t85_143 =>
               Qk P (V (binOp .geq 3 t83_139 t85_143)) fun C86 t86_144 =>
               k59 t86_144
              ) (
               k59 (.bool false)
              )
             ) (
              K t2_20
             )
            ) (.int .i64 0)
           )
          )
         ) (.int .i64 0)
        )
       ) fun k27 =>
       Do P (vBuiltin .len #[26] 3 [t26_61]) fun t87_63 =>
       Do P (vBuiltin .len #[26] 3 [j3.1]) fun t88_65 =>
       Do P (V (EqG .neq 3 (.tmp 63) (.tmp 65) t87_63 t88_65)) fun t89_66 =>
       Gd t89_66 false (
        Do P (vCall (.func (.func 26) #[] ⟨[]⟩) [t26_61, j3.2.2]) fun t90_70 =>
        Do P (vCall (.func (.func 24) #[] ⟨[]⟩) [t90_70, j3.1]) fun t91_72 =>
        Do P (V (Op.unary .not t91_72)) fun t92_73 =>
        Gd t92_73 false (
         Do P (vCall (.func (.func 15) #[] ⟨[]⟩) [t26_61]) fun t93_77 =>
         Do P (vCall (.func (.func 15) #[] ⟨[]⟩) [j3.1]) fun t94_79 =>
         Do P (V (EqG .neq 4 (.tmp 77) (.tmp 79) t93_77 t94_79)) fun t95_80 =>
         Gd t95_80 false (
          Do P (vCall (.func (.func 13) #[] ⟨[]⟩) [t26_61, (.int .i64 8), (.int .i64 6), (.int .i64 4)]) fun t96_84 =>
          Do P (V (Op.unary .not t96_84)) fun t97_85 =>
          k27 t97_85
         ) (
          k27 (.bool true)
         )
        ) (
         k27 (.bool true)
        )
       ) (
        k27 (.bool true)
       )
      )
     ) (.int .i64 0)
    )
   ) (.int .i64 0)
  ) fun k3 =>
  Dr <|
  Or2 (
   Do P (vCall (.func (.func 11) #[] ⟨[]⟩) [arg0]) fun t98_22 =>
   Or2 (
    Do P (vBuildSlice 33 8 [(0, (.int .i64 0)), (1, (.int .i64 1)), (2, (.int .i64 2)), (3, (.int .i64 3)), (4, (.int .i64 4)), (5, (.int .i64 5)), (6, (.int .i64 6)), (7, (.int .i64 7))]) fun t99_23 =>
    Do P (V (Instr.makeSlice 33 (.int .i64 8) (.int .i64 8))) fun t100_24 =>
    k3 (t98_22, t99_23, t100_24)
   ) (
    Do P (V (Instr.makeSlice 33 (.int .i64 8) (.int .i64 8))) fun t101_24 =>
    Do P (vBuildSlice 33 8 [(0, (.int .i64 0)), (1, (.int .i64 1)), (2, (.int .i64 2)), (3, (.int .i64 3)), (4, (.int .i64 4)), (5, (.int .i64 5)), (6, (.int .i64 6)), (7, (.int .i64 7))]) fun t102_23 =>
    k3 (t98_22, t102_23, t101_24)
   )
  ) (
   Or2 (
    Do P (vBuildSlice 33 8 [(0, (.int .i64 0)), (1, (.int .i64 1)), (2, (.int .i64 2)), (3, (.int .i64 3)), (4, (.int .i64 4)), (5, (.int .i64 5)), (6, (.int .i64 6)), (7, (.int .i64 7))]) fun t103_23 =>
    Or2 (
     Do P (vCall (.func (.func 11) #[] ⟨[]⟩) [arg0]) fun t104_22 =>
     Do P (V (Instr.makeSlice 33 (.int .i64 8) (.int .i64 8))) fun t105_24 =>
     k3 (t104_22, t103_23, t105_24)
    ) (
     Do P (V (Instr.makeSlice 33 (.int .i64 8) (.int .i64 8))) fun t106_24 =>
     Do P (vCall (.func (.func 11) #[] ⟨[]⟩) [arg0]) fun t107_22 =>
     k3 (t107_22, t103_23, t106_24)
    )
   ) (
    Do P (V (Instr.makeSlice 33 (.int .i64 8) (.int .i64 8))) fun t108_24 =>
    Or2 (
     Do P (vCall (.func (.func 11) #[] ⟨[]⟩) [arg0]) fun t109_22 =>
     Do P (vBuildSlice 33 8 [(0, (.int .i64 0)), (1, (.int .i64 1)), (2, (.int .i64 2)), (3, (.int .i64 3)), (4, (.int .i64 4)), (5, (.int .i64 5)), (6, (.int .i64 6)), (7, (.int .i64 7))]) fun t110_23 =>
     k3 (t109_22, t110_23, t108_24)
    ) (
     Do P (vBuildSlice 33 8 [(0, (.int .i64 0)), (1, (.int .i64 1)), (2, (.int .i64 2)), (3, (.int .i64 3)), (4, (.int .i64 4)), (5, (.int .i64 5)), (6, (.int .i64 6)), (7, (.int .i64 7))]) fun t111_23 =>
     Do P (vCall (.func (.func 11) #[] ⟨[]⟩) [arg0]) fun t112_22 =>
     k3 (t112_22, t111_23, t108_24)
    )
   )
  )
def A6 : Ann := .s (.n) (.s (.n) (.j [6, 7, 8] 31457728 (.plan [(0, 1, 2097152), (1, 2097152, 4194304), (0, 0, 8388608), (0, 0, 16777216), (3, 4194304, 64), (23, 8388608, 128), (63, 16777216, 256)] (.q 0 (.or (.l 1 (.q 4 (.or (.l 2 (.q 5 (.l 3 (.q 6 .done)))) (.l 3 (.l 2 (.q 5 (.q 6 .done))))))) (.or (.l 2 (.or (.l 1 (.q 4 (.q 5 (.l 3 (.q 6 .done))))) (.l 3 (.l 1 (.q 4 (.q 5 (.q 6 .done))))))) (.l 3 (.or (.l 1 (.q 4 (.l 2 (.q 5 (.q 6 .done))))) (.l 2 (.l 1 (.q 4 (.q 5 (.q 6 .done))))))))))) (.s (.s (.n) (.lp [9] 281474943157760 (.s (.s (.n) (.s (.n) (.n))) (.s (.s (.n) (.plan [(0, 128, 17179869184), (0, 512, 34359738368), (0, 128, 68719476736), (0, 1024, 137438953472), (0, 128, 274877906944), (0, 1024, 549755813888), (48, 824633720832, 1099511627776), (64, 1099511627776, 2199023255552), (0, 128, 4398046511104), (0, 512, 8796093022208), (768, 13194139533312, 17592186044416), (1024, 17592186044416, 35184372088832), (2291, 51539607552, 70368744177664), (6387, 72567767433216, 0), (16383, 206158430208, 140737488355328), (32767, 175921860444160, 0)] (.q 0 (.q 1 (.q 2 (.q 3 (.q 4 (.q 5 (.q 6 (.q 7 (.q 8 (.q 9 (.q 10 (.q 11 (.q 12 (.l 13 (.q 14 (.l 15 .done)))))))))))))))))) (.n))))) (.s (.s (.n) (.lp [11] 576179277326714880 (.s (.s (.n) (.s (.n) (.n))) (.s (.n) (.n))))) (.s (.n) (.s (.j [86] 154742500298986515935002624 (.n) (.s (.s (.n) (.n)) (.n))) (.s (.s (.n) (.lp [13] 166153499318371979202303348172677136 (.s (.s (.n) (.s (.n) (.n))) (.s (.s (.n) (.j [] 2595989972942385285590061076709376 (.s (.n) (.s (.n) (.n))) (.s (.plan [(0, 4096, 2596148429267413814265248164610048), (0, 8192, 5192296858534827628530496329220096), (3, 7788445287802241442795744493830144, 10384593717069655257060992658440192), (4, 10384593717069655257060992658440192, 20769187434139310514121985316880384), (0, 16384, 41538374868278621028243970633760768), (24, 62307562302417931542365955950641152, 83076749736557242056487941267521536)] (.q 0 (.q 1 (.q 2 (.q 3 (.q 4 (.q 5 .done))))))) (.s (.s (.n) (.n)) (.n))))) (.n))))) (.s (.n) (.s (.s (.n) (.s (.s (.n) (.n)) (.n))) (.s (.s (.n) (.lp [17] 12259964326927110781796184486967857603106261119527682064 (.s (.s (.n) (.s (.n) (.n))) (.s (.s (.j [145] 89197536276251757550727459096874537732538368 (.plan [(0, 131072, 5444517870735015415413993718908291383296), (1, 5444517870735015415413993718908291383296, 10889035741470030830827987437816582766592), (2, 10889035741470030830827987437816582766592, 21778071482940061661655974875633165533184), (4, 21778071482940061661655974875633165598720, 43556142965880123323311949751266331066368), (4, 21778071482940061661655974875633165664256, 87112285931760246646623899502532662132736), (20, 108890357414700308308279874378165827665920, 174224571863520493293247799005065324265472), (44, 239558786312340678278215723631964820865024, 348449143727040986586495598010130648530944), (68, 370227215209981048248151572885763814064128, 696898287454081973172991196020261297061888), (4, 21778071482940061661655974875633165598720, 1393796574908163946345982392040522594123776), (4, 21778071482940061661655974875633165664256, 2787593149816327892691964784081045188247552), (772, 4203167796207431900699603150997200947904512, 5575186299632655785383929568162090376495104), (1028, 5596964371115595847045585543037723542028288, 11150372599265311570767859136324180752990208), (2180, 11869048958202333605602506307220075215585280, 22300745198530623141535718272648361505980416), (4100, 22322523270013563203197374247523994671513600, 44601490397061246283071436545296723011960832)] (.q 0 (.q 1 (.q 2 (.q 3 (.q 4 (.q 5 (.q 6 (.q 7 (.q 8 (.q 9 (.q 10 (.q 11 (.q 12 (.q 13 .done))))))))))))))) (.s (.s (.n) (.n)) (.n))) (.s (.n) (.s (.s (.n) (.lp [18, 19] 3064991081642574735922571561734475494146884798344069120 (.s (.s (.n) (.s (.n) (.n))) (.j [18] 3064991076022786945892854530067474489439497698836480000 (.plan [(0, 262144, 5708990770823839524233143877797980545530986496), (1, 5708990770823839524233143877797980545530986496, 11417981541647679048466287755595961091061972992), (2, 11417981541647679048466287755595961091062005760, 22835963083295358096932575511191922182123945984), (2, 11417981541647679048466287755595961091062104064, 45671926166590716193865151022383844364247891968), (14, 79925870791533753339264014289171727637433810944, 91343852333181432387730302044767688728495783936), (18, 102761833874829111436196589800363649819557756928, 182687704666362864775460604089535377456991567872), (34, 194105686208010543823926891845131338548053540864, 365375409332725729550921208179070754913983135744), (66, 376793390874373408599387495934666716005045108736, 730750818665451459101842416358141509827966271488), (128, 730750818665451459101842416358141509827966304256, 1461501637330902918203684832716283019655932542976), (128, 730750818665451459101842416358141509827966402560, 2923003274661805836407369665432566039311865085952), (896, 5115255730658160213712896914506990568795763900416, 5846006549323611672814739330865132078623730171904), (1152, 6576757367989063131916581747223273588451696443392, 11692013098647223345629478661730264157247460343808), (2176, 12422763917312674804731321078088405667075426615296, 23384026197294446691258957323460528314494920687616), (4226, 24126194997501545829409266027574265785413948932096, 46768052394588893382517914646921056628989841375232), (8322, 46779470376130541061566380934676652590080903348224, 93536104789177786765035829293842113257979682750464), (16384, 93536104789177786765035829293842113257979682816000, 187072209578355573530071658587684226515959365500928), (16384, 93536104789177786765035829293842113257979683274752, 374144419156711147060143317175368453031918731001856), (114688, 654752733524244507355250805056894792805857779253248, 748288838313422294120286634350736906063837462003712), (147456, 841824943102600080885322463644579019321817144754176, 1496577676626844588240573268701473812127674924007424), (16384, 93536104789177786765035829293842113257979682750592, 2993155353253689176481146537402947624255349848014848), (16384, 93536104789177786765035829293842113257979682783232, 5986310706507378352962293074805895248510699696029696), (16384, 93536104789177786765035829293842113257979682881536, 11972621413014756705924586149611790497021399392059392), (3162112, 18052468224311312845651915053711527858790078770839552, 23945242826029513411849172299223580994042798784118784), (4210688, 24038778930818691198614208128517423107300778466869248, 47890485652059026823698344598447161988085597568237568), (8929280, 50977177110101893786944526965143951725598927099002880, 95780971304118053647396689196894323976171195136475136), (16793600, 95874507408907231434161725026188166089429174819225600, 191561942608236107294793378393788647952342390272950272), (33832960, 193152056389652129669798987491783963877728044879708160, 383123885216472214589586756787577295904684780545900544), (67125250, 383217432739242934024030841083158893613903851290624000, 766247770432944429179173513575154591809369561091801088), (134217730, 766247781850925970826852562041442347405330652153774080, 1532495540865888858358347027150309183618739122183602176), (536870911, 1532495540865888858358347027150309183618739122183602176, 262144)] (.q 0 (.q 1 (.q 2 (.q 3 (.q 4 (.q 5 (.q 6 (.q 7 (.q 8 (.q 9 (.q 10 (.q 11 (.q 12 (.q 13 (.q 14 (.q 15 (.q 16 (.q 17 (.q 18 (.q 19 (.q 20 (.q 21 (.q 22 (.q 23 (.q 24 (.q 25 (.q 26 (.q 27 (.q 28 (.q 29 .done))))))))))))))))))))))))))))))) (.n))))) (.s (.n) (.s (.s (.n) (.n)) (.n)))))) (.n))))) (.s (.n) (.n))))))))))))
set_option maxRecDepth 100000 in
theorem c6 (arg0 arg1 : Value) (K : Value → WP) (w : World) (h : s6 Tryz.prog arg0 arg1 K w) : Runs Tryz.prog 6 [arg0, arg1] K w :=
  runs_of_E wide (fn := Tryz.f6) (c := Tryz.f6.body.getD .skip) 184 A6 [arg0, arg1] w K Tryz.func6 (by kernel_rfl) (by kernel_rfl) (by kernel_rfl) (by kernel_rfl)
    (Eq.mp (by kernel_rfl : s6 Tryz.prog arg0 arg1 K w = E Tryz.prog (Tryz.f6.body.getD .skip) A6 (topK Tryz.prog K Tryz.f6.results) (fun i => (([arg0, arg1] : List Value)[i]?).getD undef) w) h)
theorem ct6 {arg0 arg1 : Value} {h : Hp} {post : Hp → Value → Prop} (hg : ∀ w0, Gs w0 h h [] (s6 Tryz.prog arg0 arg1 (RetP w0 h post))) : Ct Tryz.prog 6 [arg0, arg1] h post := Ct.of (sf := s6 Tryz.prog arg0 arg1) (c6 arg0 arg1) hg
theorem in6 {arg0 arg1 : Value} {S : WP} {K : Value → WP} (hg : G S (s6 Tryz.prog arg0 arg1 K)) : G S (Do Tryz.prog (vCall (.func (.func 6) #[] ⟨[]⟩) [arg0, arg1]) K) := Gs.into (args := [arg0, arg1]) (caps := []) (sf := s6 Tryz.prog arg0 arg1) (c6 arg0 arg1) hg

/- skewer/skewerlaw02.ProgMore : names 0 l, 1 w, 2 more, 3 l, 4 w, 5 more, 7 up, 8 p, 9 n, 10 small, 11 great, 12 bare, 13 i -/
def s7 (P : Program) (arg0 arg1 arg2 : Value) (K : Value → WP) : WP :=
  Do P (V (Instr.box 54 arg1)) fun w1 =>
  Do P (V (Instr.box 54 arg2)) fun more2 =>
  Do P (vCall (.func (.func 10) #[] ⟨[]⟩) []) fun t3_14 =>
  Jn (α := Value × Value) (fun j4 => Jk fun _ => -- p n
   Dr <|
   Qk P (V (Instr.indexAt 24 j4.2 (.int .i64 0))) fun C5 t5_31 =>
   Qk P (V (Instr.loadAt 3 t5_31)) fun C6 t6_32 =>
   Qk P (V (Instr.indexAt 24 j4.2 (.int .i64 1))) fun C7 t7_33 =>
   Qk P (V (Instr.loadAt 3 t7_33)) fun C8 t8_34 =>
   Qk P (V (Instr.indexAt 24 j4.2 (.int .i64 2))) fun C9 t9_35 =>
   Qk P (V (Instr.loadAt 3 t9_35)) fun C10 t10_36 =>
   Qk P (V (Instr.indexAt 24 j4.2 (.int .i64 0))) fun C11 t11_39 =>
   Qk P (V (Instr.loadAt 3 t11_39)) fun C12 t12_40 =>
   Qk P (V (Instr.indexAt 54 more2 (.int .i64 0))) fun C13 t13_41 =>
   Qk P (V (Instr.loadAt 5 t13_41)) fun C14 t14_42 =>
   Qk P (V (convert 5 3 t14_42)) fun C15 t15_43 =>
   Qk P (V (binOp .add 3 t12_40 t15_43)) fun C16 t16_44 =>
   Qk P (V (Instr.indexAt 24 j4.2 (.int .i64 1))) fun C17 t17_45 =>
   Qk P (V (Instr.loadAt 3 t17_45)) fun C18 t18_46 =>
   Qk P (V (Instr.indexAt 54 more2 (.int .i64 1))) fun C19 t19_47 =>
   Qk P (V (Instr.loadAt 5 t19_47)) fun C20 t20_48 =>
   Qk P (V (convert 5 3 t20_48)) fun C21 t21_49 =>
   Qk P (V (binOp .add 3 t18_46 t21_49)) fun C22 t22_50 =>
   Qk P (V (Instr.indexAt 24 j4.2 (.int .i64 2))) fun C23 t23_51 =>
   Qk P (V (Instr.loadAt 3 t23_51)) fun C24 t24_52 =>
   Qk P (V (Instr.indexAt 54 more2 (.int .i64 2))) fun C25 t25_53 =>
   Qk P (V (Instr.loadAt 5 t25_53)) fun C26 t26_54 =>
   Qk P (V (convert 5 3 t26_54)) fun C27 t27_55 =>
   Qk P (V (binOp .add 3 t24_52 t27_55)) fun C28 t28_56 =>
   Do P (vCall (.func (.func 13) #[] ⟨[]⟩) [j4.1, t6_32, t8_34, t10_36]) fun t29_37 =>
   With C28 <|
   With C27 <|
   With C26 <|
   With C25 <|
   With C24 <|
   With C23 <|
   With C22 <|
   With C21 <|
   With C20 <|
   With C19 <|
   With C18 <|
   With C17 <|
   With C16 <|
   With C15 <|
   With C14 <|
   With C13 <|
   With C12 <|
   With C11 <|
   Do P (vCall (.func (.func 13) #[] ⟨[]⟩) [j4.1, t16_44, t22_50, t28_56]) fun t30_57 =>
   Jn (α := Value) (fun j31 => Jk fun _ => -- t62
    If j31 (
     K (.bool false)
    ) (
     Lp (α := Value × Value) (fun c32 s32 => Jk fun _ => -- bare i
      Do P (vBuiltin .len #[26] 3 [j4.1]) fun t33_65 =>
      Do P (V (binOp .lss 3 s32.2 t33_65)) fun t34_66 =>
      If t34_66 (
       Jn (α := Value) (fun j35 => Jk fun _ => -- bare
        Do P (V (binOp .add 3 s32.2 (.int .i64 1))) fun t36_68 =>
        c32 (j35, t36_68)
       ) fun k35 =>
       Gd s32.1 true (
        Do P (V (Instr.indexAt 26 j4.1 s32.2)) fun t37_73 =>
        Do P (V (Instr.fieldAt 41 t37_73 0)) fun t38_74 =>
        Do P (V (Instr.loadAt 3 t38_74)) fun t39_75 =>
        Do P (V (binOp .geq 3 t39_75 (.int .i64 3))) fun t40_76 =>
        Gd t40_76 true (
         Do P (V (Instr.indexAt 26 j4.1 s32.2)) fun t41_81 =>
         Do P (V (Instr.fieldAt 41 t41_81 0)) fun t42_82 =>
         Do P (V (Instr.loadAt 3 t42_82)) fun t43_83 =>
         Do P (V (binOp .leq 3 t43_83 (.int .i64 6))) fun t44_84 =>
         k35 t44_84
        ) (
         k35 (.bool false)
        )
       ) (
        k35 (.bool false)
       )
      ) (
       Do P (vCall (.func (.func 13) #[] ⟨[]⟩) [j4.1, (.int .i64 0), (.int .i64 0), (.int .i64 0)]) fun t45_87 =>
       Do P (V (EqG .eql 4 (.tmp 87) (.tmp 88) t45_87 s32.1)) fun t46_89 =>
       Gd t46_89 true (
        Do P (vCall (.func (.func 13) #[] ⟨[]⟩) [j4.1, (.int .i64 8), (.int .i64 6), (.int .i64 4)]) fun t47_92 =>
        Gd t47_92 true (
         K t3_14
        ) (
         K (.bool false)
        )
       ) (
        K (.bool false)
       )
      )
     ) ((.bool true), (.int .i64 0))
    )
   ) fun k31 =>
   Gd t29_37 true (
    Do P (V (Op.unary .not t30_57)) fun t48_61 =>
    k31 t48_61
   ) (
    k31 (.bool false)
   )
  ) fun k4 =>
  Dr <|
  Qk P (V (Instr.indexAt 54 w1 (.int .i64 0))) fun C49 t49_17 =>
  Qk P (V (Instr.loadAt 5 t49_17)) fun C50 t50_18 =>
  Qk P (V (binOp .rem 5 t50_18 (.int .u8 9))) fun C51 t51_19 =>
  Qk P (V (convert 5 3 t51_19)) fun C52 t52_20 =>
  Qk P (V (Instr.indexAt 54 w1 (.int .i64 1))) fun C53 t53_21 =>
  Qk P (V (Instr.loadAt 5 t53_21)) fun C54 t54_22 =>
  Qk P (V (binOp .rem 5 t54_22 (.int .u8 9))) fun C55 t55_23 =>
  Qk P (V (convert 5 3 t55_23)) fun C56 t56_24 =>
  Qk P (V (Instr.indexAt 54 w1 (.int .i64 2))) fun C57 t57_25 =>
  Qk P (V (Instr.loadAt 5 t57_25)) fun C58 t58_26 =>
  Qk P (V (binOp .rem 5 t58_26 (.int .u8 9))) fun C59 t59_27 =>
  Qk P (V (convert 5 3 t59_27)) fun C60 t60_28 =>
  Qk P (vBuild 24 [(0, t52_20), (1, t56_24), (2, t60_28)]) fun C61 t61_29 =>
  Or2 (
   Do P (vCall (.func (.func 11) #[] ⟨[]⟩) [arg0]) fun t62_16 =>
   With C61 <|
   With C60 <|
   With C59 <|
   With C58 <|
   With C57 <|
   With C56 <|
   With C55 <|
   With C54 <|
   With C53 <|
   With C52 <|
   With C51 <|
   With C50 <|
   With C49 <|
   Do P (V (Instr.alloc 24 true (.tuple #[]))) fun n63 =>
   With C61 <|
   With C60 <|
   With C59 <|
   With C58 <|
   With C57 <|
   With C56 <|
   With C55 <|
   With C54 <|
   With C53 <|
   With C52 <|
   With C51 <|
   With C50 <|
   With C49 <|
   Do P (U (Instr.storeAt 24 n63 t61_29)) fun t64_x =>
   k4 (t62_16, n63)
  ) (
   Do P (V (Instr.alloc 24 true (.tuple #[]))) fun n65 =>
   With C61 <|
   With C60 <|
   With C59 <|
   With C58 <|
   With C57 <|
   With C56 <|
   With C55 <|
   With C54 <|
   With C53 <|
   With C52 <|
   With C51 <|
   With C50 <|
   With C49 <|
   Do P (vCall (.func (.func 11) #[] ⟨[]⟩) [arg0]) fun t66_16 =>
   With C61 <|
   With C60 <|
   With C59 <|
   With C58 <|
   With C57 <|
   With C56 <|
   With C55 <|
   With C54 <|
   With C53 <|
   With C52 <|
   With C51 <|
   With C50 <|
   With C49 <|
   Do P (U (Instr.storeAt 24 n65 t61_29)) fun t67_x =>
   k4 (t66_16, n65)
  )
def A7 : Ann := .s (.n) (.s (.n) (.j [8, 9] 1073709824 (.plan [(0, 1, 32768), (1, 32768, 65536), (0, 16, 131072), (4, 131072, 262144), (8, 262144, 524288), (16, 524288, 1048576), (0, 16, 2097152), (64, 2097152, 4194304), (128, 4194304, 8388608), (256, 8388608, 16777216), (0, 16, 33554432), (1024, 33554432, 67108864), (2048, 67108864, 134217728), (4096, 134217728, 268435456), (8736, 286261248, 536870912), (0, 0, 512), (32771, 65536, 256), (131071, 536871424, 0)] (.q 0 (.q 2 (.q 3 (.q 4 (.q 5 (.q 6 (.q 7 (.q 8 (.q 9 (.q 10 (.q 11 (.q 12 (.q 13 (.q 14 (.or (.l 1 (.l 15 (.q 16 (.l 17 .done)))) (.l 15 (.l 1 (.q 16 (.l 17 .done)))))))))))))))))))) (.s (.plan [(0, 256, 1073741824), (0, 512, 2147483648), (2, 2147483648, 4294967296), (0, 512, 8589934592), (8, 8589934592, 17179869184), (0, 512, 34359738368), (32, 34359738368, 68719476736), (85, 91268055040, 137438953472), (0, 256, 274877906944), (0, 512, 549755813888), (512, 549755813888, 1099511627776), (0, 32, 2199023255552), (2048, 2199023255552, 4398046511104), (4096, 4398046511104, 8796093022208), (9216, 9895604649984, 17592186044416), (0, 512, 35184372088832), (32768, 35184372088832, 70368744177664), (0, 32, 140737488355328), (131072, 140737488355328, 281474976710656), (262144, 281474976710656, 562949953421312), (589824, 633318697598976, 1125899906842624), (0, 512, 2251799813685248), (2097152, 2251799813685248, 4503599627370496), (0, 32, 9007199254740992), (8388608, 9007199254740992, 18014398509481984), (16777216, 18014398509481984, 36028797018963968), (37748736, 40532396646334464, 72057594037927936), (68174208, 73201361008721920, 144115188075855872), (134217983, 137438953472, 1024), (536870911, 144115188075855872, 2048)] (.q 0 (.q 1 (.q 2 (.q 3 (.q 4 (.q 5 (.q 6 (.q 8 (.q 9 (.q 10 (.q 11 (.q 12 (.q 13 (.q 14 (.q 15 (.q 16 (.q 17 (.q 18 (.q 19 (.q 20 (.q 21 (.q 22 (.q 23 (.q 24 (.q 25 (.q 26 (.l 7 (.l 27 (.q 28 (.q 29 .done))))))))))))))))))))))))))))))) (.s (.j [62] 8935141660703064064 (.n) (.s (.s (.n) (.n)) (.n))) (.s (.n) (.s (.s (.n) (.lp [12, 13] 77371243231964230326431744 (.s (.s (.n) (.s (.n) (.n))) (.j [12] 77370662159525908475547648 (.n) (.n))))) (.s (.n) (.n))))))))
set_option maxRecDepth 100000 in
theorem c7 (arg0 arg1 arg2 : Value) (K : Value → WP) (w : World) (h : s7 Tryz.prog arg0 arg1 arg2 K w) : Runs Tryz.prog 7 [arg0, arg1, arg2] K w :=
  runs_of_E wide (fn := Tryz.f7) (c := Tryz.f7.body.getD .skip) 97 A7 [arg0, arg1, arg2] w K Tryz.func7 (by kernel_rfl) (by kernel_rfl) (by kernel_rfl) (by kernel_rfl)
    (Eq.mp (by kernel_rfl : s7 Tryz.prog arg0 arg1 arg2 K w = E Tryz.prog (Tryz.f7.body.getD .skip) A7 (topK Tryz.prog K Tryz.f7.results) (fun i => (([arg0, arg1, arg2] : List Value)[i]?).getD undef) w) h)
theorem ct7 {arg0 arg1 arg2 : Value} {h : Hp} {post : Hp → Value → Prop} (hg : ∀ w0, Gs w0 h h [] (s7 Tryz.prog arg0 arg1 arg2 (RetP w0 h post))) : Ct Tryz.prog 7 [arg0, arg1, arg2] h post := Ct.of (sf := s7 Tryz.prog arg0 arg1 arg2) (c7 arg0 arg1 arg2) hg
theorem in7 {arg0 arg1 arg2 : Value} {S : WP} {K : Value → WP} (hg : G S (s7 Tryz.prog arg0 arg1 arg2 K)) : G S (Do Tryz.prog (vCall (.func (.func 7) #[] ⟨[]⟩) [arg0, arg1, arg2]) K) := Gs.into (args := [arg0, arg1, arg2]) (caps := []) (sf := s7 Tryz.prog arg0 arg1 arg2) (c7 arg0 arg1 arg2) hg

/- skewer/skewerlaw02.ProgLimits : names 0 n, 1 counts, 2 w, 3 n, 4 counts, 5 w, 7 up, 8 all, 9 p, 10 plain, 11 i, 12 i, 13 takes, 14 pushes, 15 becomes, 16 i, 17 i, 18 i, 19 want -/
def s8 (P : Program) (arg0 arg1 arg2 : Value) (K : Value → WP) : WP :=
  Do P (V (Instr.box 54 arg1)) fun counts1 =>
  Do P (vCall (.func (.func 10) #[] ⟨[]⟩) []) fun t2_20 =>
  Do P (vCall (.func (.func 22) #[] ⟨[]⟩) []) fun t3_21 =>
  Do P (vBuildSlice 26 0 []) fun t4_22 =>
  Do P (vBuildSlice 23 0 []) fun t5_23 =>
  Lp (α := Value × Value) (fun c6 s6 => Jk fun _ => -- plain i
   Do P (vBuiltin .len #[23] 3 [t3_21]) fun t7_26 =>
   Do P (V (binOp .lss 3 s6.2 t7_26)) fun t8_27 =>
   If t8_27 (
    Jn (α := Value) (fun j9 => Jk fun _ => -- plain
     Do P (V (binOp .add 3 s6.2 (.int .i64 1))) fun t10_29 =>
     c6 (j9, t10_29)
    ) fun k9 =>
    Jn (α := Value) (fun j11 => Jk fun _ => -- t51
     If j11 (
      Do P (V (Instr.indexAt 23 t3_21 s6.2)) fun t12_55 =>
      Do P (V (Instr.loadAt 41 t12_55)) fun t13_56 =>
      Do P (vBuildSlice 23 1 [(0, t13_56)]) fun t14_57 =>
      Do P (vBuiltin .append #[23, 23] 23 [s6.1, t14_57]) fun t15_58 =>
      k9 t15_58
     ) (
      k9 s6.1
     )
    ) fun k11 =>
    Do P (V (Instr.indexAt 23 t3_21 s6.2)) fun t16_32 =>
    Do P (V (Instr.fieldAt 41 t16_32 0)) fun t17_33 =>
    Do P (V (Instr.loadAt 3 t17_33)) fun t18_34 =>
    Do P (V (EqG .neq 3 (.tmp 34) (.const (.int .i64 6)) t18_34 (.int .i64 6))) fun t19_35 =>
    Gd t19_35 true (
     Do P (V (Instr.indexAt 23 t3_21 s6.2)) fun t20_39 =>
     Do P (V (Instr.fieldAt 41 t20_39 0)) fun t21_40 =>
     Do P (V (Instr.loadAt 3 t21_40)) fun t22_41 =>
     Do P (V (EqG .neq 3 (.tmp 41) (.const (.int .i64 7)) t22_41 (.int .i64 7))) fun t23_42 =>
     Gd t23_42 true (
      Do P (V (Instr.indexAt 23 t3_21 s6.2)) fun t24_47 =>
      Do P (V (Instr.fieldAt 41 t24_47 0)) fun t25_48 =>
      Do P (V (Instr.loadAt 3 t25_48)) fun t26_49 =>
      Do P (V (EqG .neq 3 (.tmp 49) (.const (.int .i64 8)) t26_49 (.int .i64 8))) fun t27_50 =>
      k11 t27_50
     ) (
      k11 (.bool false)
     )
    ) (
     k11 (.bool false)
    )
   ) (
    Lp (α := Value × Value) (fun c28 s28 => Jk fun _ => -- p i
     Do P (V (binOp .rem 5 arg0 (.int .u8 10))) fun t29_61 =>
     Do P (V (convert 5 3 t29_61)) fun t30_62 =>
     Do P (V (binOp .lss 3 s28.2 t30_62)) fun t31_63 =>
     If t31_63 (
      Do P (V (convert 5 3 arg2)) fun t32_69 =>
      Do P (V (binOp .add 3 t32_69 s28.2)) fun t33_71 =>
      Do P (vBuiltin .len #[23] 3 [s6.1]) fun t34_73 =>
      Do P (V (binOp .rem 3 t33_71 t34_73)) fun t35_74 =>
      Do P (V (Instr.indexAt 23 s6.1 t35_74)) fun t36_75 =>
      Do P (V (Instr.loadAt 41 t36_75)) fun t37_76 =>
      Do P (vBuildSlice 26 1 [(0, t37_76)]) fun t38_77 =>
      Do P (vBuiltin .append #[26, 26] 26 [s28.1, t38_77]) fun t39_78 =>
      Do P (V (binOp .add 3 s28.2 (.int .i64 1))) fun t40_65 =>
      c28 (t39_78, t40_65)
     ) (
      Dr <|
      Qk P (V (Instr.indexAt 54 counts1 (.int .i64 0))) fun C41 t41_79 =>
      Qk P (V (Instr.loadAt 5 t41_79)) fun C42 t42_80 =>
      Qk P (V (binOp .rem 5 t42_80 (.int .u8 4))) fun C43 t43_81 =>
      Qk P (V (convert 5 3 t43_81)) fun C44 t44_82 =>
      Qk P (V (Instr.indexAt 54 counts1 (.int .i64 1))) fun C45 t45_83 =>
      Qk P (V (Instr.loadAt 5 t45_83)) fun C46 t46_84 =>
      Qk P (V (binOp .rem 5 t46_84 (.int .u8 3))) fun C47 t47_85 =>
      Qk P (V (convert 5 3 t47_85)) fun C48 t48_86 =>
      Qk P (V (Instr.indexAt 54 counts1 (.int .i64 2))) fun C49 t49_87 =>
      Qk P (V (Instr.loadAt 5 t49_87)) fun C50 t50_88 =>
      Qk P (V (binOp .rem 5 t50_88 (.int .u8 3))) fun C51 t51_89 =>
      Qk P (V (convert 5 3 t51_89)) fun C52 t52_90 =>
      Lp (α := Value × Value) (fun c53 s53 => Jk fun _ => -- p i
       Do P (V (binOp .lss 3 s53.2 t44_82)) fun t54_93 =>
       If t54_93 (
        Do P (vBuild 41 [(0, (.int .i64 6))]) fun t55_97 =>
        Do P (vBuildSlice 26 1 [(0, t55_97)]) fun t56_98 =>
        Do P (vBuiltin .append #[26, 26] 26 [s53.1, t56_98]) fun t57_99 =>
        Do P (V (binOp .add 3 s53.2 (.int .i64 1))) fun t58_95 =>
        c53 (t57_99, t58_95)
       ) (
        Lp (α := Value × Value) (fun c59 s59 => Jk fun _ => -- p i
         Do P (V (binOp .lss 3 s59.2 t48_86)) fun t60_102 =>
         If t60_102 (
          Do P (vBuild 41 [(0, (.int .i64 7)), (1, s59.2)]) fun t61_106 =>
          Do P (vBuildSlice 26 1 [(0, t61_106)]) fun t62_107 =>
          Do P (vBuiltin .append #[26, 26] 26 [t62_107, s59.1]) fun t63_109 =>
          Do P (V (binOp .add 3 s59.2 (.int .i64 1))) fun t64_104 =>
          c59 (t63_109, t64_104)
         ) (
          Lp (α := Value × Value) (fun c65 s65 => Jk fun _ => -- p i
           Do P (V (binOp .lss 3 s65.2 t52_90)) fun t66_112 =>
           If t66_112 (
            Do P (V (binOp .sub 3 (.int .i64 5) s65.2)) fun t67_117 =>
            Do P (vBuild 41 [(0, (.int .i64 8)), (1, t67_117)]) fun t68_118 =>
            Do P (vBuildSlice 26 1 [(0, t68_118)]) fun t69_119 =>
            Do P (vBuiltin .append #[26, 26] 26 [s65.1, t69_119]) fun t70_120 =>
            Do P (V (binOp .add 3 s65.2 (.int .i64 1))) fun t71_114 =>
            c65 (t70_120, t71_114)
           ) (
            Jn (α := Value) (fun j72 => Jk fun _ => -- want
             Do P (vCall (.func (.func 13) #[] ⟨[]⟩) [s65.1, (.int .i64 8), (.int .i64 6), (.int .i64 4)]) fun t73_142 =>
             Do P (V (EqG .eql 4 (.tmp 142) (.tmp 143) t73_142 j72)) fun t74_144 =>
             Gd t74_144 true (
              Do P (vCall (.func (.func 20) #[] ⟨[]⟩) [s65.1]) fun t75_147 =>
              Do P (V (EqG .neq 9 (.tmp 147) (.const (.string ⟨#[]⟩)) t75_147 (.string ⟨#[]⟩))) fun t76_148 =>
              Do P (V (EqG .eql 4 (.tmp 148) (.tmp 149) t76_148 j72)) fun t77_150 =>
              Gd t77_150 true (
               Do P (vCall (.func (.func 15) #[] ⟨[]⟩) [s65.1]) fun t78_154 =>
               Do P (V (binOp .gtr 3 t44_82 (.int .i64 0))) fun t79_156 =>
               Do P (V (EqG .eql 4 (.tmp 154) (.tmp 156) t78_154 t79_156)) fun t80_157 =>
               Gd t80_157 true (
                K t2_20
               ) (
                K (.bool false)
               )
              ) (
               K (.bool false)
              )
             ) (
              K (.bool false)
             )
            ) fun k72 =>
            Do P (vBuiltin .len #[26] 3 [s65.1]) fun t81_122 =>
            Do P (V (binOp .geq 3 t81_122 (.int .i64 1))) fun t82_123 =>
            Gd t82_123 true (
             Do P (vBuiltin .len #[26] 3 [s65.1]) fun t83_126 =>
             Do P (V (binOp .leq 3 t83_126 (.int .i64 8))) fun t84_127 =>
             Gd t84_127 true (
              Do P (V (binOp .leq 3 t44_82 (.int .i64 2))) fun t85_131 =>
              Gd t85_131 true (
               Do P (V (binOp .leq 3 t48_86 (.int .i64 1))) fun t86_135 =>
               Gd t86_135 true (
                Do P (V (binOp .leq 3 t52_90 (.int .i64 1))) fun t87_139 =>
                k72 t87_139
               ) (
                k72 (.bool false)
               )
              ) (
               k72 (.bool false)
              )
             ) (
              k72 (.bool false)
             )
            ) (
             k72 (.bool false)
            )
           )
          ) (s59.1, (.int .i64 0))
         )
        ) (s53.1, (.int .i64 0))
       )
      ) (s28.1, (.int .i64 0))
     )
    ) (t4_22, (.int .i64 0))
   )
  ) (t5_23, (.int .i64 0))
def A8 : Ann := .s (.n) (.s (.n) (.s (.n) (.s (.n) (.s (.s (.n) (.lp [10, 11] 576460752286649344 (.s (.s (.n) (.s (.n) (.n))) (.j [10] 576460751229682688 (.j [51] 4503598553628672 (.n) (.s (.n) (.n))) (.n))))) (.s (.s (.n) (.lp [9, 12] 604462333346562283934208 (.s (.s (.n) (.s (.n) (.n))) (.s (.n) (.n))))) (.s (.plan [(0, 16, 604462909807314587353088), (1, 604462909807314587353088, 1208925819614629174706176), (2, 1208925819614629174706176, 2417851639229258349412352), (4, 2417851639229258349412352, 4835703278458516698824704), (0, 16, 9671406556917033397649408), (16, 9671406556917033397649408, 19342813113834066795298816), (32, 19342813113834066795298816, 38685626227668133590597632), (64, 38685626227668133590597632, 77371252455336267181195264), (0, 16, 154742504910672534362390528), (256, 154742504910672534362390528, 309485009821345068724781056), (512, 309485009821345068724781056, 618970019642690137449562112), (1024, 618970019642690137449562112, 1237940039285380274899124224), (15, 4835703278458516698824704, 8192), (4351, 77371252455336267181195264, 16384), (16383, 1237940039285380274899124224, 32768)] (.q 0 (.q 1 (.q 2 (.q 3 (.q 4 (.q 5 (.q 6 (.q 7 (.q 8 (.q 9 (.q 10 (.q 11 (.q 12 (.q 13 (.q 14 .done)))))))))))))))) (.s (.s (.n) (.lp [9, 16] 1265174720149658640946905022976 (.s (.s (.n) (.s (.n) (.n))) (.s (.n) (.n))))) (.s (.s (.n) (.lp [9, 17] 1296806564033478677731127379231232 (.s (.s (.n) (.s (.n) (.n))) (.s (.n) (.n))))) (.s (.s (.n) (.lp [9, 18] 2657157917355198038900481496478646784 (.s (.s (.n) (.s (.n) (.n))) (.s (.n) (.n))))) (.j [19] 2787590491360336322860218976466924628082688 (.n) (.s (.n) (.n))))))))))))
set_option maxRecDepth 100000 in
theorem c8 (arg0 arg1 arg2 : Value) (K : Value → WP) (w : World) (h : s8 Tryz.prog arg0 arg1 arg2 K w) : Runs Tryz.prog 8 [arg0, arg1, arg2] K w :=
  runs_of_E wide (fn := Tryz.f8) (c := Tryz.f8.body.getD .skip) 162 A8 [arg0, arg1, arg2] w K Tryz.func8 (by kernel_rfl) (by kernel_rfl) (by kernel_rfl) (by kernel_rfl)
    (Eq.mp (by kernel_rfl : s8 Tryz.prog arg0 arg1 arg2 K w = E Tryz.prog (Tryz.f8.body.getD .skip) A8 (topK Tryz.prog K Tryz.f8.results) (fun i => (([arg0, arg1, arg2] : List Value)[i]?).getD undef) w) h)
theorem ct8 {arg0 arg1 arg2 : Value} {h : Hp} {post : Hp → Value → Prop} (hg : ∀ w0, Gs w0 h h [] (s8 Tryz.prog arg0 arg1 arg2 (RetP w0 h post))) : Ct Tryz.prog 8 [arg0, arg1, arg2] h post := Ct.of (sf := s8 Tryz.prog arg0 arg1 arg2) (c8 arg0 arg1 arg2) hg
theorem in8 {arg0 arg1 arg2 : Value} {S : WP} {K : Value → WP} (hg : G S (s8 Tryz.prog arg0 arg1 arg2 K)) : G S (Do Tryz.prog (vCall (.func (.func 8) #[] ⟨[]⟩) [arg0, arg1, arg2]) K) := Gs.into (args := [arg0, arg1, arg2]) (caps := []) (sf := s8 Tryz.prog arg0 arg1 arg2) (c8 arg0 arg1 arg2) hg

/- skewer/skewerlaw02.ProgSteps : names 0 x, 1 w, 2 l, 3 x, 4 w, 5 l, 7 up, 8 limit, 9 one, 10 p, 11 longer -/
def s9 (P : Program) (arg0 arg1 arg2 : Value) (K : Value → WP) : WP :=
  Do P (V (Instr.box 41 arg0)) fun x1 =>
  Do P (V (Instr.box 24 arg1)) fun w2 =>
  Do P (vCall (.func (.func 10) #[] ⟨[]⟩) []) fun t3_12 =>
  Jn (α := Value) (fun j4 => Jk fun _ => -- limit
   Do P (V (Instr.loadAt 41 x1)) fun t5_35 =>
   Do P (vBuildSlice 26 1 [(0, t5_35)]) fun t6_36 =>
   Do P (V (Instr.indexAt 24 w2 (.int .i64 0))) fun t7_37 =>
   Do P (V (Instr.loadAt 3 t7_37)) fun t8_38 =>
   Do P (V (Instr.indexAt 24 w2 (.int .i64 1))) fun t9_39 =>
   Do P (V (Instr.loadAt 3 t9_39)) fun t10_40 =>
   Do P (V (Instr.indexAt 24 w2 (.int .i64 2))) fun t11_41 =>
   Do P (V (Instr.loadAt 3 t11_41)) fun t12_42 =>
   Do P (vCall (.func (.func 13) #[] ⟨[]⟩) [t6_36, t8_38, t10_40, t12_42]) fun t13_43 =>
   Jn (α := Value) (fun j14 => Jk fun _ => -- t54
    If j14 (
     K (.bool false)
    ) (
     Do P (vCall (.func (.func 11) #[] ⟨[]⟩) [arg2]) fun t15_56 =>
     Jn (α := Value) (fun j16 => Jk fun _ => -- longer
      Do P (V (Instr.indexAt 24 w2 (.int .i64 0))) fun t17_64 =>
      Do P (V (Instr.loadAt 3 t17_64)) fun t18_65 =>
      Do P (V (Instr.indexAt 24 w2 (.int .i64 1))) fun t19_66 =>
      Do P (V (Instr.loadAt 3 t19_66)) fun t20_67 =>
      Do P (V (Instr.indexAt 24 w2 (.int .i64 2))) fun t21_68 =>
      Do P (V (Instr.loadAt 3 t21_68)) fun t22_69 =>
      Do P (vCall (.func (.func 13) #[] ⟨[]⟩) [j16, t18_65, t20_67, t22_69]) fun t23_70 =>
      Do P (V (Op.unary .not t23_70)) fun t24_71 =>
      Gd t24_71 false (
       Gd t13_43 true (
        Do P (V (Instr.indexAt 24 w2 (.int .i64 0))) fun t25_76 =>
        Do P (V (Instr.loadAt 3 t25_76)) fun t26_77 =>
        Do P (V (Instr.indexAt 24 w2 (.int .i64 1))) fun t27_78 =>
        Do P (V (Instr.loadAt 3 t27_78)) fun t28_79 =>
        Do P (V (Instr.indexAt 24 w2 (.int .i64 2))) fun t29_80 =>
        Do P (V (Instr.loadAt 3 t29_80)) fun t30_81 =>
        Do P (vCall (.func (.func 13) #[] ⟨[]⟩) [t15_56, t26_77, t28_79, t30_81]) fun t31_82 =>
        Gd t31_82 true (
         K t3_12
        ) (
         K (.bool false)
        )
       ) (
        K (.bool false)
       )
      ) (
       K t3_12
      )
     ) fun k16 =>
     Dr <|
     Qk P (V (Instr.loadAt 41 x1)) fun C32 t32_60 =>
     Or2 (
      Do P (vBuildSlice 26 0 []) fun t33_57 =>
      With C32 <|
      Or2 (
       Do P (vBuiltin .append #[26, 26] 26 [t33_57, t15_56]) fun t34_59 =>
       With C32 <|
       Do P (vBuildSlice 26 1 [(0, t32_60)]) fun t35_61 =>
       Do P (vBuiltin .append #[26, 26] 26 [t34_59, t35_61]) fun t36_62 =>
       k16 t36_62
      ) (
       Do P (vBuildSlice 26 1 [(0, t32_60)]) fun t37_61 =>
       Do P (vBuiltin .append #[26, 26] 26 [t33_57, t15_56]) fun t38_59 =>
       With C32 <|
       Do P (vBuiltin .append #[26, 26] 26 [t38_59, t37_61]) fun t39_62 =>
       k16 t39_62
      )
     ) (
      Do P (vBuildSlice 26 1 [(0, t32_60)]) fun t40_61 =>
      Do P (vBuildSlice 26 0 []) fun t41_57 =>
      With C32 <|
      Do P (vBuiltin .append #[26, 26] 26 [t41_57, t15_56]) fun t42_59 =>
      With C32 <|
      Do P (vBuiltin .append #[26, 26] 26 [t42_59, t40_61]) fun t43_62 =>
      k16 t43_62
     )
    )
   ) fun k14 =>
   Do P (V (Instr.fieldAt 41 x1 1)) fun t44_45 =>
   Do P (V (Instr.loadAt 3 t44_45)) fun t45_46 =>
   Do P (V (binOp .geq 3 t45_46 (.int .i64 0))) fun t46_47 =>
   Gd t46_47 true (
    Do P (V (Instr.fieldAt 41 x1 1)) fun t47_49 =>
    Do P (V (Instr.loadAt 3 t47_49)) fun t48_50 =>
    Do P (V (binOp .lss 3 t48_50 j4)) fun t49_52 =>
    Do P (V (EqG .neq 4 (.tmp 44) (.tmp 53) t13_43 t49_52)) fun t50_54 =>
    k14 t50_54
   ) (
    Do P (V (EqG .neq 4 (.tmp 44) (.tmp 53) t13_43 (.bool false))) fun t51_54 =>
    k14 t51_54
   )
  ) fun k4 =>
  Do P (V (Instr.fieldAt 41 x1 0)) fun t52_13 =>
  Do P (V (Instr.loadAt 3 t52_13)) fun t53_14 =>
  Jn (α := Value) (fun j54 => Jk fun _ => -- t15
   If j54 (
    Do P (V (Instr.indexAt 24 w2 (.int .i64 0))) fun t55_19 =>
    Do P (V (Instr.loadAt 3 t55_19)) fun t56_20 =>
    k4 t56_20
   ) (
    Jn (α := Value) (fun j57 => Jk fun _ => -- t21
     If j57 (
      k4 (.int .i64 1)
     ) (
      Do P (V (EqG .eql 3 (.tmp 14) (.const (.int .i64 8)) t53_14 (.int .i64 8))) fun t58_27 =>
      If t58_27 (
       Do P (V (Instr.indexAt 24 w2 (.int .i64 1))) fun t59_28 =>
       Do P (V (Instr.loadAt 3 t59_28)) fun t60_29 =>
       k4 t60_29
      ) (
       Jn (α := Value) (fun j61 => Jk fun _ => -- t30
        If j61 (
         Do P (V (Instr.indexAt 24 w2 (.int .i64 2))) fun t62_33 =>
         Do P (V (Instr.loadAt 3 t62_33)) fun t63_34 =>
         k4 t63_34
        ) (
         k4 (.int .i64 (-1))
        )
       ) fun k61 =>
       Do P (V (EqG .eql 3 (.tmp 14) (.const (.int .i64 9)) t53_14 (.int .i64 9))) fun t64_31 =>
       If t64_31 (
        k61 t64_31
       ) (
        Do P (V (EqG .eql 3 (.tmp 14) (.const (.int .i64 10)) t53_14 (.int .i64 10))) fun t65_32 =>
        k61 t65_32
       )
      )
     )
    ) fun k57 =>
    Do P (V (EqG .eql 3 (.tmp 14) (.const (.int .i64 3)) t53_14 (.int .i64 3))) fun t66_22 =>
    If t66_22 (
     k57 t66_22
    ) (
     Do P (V (EqG .eql 3 (.tmp 14) (.const (.int .i64 4)) t53_14 (.int .i64 4))) fun t67_23 =>
     If t67_23 (
      k57 t67_23
     ) (
      Do P (V (EqG .eql 3 (.tmp 14) (.const (.int .i64 5)) t53_14 (.int .i64 5))) fun t68_24 =>
      If t68_24 (
       k57 t68_24
      ) (
       Do P (V (EqG .eql 3 (.tmp 14) (.const (.int .i64 6)) t53_14 (.int .i64 6))) fun t69_25 =>
       k57 t69_25
      )
     )
    )
   )
  ) fun k54 =>
  Do P (V (EqG .eql 3 (.tmp 14) (.const (.int .i64 1)) t53_14 (.int .i64 1))) fun t70_16 =>
  If t70_16 (
   k54 t70_16
  ) (
   Do P (V (EqG .eql 3 (.tmp 14) (.const (.int .i64 2)) t53_14 (.int .i64 2))) fun t71_17 =>
   If t71_17 (
    k54 t71_17
   ) (
    Do P (V (EqG .eql 3 (.tmp 14) (.const (.int .i64 7)) t53_14 (.int .i64 7))) fun t72_18 =>
    k54 t72_18
   )
  )
def A9 : Ann := .s (.n) (.s (.n) (.s (.n) (.j [8] 34359730432 (.s (.n) (.j [15] 491520 (.s (.n) (.s (.n) (.s (.n) (.s (.n) (.n))))) (.s (.n) (.j [21] 65011712 (.s (.n) (.s (.n) (.s (.n) (.s (.n) (.s (.n) (.s (.n) (.n))))))) (.s (.n) (.s (.n) (.s (.n) (.j [30] 7516192768 (.s (.n) (.s (.n) (.n))) (.s (.n) (.n)))))))))) (.s (.n) (.s (.j [54] 36011204832919552 (.n) (.s (.s (.n) (.n)) (.n))) (.s (.n) (.j [11] 9079256848778921984 (.plan [(0, 0, 144115188075855872), (0, 1024, 288230376151711744), (3, 432345564227567616, 576460752303423488), (0, 8, 1152921504606846976), (8, 1152921504606846976, 2305843009213693952), (20, 2882303761517117440, 4611686018427387904), (63, 4611686018427387904, 2048)] (.q 1 (.q 3 (.or (.l 0 (.or (.l 2 (.l 4 (.l 5 (.q 6 .done)))) (.l 4 (.l 2 (.l 5 (.q 6 .done)))))) (.l 4 (.l 0 (.l 2 (.l 5 (.q 6 .done))))))))) (.s (.n) (.n)))))))))
set_option maxRecDepth 100000 in
theorem c9 (arg0 arg1 arg2 : Value) (K : Value → WP) (w : World) (h : s9 Tryz.prog arg0 arg1 arg2 K w) : Runs Tryz.prog 9 [arg0, arg1, arg2] K w :=
  runs_of_E wide (fn := Tryz.f9) (c := Tryz.f9.body.getD .skip) 88 A9 [arg0, arg1, arg2] w K Tryz.func9 (by kernel_rfl) (by kernel_rfl) (by kernel_rfl) (by kernel_rfl)
    (Eq.mp (by kernel_rfl : s9 Tryz.prog arg0 arg1 arg2 K w = E Tryz.prog (Tryz.f9.body.getD .skip) A9 (topK Tryz.prog K Tryz.f9.results) (fun i => (([arg0, arg1, arg2] : List Value)[i]?).getD undef) w) h)
theorem ct9 {arg0 arg1 arg2 : Value} {h : Hp} {post : Hp → Value → Prop} (hg : ∀ w0, Gs w0 h h [] (s9 Tryz.prog arg0 arg1 arg2 (RetP w0 h post))) : Ct Tryz.prog 9 [arg0, arg1, arg2] h post := Ct.of (sf := s9 Tryz.prog arg0 arg1 arg2) (c9 arg0 arg1 arg2) hg
theorem in9 {arg0 arg1 arg2 : Value} {S : WP} {K : Value → WP} (hg : G S (s9 Tryz.prog arg0 arg1 arg2 K)) : G S (Do Tryz.prog (vCall (.func (.func 9) #[] ⟨[]⟩) [arg0, arg1, arg2]) K) := Gs.into (args := [arg0, arg1, arg2]) (caps := []) (sf := s9 Tryz.prog arg0 arg1 arg2) (c9 arg0 arg1 arg2) hg

/- skewer/skewerlaw02.sanity : names 1 a, 2 b, 3 p, 4 e, 5 texts, 6 odd, 7 i, 8 q, 9 f, 10 turned -/
def s10 (P : Program) (K : Value → WP) : WP :=
  Do P (vBuild 41 [(0, (.int .i64 2)), (1, (.int .i64 7))]) fun t1_11 =>
  Do P (vBuild 41 [(0, (.int .i64 4))]) fun t2_12 =>
  Do P (vBuild 41 [(0, (.int .i64 6))]) fun t3_13 =>
  Do P (vBuild 41 [(0, (.int .i64 8)), (1, (.int .i64 5))]) fun t4_14 =>
  Do P (vBuildSlice 26 4 [(0, t1_11), (1, t2_12), (2, t3_13), (3, t4_14)]) fun t5_15 =>
  Do P (vBuild 41 [(0, (.int .i64 9)), (1, (.int .i64 3))]) fun t6_16 =>
  Do P (vBuild 41 [(0, (.int .i64 1)), (1, (.int .i64 1))]) fun t7_17 =>
  Do P (vBuild 41 [(0, (.int .i64 7)), (1, (.int .i64 1))]) fun t8_18 =>
  Do P (vBuild 41 [(0, (.int .i64 10)), (1, (.int .i64 3))]) fun t9_19 =>
  Do P (vBuildSlice 26 4 [(0, t6_16), (1, t7_17), (2, t8_18), (3, t9_19)]) fun t10_20 =>
  Do P (vCall (.func (.func 23) #[] ⟨[]⟩) [(.string ⟨#[110, 101, 101, 100, 51, 32, 103, 111, 49, 32, 112, 117, 115, 104, 49, 32, 108, 111, 115, 101, 51]⟩)]) fun t11_22 =>
  Do P (V (Instr.extract t11_22 0)) fun t12_23 =>
  Do P (V (Instr.extract t11_22 1)) fun t13_24 =>
  Jn (α := Value) (fun j14 => Jk fun _ => -- texts
   Do P (vBuildSlice 48 7 [(0, (.string ⟨#[103, 111]⟩)), (1, (.string ⟨#[103, 111, 56]⟩)), (2, (.string ⟨#[103, 111, 48, 48]⟩)), (3, (.string ⟨#[103, 111, 48, 32, 32, 101, 109, 112, 116, 121]⟩)), (4, (.string ⟨#[101, 109, 112, 116, 121, 48]⟩)), (5, (.string ⟨#[116, 97, 107, 101, 32, 116, 97, 107, 101, 32, 116, 97, 107, 101]⟩)), (6, (.string ⟨#[]⟩))]) fun t15_46 =>
   Lp (α := Value × Value) (fun c16 s16 => Jk fun _ => -- texts i
    Do P (vBuiltin .len #[48] 3 [t15_46]) fun t17_49 =>
    Do P (V (binOp .lss 3 s16.2 t17_49)) fun t18_50 =>
    If t18_50 (
     Jn (α := Value) (fun j19 => Jk fun _ => -- texts
      Do P (V (binOp .add 3 s16.2 (.int .i64 1))) fun t20_52 =>
      c16 (j19, t20_52)
     ) fun k19 =>
     Do P (V (Instr.indexAt 48 t15_46 s16.2)) fun t21_56 =>
     Do P (V (Instr.loadAt 9 t21_56)) fun t22_57 =>
     Do P (vCall (.func (.func 23) #[] ⟨[]⟩) [t22_57]) fun t23_58 =>
     Do P (V (Instr.extract t23_58 0)) fun t24_59 =>
     Do P (V (Instr.extract t23_58 1)) fun t25_60 =>
     Gd s16.1 true (
      Do P (V (EqG .eql 43 (.tmp 63) (.const (.int .i64 20)) t25_60 (.int .i64 20))) fun t26_64 =>
      Gd t26_64 true (
       Do P (vBuiltin .len #[26] 3 [t24_59]) fun t27_68 =>
       Do P (V (EqG .eql 3 (.tmp 68) (.const (.int .i64 0)) t27_68 (.int .i64 0))) fun t28_69 =>
       k19 t28_69
      ) (
       k19 (.bool false)
      )
     ) (
      k19 (.bool false)
     )
    ) (
     Do P (vBuildSlice 33 2 [(0, (.int .i64 5)), (1, (.int .i64 6))]) fun t29_72 =>
     Do P (vCall (.func (.func 26) #[] ⟨[]⟩) [t10_20, t29_72]) fun t30_73 =>
     Dr <|
     Gd s16.1 true (
      Do P (vCall (.func (.func 15) #[] ⟨[]⟩) [t5_15]) fun t31_77 =>
      Gd t31_77 true (
       Do P (vCall (.func (.func 15) #[] ⟨[]⟩) [t10_20]) fun t32_81 =>
       Qk P (V (Op.unary .not t32_81)) fun C33 t33_82 =>
       Gd t33_82 true (
        Or2 (
         Do P (vCall (.func (.func 18) #[] ⟨[]⟩) [t5_15]) fun t34_86 =>
         Do P (vBuildSlice 33 1 [(0, (.int .i64 7))]) fun t35_87 =>
         Do P (vCall (.func (.func 17) #[] ⟨[]⟩) [t34_86, t35_87]) fun t36_88 =>
         Gd t36_88 true (
          Or2 (
           Do P (vCall (.func (.func 18) #[] ⟨[]⟩) [t10_20]) fun t37_92 =>
           Do P (vBuildSlice 33 1 [(0, (.int .i64 1))]) fun t38_93 =>
           Do P (vCall (.func (.func 17) #[] ⟨[]⟩) [t37_92, t38_93]) fun t39_94 =>
           Gd t39_94 true (
            Qk P (V (Instr.indexAt 26 t10_20 (.int .i64 0))) fun C40 t40_99 =>
            Qk P (V (Instr.loadAt 41 t40_99)) fun C41 t41_100 =>
            Qk P (vBuild 41 [(0, (.int .i64 1)), (1, (.int .i64 6))]) fun C42 t42_101 =>
            Qk P (vBuild 41 [(0, (.int .i64 7)), (1, (.int .i64 6))]) fun C43 t43_102 =>
            Qk P (V (Instr.indexAt 26 t10_20 (.int .i64 3))) fun C44 t44_104 =>
            Qk P (V (Instr.loadAt 41 t44_104)) fun C45 t45_105 =>
            Do P (vBuildSlice 26 4 [(0, t41_100), (1, t42_101), (2, t43_102), (3, t45_105)]) fun t46_106 =>
            Do P (vCall (.func (.func 24) #[] ⟨[]⟩) [t30_73, t46_106]) fun t47_107 =>
            Gd t47_107 true (
             Do P (vCall (.func (.func 13) #[] ⟨[]⟩) [t5_15, (.int .i64 8), (.int .i64 6), (.int .i64 0)]) fun t48_111 =>
             Gd t48_111 true (
              Do P (vCall (.func (.func 13) #[] ⟨[]⟩) [t5_15, (.int .i64 7), (.int .i64 6), (.int .i64 4)]) fun t49_115 =>
              Qk P (V (Op.unary .not t49_115)) fun C50 t50_116 =>
              Gd t50_116 true (
               Do P (vCall (.func (.func 13) #[] ⟨[]⟩) [t10_20, (.int .i64 8), (.int .i64 6), (.int .i64 3)]) fun t51_120 =>
               Qk P (V (Op.unary .not t51_120)) fun C52 t52_121 =>
               Gd t52_121 true (
                Do P (vCall (.func (.func 13) #[] ⟨[]⟩) [(.slice none 0 0), (.int .i64 8), (.int .i64 6), (.int .i64 4)]) fun t53_124 =>
                Qk P (V (Op.unary .not t53_124)) fun C54 t54_125 =>
                K t54_125
               ) (
                K (.bool false)
               )
              ) (
               K (.bool false)
              )
             ) (
              K (.bool false)
             )
            ) (
             K (.bool false)
            )
           ) (
            K (.bool false)
           )
          ) (
           Do P (vBuildSlice 33 1 [(0, (.int .i64 1))]) fun t55_93 =>
           Do P (vCall (.func (.func 18) #[] ⟨[]⟩) [t10_20]) fun t56_92 =>
           Do P (vCall (.func (.func 17) #[] ⟨[]⟩) [t56_92, t55_93]) fun t57_94 =>
           Gd t57_94 true (
            Qk P (V (Instr.indexAt 26 t10_20 (.int .i64 0))) fun C58 t58_99 =>
            Qk P (V (Instr.loadAt 41 t58_99)) fun C59 t59_100 =>
            Qk P (vBuild 41 [(0, (.int .i64 1)), (1, (.int .i64 6))]) fun C60 t60_101 =>
            Qk P (vBuild 41 [(0, (.int .i64 7)), (1, (.int .i64 6))]) fun C61 t61_102 =>
            Qk P (V (Instr.indexAt 26 t10_20 (.int .i64 3))) fun C62 t62_104 =>
            Qk P (V (Instr.loadAt 41 t62_104)) fun C63 t63_105 =>
            Do P (vBuildSlice 26 4 [(0, t59_100), (1, t60_101), (2, t61_102), (3, t63_105)]) fun t64_106 =>
            Do P (vCall (.func (.func 24) #[] ⟨[]⟩) [t30_73, t64_106]) fun t65_107 =>
            Gd t65_107 true (
             Do P (vCall (.func (.func 13) #[] ⟨[]⟩) [t5_15, (.int .i64 8), (.int .i64 6), (.int .i64 0)]) fun t66_111 =>
             Gd t66_111 true (
              Do P (vCall (.func (.func 13) #[] ⟨[]⟩) [t5_15, (.int .i64 7), (.int .i64 6), (.int .i64 4)]) fun t67_115 =>
              Qk P (V (Op.unary .not t67_115)) fun C68 t68_116 =>
              Gd t68_116 true (
               Do P (vCall (.func (.func 13) #[] ⟨[]⟩) [t10_20, (.int .i64 8), (.int .i64 6), (.int .i64 3)]) fun t69_120 =>
               Qk P (V (Op.unary .not t69_120)) fun C70 t70_121 =>
               Gd t70_121 true (
                Do P (vCall (.func (.func 13) #[] ⟨[]⟩) [(.slice none 0 0), (.int .i64 8), (.int .i64 6), (.int .i64 4)]) fun t71_124 =>
                Qk P (V (Op.unary .not t71_124)) fun C72 t72_125 =>
                K t72_125
               ) (
                K (.bool false)
               )
              ) (
               K (.bool false)
              )
             ) (
              K (.bool false)
             )
            ) (
             K (.bool false)
            )
           ) (
            K (.bool false)
           )
          )
         ) (
          Or2 (
           K (.bool false)
          ) (
           K (.bool false)
          )
         )
        ) (
         Do P (vBuildSlice 33 1 [(0, (.int .i64 7))]) fun t73_87 =>
         Do P (vCall (.func (.func 18) #[] ⟨[]⟩) [t5_15]) fun t74_86 =>
         Do P (vCall (.func (.func 17) #[] ⟨[]⟩) [t74_86, t73_87]) fun t75_88 =>
         Gd t75_88 true (
          Or2 (
           Do P (vCall (.func (.func 18) #[] ⟨[]⟩) [t10_20]) fun t76_92 =>
           Do P (vBuildSlice 33 1 [(0, (.int .i64 1))]) fun t77_93 =>
           Do P (vCall (.func (.func 17) #[] ⟨[]⟩) [t76_92, t77_93]) fun t78_94 =>
           Gd t78_94 true (
            Qk P (V (Instr.indexAt 26 t10_20 (.int .i64 0))) fun C79 t79_99 =>
            Qk P (V (Instr.loadAt 41 t79_99)) fun C80 t80_100 =>
            Qk P (vBuild 41 [(0, (.int .i64 1)), (1, (.int .i64 6))]) fun C81 t81_101 =>
            Qk P (vBuild 41 [(0, (.int .i64 7)), (1, (.int .i64 6))]) fun C82 t82_102 =>
            Qk P (V (Instr.indexAt 26 t10_20 (.int .i64 3))) fun C83 t83_104 =>
            Qk P (V (Instr.loadAt 41 t83_104)) fun C84 t84_105 =>
            Do P (vBuildSlice 26 4 [(0, t80_100), (1, t81_101), (2, t82_102), (3, t84_105)]) fun t85_106 =>
            Do P (vCall (.func (.func 24) #[] ⟨[]⟩) [t30_73, t85_106]) fun t86_107 =>
            Gd t86_107 true (
             Do P (vCall (.func (.func 13) #[] ⟨[]⟩) [t5_15, (.int .i64 8), (.int .i64 6), (.int .i64 0)]) fun t87_111 =>
             Gd t87_111 true (
              Do P (vCall (.func (.func 13) #[] ⟨[]⟩) [t5_15, (.int .i64 7), (.int .i64 6), (.int .i64 4)]) fun t88_115 =>
              Qk P (V (Op.unary .not t88_115)) fun C89 t89_116 =>
              Gd t89_116 true (
               Do P (vCall (.func (.func 13) #[] ⟨[]⟩) [t10_20, (.int .i64 8), (.int .i64 6), (.int .i64 3)]) fun t90_120 =>
               Qk P (V (Op.unary .not t90_120)) fun C91 t91_121 =>
               Gd t91_121 true (
                Do P (vCall (.func (.func 13) #[] ⟨[]⟩) [(.slice none 0 0), (.int .i64 8), (.int .i64 6), (.int .i64 4)]) fun t92_124 =>
                Qk P (V (Op.unary .not t92_124)) fun C93 t93_125 =>
                K t93_125
               ) (
                K (.bool false)
               )
              ) (
               K (.bool false)
              )
             ) (
              K (.bool false)
             )
            ) (
             K (.bool false)
            )
           ) (
            K (.bool false)
           )
          ) (
           Do P (vBuildSlice 33 1 [(0, (.int .i64 1))]) fun t94_93 =>
           Do P (vCall (.func (.func 18) #[] ⟨[]⟩) [t10_20]) fun t95_92 =>
           Do P (vCall (.func (.func 17) #[] ⟨[]⟩) [t95_92, t94_93]) fun t96_94 =>
           Gd t96_94 true (
            Qk P (V (Instr.indexAt 26 t10_20 (.int .i64 0))) fun C97 t97_99 =>
            Qk P (V (Instr.loadAt 41 t97_99)) fun C98 t98_100 =>
            Qk P (vBuild 41 [(0, (.int .i64 1)), (1, (.int .i64 6))]) fun C99 t99_101 =>
            Qk P (vBuild 41 [(0, (.int .i64 7)), (1, (.int .i64 6))]) fun C100 t100_102 =>
            Qk P (V (Instr.indexAt 26 t10_20 (.int .i64 3))) fun C101 t101_104 =>
            Qk P (V (Instr.loadAt 41 t101_104)) fun C102 t102_105 =>
            Do P (vBuildSlice 26 4 [(0, t98_100), (1, t99_101), (2, t100_102), (3, t102_105)]) fun t103_106 =>
            Do P (vCall (.func (.func 24) #[] ⟨[]⟩) [t30_73, t103_106]) fun t104_107 =>
            Gd t104_107 true (
             Do P (vCall (.func (.func 13) #[] ⟨[]⟩) [t5_15, (.int .i64 8), (.int .i64 6), (.int .i64 0)]) fun t105_111 =>
             Gd t105_111 true (
              Do P (vCall (.func (.func 13) #[] ⟨[]⟩) [t5_15, (.int .i64 7), (.int .i64 6), (.int .i64 4)]) fun t106_115 =>
              Qk P (V (Op.unary .not t106_115)) fun C107 t107_116 =>
              Gd t107_116 true (
               Do P (vCall (.func (.func 13) #[] ⟨[]⟩) [t10_20, (.int .i64 8), (.int .i64 6), (.int .i64 3)]) fun t108_120 =>
               Qk P (V (Op.unary .not t108_120)) fun C109 t109_121 =>
               Gd t109_121 true (
                Do P (vCall (.func (.func 13) #[] ⟨[]⟩) [(.slice none 0 0), (.int .i64 8), (.int .i64 6), (.int .i64 4)]) fun t110_124 =>
                Qk P (V (Op.unary .not t110_124)) fun C111 t111_125 =>
                K t111_125
               ) (
                K (.bool false)
               )
              ) (
               K (.bool false)
              )
             ) (
              K (.bool false)
             )
            ) (
             K (.bool false)
            )
           ) (
            K (.bool false)
           )
          )
         ) (
          Or2 (
           K (.bool false)
          ) (
           K (.bool false)
          )
         )
        )
       ) (
        Or2 (
         Or2 (
          K (.bool false)
         ) (
          K (.bool false)
         )
        ) (
         Or2 (
          K (.bool false)
         ) (
          K (.bool false)
         )
        )
       )
      ) (
       Or2 (
        Or2 (
         K (.bool false)
        ) (
         K (.bool false)
        )
       ) (
        Or2 (
         K (.bool false)
        ) (
         K (.bool false)
        )
       )
      )
     ) (
      Or2 (
       Or2 (
        K (.bool false)
       ) (
        K (.bool false)
       )
      ) (
       Or2 (
        K (.bool false)
       ) (
        K (.bool false)
       )
      )
     )
    )
   ) (j14, (.int .i64 0))
  ) fun k14 =>
  Do P (vCall (.func (.func 20) #[] ⟨[]⟩) [t5_15]) fun t112_26 =>
  Do P (V (EqG .eql 9 (.tmp 26) (.const (.string ⟨#[115, 108, 105, 100, 101, 55, 32, 101, 110, 101, 109, 121, 32, 116, 97, 107, 101, 32, 98, 101, 99, 111, 109, 101, 53]⟩)) t112_26 (.string ⟨#[115, 108, 105, 100, 101, 55, 32, 101, 110, 101, 109, 121, 32, 116, 97, 107, 101, 32, 98, 101, 99, 111, 109, 101, 53]⟩))) fun t113_27 =>
  Gd t113_27 true (
   Do P (vCall (.func (.func 20) #[] ⟨[]⟩) [t10_20]) fun t114_30 =>
   Do P (V (EqG .eql 9 (.tmp 30) (.const (.string ⟨#[110, 101, 101, 100, 51, 32, 103, 111, 49, 32, 112, 117, 115, 104, 49, 32, 108, 111, 115, 101, 51]⟩)) t114_30 (.string ⟨#[110, 101, 101, 100, 51, 32, 103, 111, 49, 32, 112, 117, 115, 104, 49, 32, 108, 111, 115, 101, 51]⟩))) fun t115_31 =>
   Gd t115_31 true (
    Do P (V (EqG .eql 43 (.tmp 34) (.const (.int .i64 0)) t13_24 (.int .i64 0))) fun t116_35 =>
    Gd t116_35 true (
     Do P (vCall (.func (.func 24) #[] ⟨[]⟩) [t12_23, t10_20]) fun t117_40 =>
     Gd t117_40 true (
      Do P (vCall (.func (.func 20) #[] ⟨[]⟩) [(.slice none 0 0)]) fun t118_43 =>
      Do P (V (EqG .eql 9 (.tmp 43) (.const (.string ⟨#[]⟩)) t118_43 (.string ⟨#[]⟩))) fun t119_44 =>
      k14 t119_44
     ) (
      k14 (.bool false)
     )
    ) (
     k14 (.bool false)
    )
   ) (
    k14 (.bool false)
   )
  ) (
   k14 (.bool false)
  )
def A10 : Ann := .s (.n) (.s (.n) (.s (.n) (.s (.n) (.j [5] 70368710623264 (.n) (.s (.n) (.s (.s (.n) (.lp [5, 7] 2361183100697334252448 (.s (.s (.n) (.s (.n) (.n))) (.j [5] 2361174234235567866656 (.s (.n) (.n)) (.n))))) (.s (.n) (.s (.plan [(0, 32, 18889465931478580854784), (1, 18889465931478580854784, 37778931862957161709568), (2, 37778931862957161709570, 75557863725914323419136), (6, 113336795588871485128704, 151115727451828646838272), (10, 188894659314785808547840, 302231454903657293676544), (24, 302231454903657293676544, 604462909807314587353088), (32, 604462909807314587353092, 1208925819614629174706176), (96, 1813388729421943762059264, 2417851639229258349412352), (160, 3022314549036572936765440, 4835703278458516698824704), (288, 5440166188265831286177792, 9671406556917033397649408), (640, 9671406556917033397649408, 19342813113834066795298816), (1024, 19342813113834066795298818, 38685626227668133590597632), (3072, 58028439341502200385896448, 77371252455336267181195264), (1024, 19342813113834066795298816, 154742504910672534362390528), (13312, 251456570479842868338884608, 309485009821345068724781056), (17408, 328827822935179135520079872, 618970019642690137449562112), (49152, 618970019642690137449562112, 1237940039285380274899124224), (65536, 1237940039285380274899124228, 2475880078570760549798248448), (196608, 3713820117856140824697372672, 4951760157141521099596496896), (65536, 1237940039285380274899124224, 9903520314283042199192993792), (851968, 16093220510709943573688614912, 19807040628566084398385987584), (1114112, 21044980667851464673285111808, 39614081257132168796771975168), (3145728, 39614081257132168796771975168, 79228162514264337593543950336), (4194304, 79228162514264337593543951360, 158456325028528675187087900672), (4194304, 79228162514264337593543950340, 316912650057057350374175801344), (20971520, 396140812571321687967719751680, 633825300114114700748351602688), (37748736, 713053462628379038341895553024, 1267650600228229401496703205376), (4194304, 79228162514264337593543950336, 2535301200456458802993406410752), (4194304, 79228162514264337593543950336, 5070602400912917605986812821504), (4194304, 79228162514264337593543950340, 10141204801825835211973625643008), (541065216, 10220432964340099549567169593344, 20282409603651670423947251286016), (1077936128, 20361637766165934761540795236352, 40564819207303340847894502572032), (2621440000, 49517601571415210995964968960000, 81129638414606681695789005144064), (4307550208, 81367322902149474708569636995072, 162259276829213363391578010288128), (8594128896, 162338504991727627729171554238464, 324518553658426726783156020576256), (25769803776, 324518553658426726783156020576256, 649037107316853453566312041152512), (34359738368, 649037107316853453566312041152514, 1298074214633706907132624082305024), (103079215104, 1947111321950560360698936123457536, 2596148429267413814265248164610048), (171798691840, 3245185536584267267831560205762560, 5192296858534827628530496329220096), (412316860416, 5192296858534827628530496329220096, 10384593717069655257060992658440192), (549755813888, 10384593717069655257060992658440194, 20769187434139310514121985316880384), (1649267441664, 31153781151208965771182977975320576, 41538374868278621028243970633760768), (2748779069440, 51922968585348276285304963292200960, 83076749736557242056487941267521536), (4947802324992, 93461343453626897313548933925961728, 166153499473114484112975882535043072), (10995116277760, 166153499473114484112975882535043072, 332306998946228968225951765070086144), (17592186044416, 332306998946228968225951765070086148, 664613997892457936451903530140172288), (52776558133248, 996920996838686904677855295210258432, 1329227995784915872903807060280344576), (87960930222080, 1661534994731144841129758825350430720, 2658455991569831745807614120560689152), (158329674399744, 2990762990516060714033565885630775296, 5316911983139663491615228241121378304), (351843720888320, 5316911983139663491615228241121378304, 10633823966279326983230456482242756608), (562949953421312, 10633823966279326983230456482242756608, 21267647932558653966460912964485513216), (1688849860263936, 31901471898837980949691369446728269824, 42535295865117307932921825928971026432), (2814749767106560, 53169119831396634916152282411213783040, 85070591730234615865843651857942052864), (9007199254740991, 85070591730234615865843651857942052864, 1)] (.q 0 (.q 1 (.q 2 (.l 3 (.q 4 (.q 5 (.q 6 (.l 7 (.q 8 (.q 9 (.q 10 (.q 11 (.or (.l 12 (.l 13 (.l 14 (.q 15 (.q 16 (.q 17 (.or (.l 18 (.l 19 (.l 20 (.q 21 (.q 22 (.q 23 (.q 24 (.q 25 (.q 26 (.q 27 (.q 28 (.q 29 (.q 30 (.q 31 (.l 32 (.l 33 (.q 34 (.q 35 (.q 36 (.l 37 (.q 38 (.q 39 (.q 40 (.l 41 (.q 42 (.q 43 (.q 44 (.q 45 (.l 46 (.q 47 (.q 48 (.q 49 (.l 50 (.q 51 (.q 52 (.q 53 .done)))))))))))))))))))))))))))))))))))) (.l 19 (.l 18 (.l 20 (.q 21 (.q 22 (.q 23 (.q 24 (.q 25 (.q 26 (.q 27 (.q 28 (.q 29 (.q 30 (.q 31 (.l 32 (.l 33 (.q 34 (.q 35 (.q 36 (.l 37 (.q 38 (.q 39 (.q 40 (.l 41 (.q 42 (.q 43 (.q 44 (.q 45 (.l 46 (.q 47 (.q 48 (.q 49 (.l 50 (.q 51 (.q 52 (.q 53 .done))))))))))))))))))))))))))))))))))))))))))) (.l 13 (.l 12 (.l 14 (.q 15 (.q 16 (.q 17 (.or (.l 18 (.l 19 (.l 20 (.q 21 (.q 22 (.q 23 (.q 24 (.q 25 (.q 26 (.q 27 (.q 28 (.q 29 (.q 30 (.q 31 (.l 32 (.l 33 (.q 34 (.q 35 (.q 36 (.l 37 (.q 38 (.q 39 (.q 40 (.l 41 (.q 42 (.q 43 (.q 44 (.q 45 (.l 46 (.q 47 (.q 48 (.q 49 (.l 50 (.q 51 (.q 52 (.q 53 .done)))))))))))))))))))))))))))))))))))) (.l 19 (.l 18 (.l 20 (.q 21 (.q 22 (.q 23 (.q 24 (.q 25 (.q 26 (.q 27 (.q 28 (.q 29 (.q 30 (.q 31 (.l 32 (.l 33 (.q 34 (.q 35 (.q 36 (.l 37 (.q 38 (.q 39 (.q 40 (.l 41 (.q 42 (.q 43 (.q 44 (.q 45 (.l 46 (.q 47 (.q 48 (.q 49 (.l 50 (.q 51 (.q 52 (.q 53 .done))))))))))))))))))))))))))))))))))))))))))))))))))))))))) (.n)))))))))
set_option maxRecDepth 100000 in
theorem c10 (K : Value → WP) (w : World) (h : s10 Tryz.prog  K w) : Runs Tryz.prog 10 [] K w :=
  runs_of_E wide (fn := Tryz.f10) (c := Tryz.f10.body.getD .skip) 127 A10 [] w K Tryz.func10 (by kernel_rfl) (by kernel_rfl) (by kernel_rfl) (by kernel_rfl)
    (Eq.mp (by kernel_rfl : s10 Tryz.prog  K w = E Tryz.prog (Tryz.f10.body.getD .skip) A10 (topK Tryz.prog K Tryz.f10.results) (fun i => (([] : List Value)[i]?).getD undef) w) h)
theorem ct10 {h : Hp} {post : Hp → Value → Prop} (hg : ∀ w0, Gs w0 h h [] (s10 Tryz.prog  (RetP w0 h post))) : Ct Tryz.prog 10 [] h post := Ct.of (sf := s10 Tryz.prog ) (c10 ) hg
theorem in10 {S : WP} {K : Value → WP} (hg : G S (s10 Tryz.prog  K)) : G S (Do Tryz.prog (vCall (.func (.func 10) #[] ⟨[]⟩) []) K) := Gs.into (args := []) (caps := []) (sf := s10 Tryz.prog ) (c10 ) hg

/- skewer/skewerref02.Lib : names 0 l, 1 l, 3 d, 4 e, 5 k, 6 r, 7 step, 8 other, 9 back, 10 slide, 11 push, 12 empty, 13 enemy, 14 friend, 15 take, 16 become, 17 need, 18 lose, 19 library -/
def s11 (P : Program) (arg0 : Value) (K : Value → WP) : WP :=
  Do P (vCall (.func (.func 28) #[] ⟨[]⟩) [arg0, (.int .i64 1)]) fun t1_21 =>
  Do P (V (binOp .rem 3 t1_21 (.int .i64 8))) fun t2_22 =>
  Do P (vCall (.func (.func 28) #[] ⟨[]⟩) [arg0, (.int .i64 2)]) fun t3_24 =>
  Do P (V (binOp .rem 3 t3_24 (.int .i64 8))) fun t4_25 =>
  Do P (vCall (.func (.func 28) #[] ⟨[]⟩) [arg0, (.int .i64 3)]) fun t5_27 =>
  Do P (V (binOp .rem 3 t5_27 (.int .i64 6))) fun t6_28 =>
  Do P (vCall (.func (.func 28) #[] ⟨[]⟩) [arg0, (.int .i64 4)]) fun t7_30 =>
  Do P (V (binOp .rem 3 t7_30 (.int .i64 4))) fun t8_31 =>
  Do P (vBuild 41 [(0, (.int .i64 1)), (1, t2_22)]) fun t9_33 =>
  Do P (vBuild 41 [(0, (.int .i64 1)), (1, t4_25)]) fun t10_35 =>
  Do P (V (binOp .add 3 t2_22 (.int .i64 4))) fun t11_37 =>
  Do P (V (binOp .rem 3 t11_37 (.int .i64 8))) fun t12_38 =>
  Do P (vBuild 41 [(0, (.int .i64 1)), (1, t12_38)]) fun t13_39 =>
  Do P (V (Instr.alloc 41 true (.tuple #[]))) fun step14 =>
  Do P (V (Instr.alloc 41 true (.tuple #[]))) fun other15 =>
  Do P (V (Instr.alloc 41 true (.tuple #[]))) fun back16 =>
  Do P (U (Instr.storeAt 41 step14 t9_33)) fun t17_x =>
  Do P (U (Instr.storeAt 41 other15 t10_35)) fun t18_x =>
  Do P (U (Instr.storeAt 41 back16 t13_39)) fun t19_x =>
  Do P (vBuild 41 [(0, (.int .i64 2)), (1, t2_22)]) fun t20_41 =>
  Do P (vBuild 41 [(0, (.int .i64 7)), (1, t2_22)]) fun t21_43 =>
  Do P (V (Instr.alloc 41 true (.tuple #[]))) fun slide22 =>
  Do P (V (Instr.alloc 41 true (.tuple #[]))) fun push23 =>
  Do P (U (Instr.storeAt 41 slide22 t20_41)) fun t24_x =>
  Do P (U (Instr.storeAt 41 push23 t21_43)) fun t25_x =>
  Do P (vBuild 41 [(0, (.int .i64 3))]) fun t26_44 =>
  Do P (vBuild 41 [(0, (.int .i64 4))]) fun t27_45 =>
  Do P (vBuild 41 [(0, (.int .i64 5))]) fun t28_46 =>
  Do P (vBuild 41 [(0, (.int .i64 6))]) fun t29_47 =>
  Do P (V (Instr.alloc 41 true (.tuple #[]))) fun empty30 =>
  Do P (V (Instr.alloc 41 true (.tuple #[]))) fun enemy31 =>
  Do P (V (Instr.alloc 41 true (.tuple #[]))) fun friend32 =>
  Do P (V (Instr.alloc 41 true (.tuple #[]))) fun take33 =>
  Do P (U (Instr.storeAt 41 empty30 t26_44)) fun t34_x =>
  Do P (U (Instr.storeAt 41 enemy31 t27_45)) fun t35_x =>
  Do P (U (Instr.storeAt 41 friend32 t28_46)) fun t36_x =>
  Do P (U (Instr.storeAt 41 take33 t29_47)) fun t37_x =>
  Do P (vBuild 41 [(0, (.int .i64 8)), (1, t6_28)]) fun t38_49 =>
  Do P (vBuild 41 [(0, (.int .i64 9)), (1, t8_31)]) fun t39_51 =>
  Do P (vBuild 41 [(0, (.int .i64 10)), (1, t8_31)]) fun t40_53 =>
  Do P (V (Instr.alloc 41 true (.tuple #[]))) fun become41 =>
  Do P (V (Instr.alloc 41 true (.tuple #[]))) fun need42 =>
  Do P (V (Instr.alloc 41 true (.tuple #[]))) fun lose43 =>
  Do P (U (Instr.storeAt 41 become41 t38_49)) fun t44_x =>
  Do P (U (Instr.storeAt 41 need42 t39_51)) fun t45_x =>
  Do P (U (Instr.storeAt 41 lose43 t40_53)) fun t46_x =>
  Do P (V (Instr.loadAt 41 step14)) fun t47_54 =>
  Do P (V (Instr.loadAt 41 empty30)) fun t48_55 =>
  Do P (vBuildSlice 26 2 [(0, t47_54), (1, t48_55)]) fun t49_56 =>
  Do P (V (Instr.loadAt 41 step14)) fun t50_57 =>
  Do P (V (Instr.loadAt 41 enemy31)) fun t51_58 =>
  Do P (V (Instr.loadAt 41 take33)) fun t52_59 =>
  Do P (vBuildSlice 26 3 [(0, t50_57), (1, t51_58), (2, t52_59)]) fun t53_60 =>
  Do P (V (Instr.loadAt 41 slide22)) fun t54_61 =>
  Do P (vBuildSlice 26 1 [(0, t54_61)]) fun t55_62 =>
  Do P (V (Instr.loadAt 41 slide22)) fun t56_63 =>
  Do P (V (Instr.loadAt 41 enemy31)) fun t57_64 =>
  Do P (V (Instr.loadAt 41 take33)) fun t58_65 =>
  Do P (vBuildSlice 26 3 [(0, t56_63), (1, t57_64), (2, t58_65)]) fun t59_66 =>
  Do P (V (Instr.loadAt 41 step14)) fun t60_67 =>
  Do P (V (Instr.loadAt 41 enemy31)) fun t61_68 =>
  Do P (V (Instr.loadAt 41 take33)) fun t62_69 =>
  Do P (V (Instr.loadAt 41 step14)) fun t63_70 =>
  Do P (vBuildSlice 26 4 [(0, t60_67), (1, t61_68), (2, t62_69), (3, t63_70)]) fun t64_71 =>
  Do P (V (Instr.loadAt 41 step14)) fun t65_72 =>
  Do P (V (Instr.loadAt 41 other15)) fun t66_73 =>
  Do P (vBuildSlice 26 2 [(0, t65_72), (1, t66_73)]) fun t67_74 =>
  Do P (V (Instr.loadAt 41 step14)) fun t68_75 =>
  Do P (V (Instr.loadAt 41 push23)) fun t69_76 =>
  Do P (vBuildSlice 26 2 [(0, t68_75), (1, t69_76)]) fun t70_77 =>
  Do P (V (Instr.loadAt 41 step14)) fun t71_78 =>
  Do P (V (Instr.loadAt 41 empty30)) fun t72_79 =>
  Do P (V (Instr.loadAt 41 become41)) fun t73_80 =>
  Do P (vBuildSlice 26 3 [(0, t71_78), (1, t72_79), (2, t73_80)]) fun t74_81 =>
  Do P (V (Instr.loadAt 41 need42)) fun t75_82 =>
  Do P (V (Instr.loadAt 41 step14)) fun t76_83 =>
  Do P (V (Instr.loadAt 41 step14)) fun t77_84 =>
  Do P (V (Instr.loadAt 41 lose43)) fun t78_85 =>
  Do P (vBuildSlice 26 4 [(0, t75_82), (1, t76_83), (2, t77_84), (3, t78_85)]) fun t79_86 =>
  Do P (V (Instr.loadAt 41 step14)) fun t80_87 =>
  Do P (V (Instr.loadAt 41 friend32)) fun t81_88 =>
  Do P (V (Instr.loadAt 41 step14)) fun t82_89 =>
  Do P (V (Instr.loadAt 41 empty30)) fun t83_90 =>
  Do P (vBuildSlice 26 4 [(0, t80_87), (1, t81_88), (2, t82_89), (3, t83_90)]) fun t84_91 =>
  Do P (V (Instr.loadAt 41 lose43)) fun t85_92 =>
  Do P (V (Instr.loadAt 41 step14)) fun t86_93 =>
  Do P (vBuildSlice 26 2 [(0, t85_92), (1, t86_93)]) fun t87_94 =>
  Do P (V (Instr.loadAt 41 step14)) fun t88_95 =>
  Do P (V (Instr.loadAt 41 enemy31)) fun t89_96 =>
  Do P (V (Instr.loadAt 41 take33)) fun t90_97 =>
  Do P (V (Instr.loadAt 41 back16)) fun t91_98 =>
  Do P (vBuildSlice 26 4 [(0, t88_95), (1, t89_96), (2, t90_97), (3, t91_98)]) fun t92_99 =>
  Do P (V (Instr.loadAt 41 step14)) fun t93_100 =>
  Do P (V (Instr.loadAt 41 enemy31)) fun t94_101 =>
  Do P (V (Instr.loadAt 41 take33)) fun t95_102 =>
  Do P (V (Instr.loadAt 41 other15)) fun t96_103 =>
  Do P (V (Instr.loadAt 41 enemy31)) fun t97_104 =>
  Do P (V (Instr.loadAt 41 take33)) fun t98_105 =>
  Do P (vBuildSlice 26 6 [(0, t93_100), (1, t94_101), (2, t95_102), (3, t96_103), (4, t97_104), (5, t98_105)]) fun t99_106 =>
  Do P (V (Instr.loadAt 41 slide22)) fun t100_107 =>
  Do P (V (Instr.loadAt 41 friend32)) fun t101_108 =>
  Do P (V (Instr.loadAt 41 step14)) fun t102_109 =>
  Do P (vBuildSlice 26 3 [(0, t100_107), (1, t101_108), (2, t102_109)]) fun t103_110 =>
  Do P (V (Instr.loadAt 41 step14)) fun t104_111 =>
  Do P (V (Instr.loadAt 41 enemy31)) fun t105_112 =>
  Do P (V (Instr.loadAt 41 take33)) fun t106_113 =>
  Do P (V (Instr.loadAt 41 become41)) fun t107_114 =>
  Do P (vBuildSlice 26 4 [(0, t104_111), (1, t105_112), (2, t106_113), (3, t107_114)]) fun t108_115 =>
  Do P (V (Instr.loadAt 41 step14)) fun t109_116 =>
  Do P (V (Instr.loadAt 41 push23)) fun t110_117 =>
  Do P (V (Instr.loadAt 41 other15)) fun t111_118 =>
  Do P (vBuildSlice 26 3 [(0, t109_116), (1, t110_117), (2, t111_118)]) fun t112_119 =>
  Do P (vBuildSlice 29 16 [(0, t49_56), (1, t53_60), (2, t55_62), (3, t59_66), (4, t64_71), (5, t67_74), (6, t70_77), (7, t74_81), (8, t79_86), (9, t84_91), (10, t87_94), (11, t92_99), (12, t99_106), (13, t103_110), (14, t108_115), (15, t112_119)]) fun t113_120 =>
  Do P (vCall (.func (.func 28) #[] ⟨[]⟩) [arg0, (.int .i64 0)]) fun t114_123 =>
  Do P (vBuiltin .len #[29] 3 [t113_120]) fun t115_125 =>
  Do P (V (binOp .rem 3 t114_123 t115_125)) fun t116_126 =>
  Do P (V (Instr.indexAt 29 t113_120 t116_126)) fun t117_127 =>
  Do P (V (Instr.loadAt 26 t117_127)) fun t118_128 =>
  K t118_128
def A11 : Ann := .s (.n) (.s (.n) (.s (.n) (.s (.n) (.s (.n) (.s (.n) (.s (.n) (.s (.n) (.n))))))))
set_option maxRecDepth 100000 in
theorem c11 (arg0 : Value) (K : Value → WP) (w : World) (h : s11 Tryz.prog arg0 K w) : Runs Tryz.prog 11 [arg0] K w :=
  runs_of_E wide (fn := Tryz.f11) (c := Tryz.f11.body.getD .skip) 129 A11 [arg0] w K Tryz.func11 (by kernel_rfl) (by kernel_rfl) (by kernel_rfl) (by kernel_rfl)
    (Eq.mp (by kernel_rfl : s11 Tryz.prog arg0 K w = E Tryz.prog (Tryz.f11.body.getD .skip) A11 (topK Tryz.prog K Tryz.f11.results) (fun i => (([arg0] : List Value)[i]?).getD undef) w) h)
theorem ct11 {arg0 : Value} {h : Hp} {post : Hp → Value → Prop} (hg : ∀ w0, Gs w0 h h [] (s11 Tryz.prog arg0 (RetP w0 h post))) : Ct Tryz.prog 11 [arg0] h post := Ct.of (sf := s11 Tryz.prog arg0) (c11 arg0) hg
theorem in11 {arg0 : Value} {S : WP} {K : Value → WP} (hg : G S (s11 Tryz.prog arg0 K)) : G S (Do Tryz.prog (vCall (.func (.func 11) #[] ⟨[]⟩) [arg0]) K) := Gs.into (args := [arg0]) (caps := []) (sf := s11 Tryz.prog arg0) (c11 arg0) hg

/- skewer/skewerlaw02.short : names 0 p, 1 p -/
def s12 (P : Program) (arg0 : Value) (K : Value → WP) : WP :=
  Do P (vBuildSlice 26 0 []) fun t1_3 =>
  Do P (vBuiltin .len #[23] 3 [arg0]) fun t2_6 =>
  Do P (vBuiltin .min #[3, 3] 3 [t2_6, (.int .i64 12)]) fun t3_7 =>
  Do P (V (Instr.sliceAt 23 arg0 none (some t3_7) none)) fun t4_8 =>
  Do P (vBuiltin .append #[26, 23] 26 [t1_3, t4_8]) fun t5_9 =>
  K t5_9
def A12 : Ann := .s (.n) (.s (.n) (.n))
set_option maxRecDepth 100000 in
theorem c12 (arg0 : Value) (K : Value → WP) (w : World) (h : s12 Tryz.prog arg0 K w) : Runs Tryz.prog 12 [arg0] K w :=
  runs_of_E wide (fn := Tryz.f12) (c := Tryz.f12.body.getD .skip) 10 A12 [arg0] w K Tryz.func12 (by kernel_rfl) (by kernel_rfl) (by kernel_rfl) (by kernel_rfl)
    (Eq.mp (by kernel_rfl : s12 Tryz.prog arg0 K w = E Tryz.prog (Tryz.f12.body.getD .skip) A12 (topK Tryz.prog K Tryz.f12.results) (fun i => (([arg0] : List Value)[i]?).getD undef) w) h)
theorem ct12 {arg0 : Value} {h : Hp} {post : Hp → Value → Prop} (hg : ∀ w0, Gs w0 h h [] (s12 Tryz.prog arg0 (RetP w0 h post))) : Ct Tryz.prog 12 [arg0] h post := Ct.of (sf := s12 Tryz.prog arg0) (c12 arg0) hg
theorem in12 {arg0 : Value} {S : WP} {K : Value → WP} (hg : G S (s12 Tryz.prog arg0 K)) : G S (Do Tryz.prog (vCall (.func (.func 12) #[] ⟨[]⟩) [arg0]) K) := Gs.into (args := [arg0]) (caps := []) (sf := s12 Tryz.prog arg0) (c12 arg0) hg

/- skewer/prog.Valid : names 0 p, 1 dirs, 2 kinds, 3 rights, 4 p, 5 dirs, 6 kinds, 7 rights, 9 limits, 10 odd -/
def s13 (P : Program) (arg0 arg1 arg2 arg3 : Value) (K : Value → WP) : WP :=
  Do P (vBuild 59 [(0, (.int .i64 1)), (1, arg1), (2, arg2), (3, arg3)]) fun t1_14 =>
  Do P (V (Instr.alloc 59 true (.tuple #[]))) fun limits2 =>
  Do P (U (Instr.storeAt 59 limits2 t1_14)) fun t3_x =>
  Do P (vBuiltin .len #[26] 3 [arg0]) fun t4_17 =>
  Do P (V (binOp .gtr 3 t4_17 (.int .i64 0))) fun t5_18 =>
  Gd t5_18 true (
   Do P (vBuiltin .len #[26] 3 [arg0]) fun t6_21 =>
   Do P (V (binOp .leq 3 t6_21 (.int .i64 8))) fun t7_22 =>
   Gd t7_22 true (
    Do P (vCall (.func (.func 31) #[] ⟨[]⟩) [arg0, (.func (.func 29) #[] ⟨[limits2]⟩)]) fun t8_27 =>
    Do P (V (Op.unary .not t8_27)) fun t9_28 =>
    Gd t9_28 true (
     Do P (vCall (.func (.func 32) #[] ⟨[]⟩) [arg0, (.int .i64 6)]) fun t10_32 =>
     Do P (V (binOp .leq 3 t10_32 (.int .i64 2))) fun t11_33 =>
     Gd t11_33 true (
      Do P (vCall (.func (.func 32) #[] ⟨[]⟩) [arg0, (.int .i64 7)]) fun t12_37 =>
      Do P (V (binOp .leq 3 t12_37 (.int .i64 1))) fun t13_38 =>
      Gd t13_38 true (
       Do P (vCall (.func (.func 32) #[] ⟨[]⟩) [arg0, (.int .i64 8)]) fun t14_42 =>
       Do P (V (binOp .leq 3 t14_42 (.int .i64 1))) fun t15_43 =>
       K t15_43
      ) (
       K (.bool false)
      )
     ) (
      K (.bool false)
     )
    ) (
     K (.bool false)
    )
   ) (
    K (.bool false)
   )
  ) (
   K (.bool false)
  )
def A13 : Ann := .s (.n) (.s (.n) (.s (.n) (.s (.n) (.n))))
set_option maxRecDepth 100000 in
theorem c13 (arg0 arg1 arg2 arg3 : Value) (K : Value → WP) (w : World) (h : s13 Tryz.prog arg0 arg1 arg2 arg3 K w) : Runs Tryz.prog 13 [arg0, arg1, arg2, arg3] K w :=
  runs_of_E wide (fn := Tryz.f13) (c := Tryz.f13.body.getD .skip) 45 A13 [arg0, arg1, arg2, arg3] w K Tryz.func13 (by kernel_rfl) (by kernel_rfl) (by kernel_rfl) (by kernel_rfl)
    (Eq.mp (by kernel_rfl : s13 Tryz.prog arg0 arg1 arg2 arg3 K w = E Tryz.prog (Tryz.f13.body.getD .skip) A13 (topK Tryz.prog K Tryz.f13.results) (fun i => (([arg0, arg1, arg2, arg3] : List Value)[i]?).getD undef) w) h)
theorem ct13 {arg0 arg1 arg2 arg3 : Value} {h : Hp} {post : Hp → Value → Prop} (hg : ∀ w0, Gs w0 h h [] (s13 Tryz.prog arg0 arg1 arg2 arg3 (RetP w0 h post))) : Ct Tryz.prog 13 [arg0, arg1, arg2, arg3] h post := Ct.of (sf := s13 Tryz.prog arg0 arg1 arg2 arg3) (c13 arg0 arg1 arg2 arg3) hg
theorem in13 {arg0 arg1 arg2 arg3 : Value} {S : WP} {K : Value → WP} (hg : G S (s13 Tryz.prog arg0 arg1 arg2 arg3 K)) : G S (Do Tryz.prog (vCall (.func (.func 13) #[] ⟨[]⟩) [arg0, arg1, arg2, arg3]) K) := Gs.into (args := [arg0, arg1, arg2, arg3]) (caps := []) (sf := s13 Tryz.prog arg0 arg1 arg2 arg3) (c13 arg0 arg1 arg2 arg3) hg

/- skewer/skewerref02.Valid : names 0 p, 1 dirs, 2 kinds, 3 rights, 4 p, 5 dirs, 6 kinds, 7 rights, 9 i -/
def s14 (P : Program) (arg0 arg1 arg2 arg3 : Value) (K : Value → WP) : WP :=
  Lp (α := Value) (fun c1 s1 => Jk fun _ => -- i
   Do P (vBuiltin .len #[26] 3 [arg0]) fun t2_12 =>
   Do P (V (binOp .lss 3 s1 t2_12)) fun t3_13 =>
   If t3_13 (
    Do P (V (Instr.indexAt 26 arg0 s1)) fun t4_18 =>
    Do P (V (Instr.loadAt 41 t4_18)) fun t5_19 =>
    Do P (vCall (.func (.func 33) #[] ⟨[]⟩) [t5_19, arg1, arg2, arg3]) fun t6_23 =>
    Do P (V (Op.unary .not t6_23)) fun t7_24 =>
    If t7_24 (
     K (.bool false)
    ) (
     Do P (V (binOp .add 3 s1 (.int .i64 1))) fun t8_15 =>
     c1 t8_15
    )
   ) (
    Do P (vBuiltin .len #[26] 3 [arg0]) fun t9_26 =>
    Do P (V (binOp .geq 3 t9_26 (.int .i64 1))) fun t10_27 =>
    Gd t10_27 true (
     Do P (vBuiltin .len #[26] 3 [arg0]) fun t11_30 =>
     Do P (V (binOp .leq 3 t11_30 (.int .i64 8))) fun t12_31 =>
     Gd t12_31 true (
      Do P (vCall (.func (.func 34) #[] ⟨[]⟩) [arg0, (.int .i64 6)]) fun t13_35 =>
      Do P (V (binOp .leq 3 t13_35 (.int .i64 2))) fun t14_36 =>
      Gd t14_36 true (
       Do P (vCall (.func (.func 34) #[] ⟨[]⟩) [arg0, (.int .i64 7)]) fun t15_40 =>
       Do P (V (binOp .leq 3 t15_40 (.int .i64 1))) fun t16_41 =>
       Gd t16_41 true (
        Do P (vCall (.func (.func 34) #[] ⟨[]⟩) [arg0, (.int .i64 8)]) fun t17_45 =>
        Do P (V (binOp .leq 3 t17_45 (.int .i64 1))) fun t18_46 =>
        K t18_46
       ) (
        K (.bool false)
       )
      ) (
       K (.bool false)
      )
     ) (
      K (.bool false)
     )
    ) (
     K (.bool false)
    )
   )
  ) (.int .i64 0)
def A14 : Ann := .s (.n) (.s (.s (.n) (.lp [9] 33554176 (.s (.s (.n) (.s (.n) (.n))) (.s (.s (.n) (.s (.s (.n) (.n)) (.n))) (.n))))) (.s (.n) (.n)))
set_option maxRecDepth 100000 in
theorem c14 (arg0 arg1 arg2 arg3 : Value) (K : Value → WP) (w : World) (h : s14 Tryz.prog arg0 arg1 arg2 arg3 K w) : Runs Tryz.prog 14 [arg0, arg1, arg2, arg3] K w :=
  runs_of_E wide (fn := Tryz.f14) (c := Tryz.f14.body.getD .skip) 48 A14 [arg0, arg1, arg2, arg3] w K Tryz.func14 (by kernel_rfl) (by kernel_rfl) (by kernel_rfl) (by kernel_rfl)
    (Eq.mp (by kernel_rfl : s14 Tryz.prog arg0 arg1 arg2 arg3 K w = E Tryz.prog (Tryz.f14.body.getD .skip) A14 (topK Tryz.prog K Tryz.f14.results) (fun i => (([arg0, arg1, arg2, arg3] : List Value)[i]?).getD undef) w) h)
theorem ct14 {arg0 arg1 arg2 arg3 : Value} {h : Hp} {post : Hp → Value → Prop} (hg : ∀ w0, Gs w0 h h [] (s14 Tryz.prog arg0 arg1 arg2 arg3 (RetP w0 h post))) : Ct Tryz.prog 14 [arg0, arg1, arg2, arg3] h post := Ct.of (sf := s14 Tryz.prog arg0 arg1 arg2 arg3) (c14 arg0 arg1 arg2 arg3) hg
theorem in14 {arg0 arg1 arg2 arg3 : Value} {S : WP} {K : Value → WP} (hg : G S (s14 Tryz.prog arg0 arg1 arg2 arg3 K)) : G S (Do Tryz.prog (vCall (.func (.func 14) #[] ⟨[]⟩) [arg0, arg1, arg2, arg3]) K) := Gs.into (args := [arg0, arg1, arg2, arg3]) (caps := []) (sf := s14 Tryz.prog arg0 arg1 arg2 arg3) (c14 arg0 arg1 arg2 arg3) hg

/- skewer/prog.Takes : names 0 p, 1 p -/
def s15 (P : Program) (arg0 : Value) (K : Value → WP) : WP :=
  Do P (vCall (.func (.func 32) #[] ⟨[]⟩) [arg0, (.int .i64 6)]) fun t1_4 =>
  Do P (V (binOp .gtr 3 t1_4 (.int .i64 0))) fun t2_5 =>
  K t2_5
def A15 : Ann := .s (.n) (.s (.n) (.n))
set_option maxRecDepth 100000 in
theorem c15 (arg0 : Value) (K : Value → WP) (w : World) (h : s15 Tryz.prog arg0 K w) : Runs Tryz.prog 15 [arg0] K w :=
  runs_of_E wide (fn := Tryz.f15) (c := Tryz.f15.body.getD .skip) 6 A15 [arg0] w K Tryz.func15 (by kernel_rfl) (by kernel_rfl) (by kernel_rfl) (by kernel_rfl)
    (Eq.mp (by kernel_rfl : s15 Tryz.prog arg0 K w = E Tryz.prog (Tryz.f15.body.getD .skip) A15 (topK Tryz.prog K Tryz.f15.results) (fun i => (([arg0] : List Value)[i]?).getD undef) w) h)
theorem ct15 {arg0 : Value} {h : Hp} {post : Hp → Value → Prop} (hg : ∀ w0, Gs w0 h h [] (s15 Tryz.prog arg0 (RetP w0 h post))) : Ct Tryz.prog 15 [arg0] h post := Ct.of (sf := s15 Tryz.prog arg0) (c15 arg0) hg
theorem in15 {arg0 : Value} {S : WP} {K : Value → WP} (hg : G S (s15 Tryz.prog arg0 K)) : G S (Do Tryz.prog (vCall (.func (.func 15) #[] ⟨[]⟩) [arg0]) K) := Gs.into (args := [arg0]) (caps := []) (sf := s15 Tryz.prog arg0) (c15 arg0) hg

/- skewer/skewerref02.Takes : names 0 p, 1 p -/
def s16 (P : Program) (arg0 : Value) (K : Value → WP) : WP :=
  Do P (vCall (.func (.func 34) #[] ⟨[]⟩) [arg0, (.int .i64 6)]) fun t1_4 =>
  Do P (V (binOp .gtr 3 t1_4 (.int .i64 0))) fun t2_5 =>
  K t2_5
def A16 : Ann := .s (.n) (.s (.n) (.n))
set_option maxRecDepth 100000 in
theorem c16 (arg0 : Value) (K : Value → WP) (w : World) (h : s16 Tryz.prog arg0 K w) : Runs Tryz.prog 16 [arg0] K w :=
  runs_of_E wide (fn := Tryz.f16) (c := Tryz.f16.body.getD .skip) 6 A16 [arg0] w K Tryz.func16 (by kernel_rfl) (by kernel_rfl) (by kernel_rfl) (by kernel_rfl)
    (Eq.mp (by kernel_rfl : s16 Tryz.prog arg0 K w = E Tryz.prog (Tryz.f16.body.getD .skip) A16 (topK Tryz.prog K Tryz.f16.results) (fun i => (([arg0] : List Value)[i]?).getD undef) w) h)
theorem ct16 {arg0 : Value} {h : Hp} {post : Hp → Value → Prop} (hg : ∀ w0, Gs w0 h h [] (s16 Tryz.prog arg0 (RetP w0 h post))) : Ct Tryz.prog 16 [arg0] h post := Ct.of (sf := s16 Tryz.prog arg0) (c16 arg0) hg
theorem in16 {arg0 : Value} {S : WP} {K : Value → WP} (hg : G S (s16 Tryz.prog arg0 K)) : G S (Do Tryz.prog (vCall (.func (.func 16) #[] ⟨[]⟩) [arg0]) K) := Gs.into (args := [arg0]) (caps := []) (sf := s16 Tryz.prog arg0) (c16 arg0) hg

/- skewer/skewerlaw02.sameInts : names 0 a, 1 b, 2 a, 3 b, 5 i -/
def s17 (P : Program) (arg0 arg1 : Value) (K : Value → WP) : WP :=
  Do P (vBuiltin .len #[33] 3 [arg0]) fun t1_7 =>
  Do P (vBuiltin .len #[33] 3 [arg1]) fun t2_9 =>
  Do P (V (EqG .neq 3 (.tmp 7) (.tmp 9) t1_7 t2_9)) fun t3_10 =>
  If t3_10 (
   K (.bool false)
  ) (
   Lp (α := Value) (fun c4 s4 => Jk fun _ => -- i
    Do P (vBuiltin .len #[33] 3 [arg0]) fun t5_13 =>
    Do P (V (binOp .lss 3 s4 t5_13)) fun t6_14 =>
    If t6_14 (
     Dr <|
     Qk P (V (Instr.indexAt 33 arg0 s4)) fun C7 t7_19 =>
     Qk P (V (Instr.loadAt 3 t7_19)) fun C8 t8_20 =>
     Qk P (V (Instr.indexAt 33 arg1 s4)) fun C9 t9_23 =>
     Qk P (V (Instr.loadAt 3 t9_23)) fun C10 t10_24 =>
     Qk P (V (EqG .neq 3 (.tmp 20) (.tmp 24) t8_20 t10_24)) fun C11 t11_25 =>
     If t11_25 (
      K (.bool false)
     ) (
      Do P (V (binOp .add 3 s4 (.int .i64 1))) fun t12_16 =>
      c4 t12_16
     )
    ) (
     K (.bool true)
    )
   ) (.int .i64 0)
  )
def A17 : Ann := .s (.n) (.s (.s (.n) (.s (.s (.n) (.n)) (.n))) (.s (.s (.n) (.lp [5] 67106864 (.s (.s (.n) (.s (.n) (.n))) (.s (.s (.plan [(0, 1, 131072), (0, 32, 262144), (3, 393216, 524288), (4, 524288, 1048576), (0, 2, 2097152), (0, 32, 4194304), (48, 6291456, 8388608), (64, 8388608, 16777216), (136, 17825792, 33554432)] (.q 0 (.q 1 (.q 2 (.q 3 (.q 4 (.q 5 (.q 6 (.q 7 (.q 8 .done)))))))))) (.s (.s (.n) (.n)) (.n))) (.n))))) (.s (.n) (.n))))
set_option maxRecDepth 100000 in
theorem c17 (arg0 arg1 : Value) (K : Value → WP) (w : World) (h : s17 Tryz.prog arg0 arg1 K w) : Runs Tryz.prog 17 [arg0, arg1] K w :=
  runs_of_E wide (fn := Tryz.f17) (c := Tryz.f17.body.getD .skip) 26 A17 [arg0, arg1] w K Tryz.func17 (by kernel_rfl) (by kernel_rfl) (by kernel_rfl) (by kernel_rfl)
    (Eq.mp (by kernel_rfl : s17 Tryz.prog arg0 arg1 K w = E Tryz.prog (Tryz.f17.body.getD .skip) A17 (topK Tryz.prog K Tryz.f17.results) (fun i => (([arg0, arg1] : List Value)[i]?).getD undef) w) h)
theorem ct17 {arg0 arg1 : Value} {h : Hp} {post : Hp → Value → Prop} (hg : ∀ w0, Gs w0 h h [] (s17 Tryz.prog arg0 arg1 (RetP w0 h post))) : Ct Tryz.prog 17 [arg0, arg1] h post := Ct.of (sf := s17 Tryz.prog arg0 arg1) (c17 arg0 arg1) hg
theorem in17 {arg0 arg1 : Value} {S : WP} {K : Value → WP} (hg : G S (s17 Tryz.prog arg0 arg1 K)) : G S (Do Tryz.prog (vCall (.func (.func 17) #[] ⟨[]⟩) [arg0, arg1]) K) := Gs.into (args := [arg0, arg1]) (caps := []) (sf := s17 Tryz.prog arg0 arg1) (c17 arg0 arg1) hg

/- skewer/prog.Dirs : names 0 p, 1 p, 3 out, 4 _, 5 x -/
def s18 (P : Program) (arg0 : Value) (K : Value → WP) : WP :=
  Do P (vBuiltin .len #[26] 3 [arg0]) fun t1_7 =>
  Lp (α := Value × Value) (fun c2 s2 => Jk fun _ => -- out t8
   Do P (V (binOp .lss 3 s2.2 t1_7)) fun t3_9 =>
   If t3_9 (
    Jn (α := Value) (fun j4 => Jk fun _ => -- out
     Do P (V (binOp .add 3 s2.2 (.int .i64 1))) fun t5_19 =>
     c2 (j4, t5_19)
    ) fun k4 =>
    Do P (V (Instr.indexAt 26 arg0 s2.2)) fun t6_10 =>
    Do P (V (Instr.loadAt 41 t6_10)) fun t7_11 =>
    Do P (V (Instr.alloc 41 true (.tuple #[]))) fun x8 =>
    Do P (U (Instr.storeAt 41 x8 t7_11)) fun t9_x =>
    Do P (V (Instr.loadAt 41 x8)) fun t10_12 =>
    Do P (vCall (.func (.func 35) #[] ⟨[]⟩) [t10_12]) fun t11_13 =>
    If t11_13 (
     Do P (V (Instr.fieldAt 41 x8 1)) fun t12_15 =>
     Do P (V (Instr.loadAt 3 t12_15)) fun t13_16 =>
     Do P (vBuildSlice 33 1 [(0, t13_16)]) fun t14_17 =>
     Do P (vBuiltin .append #[33, 33] 33 [s2.1, t14_17]) fun t15_18 =>
     k4 t15_18
    ) (
     k4 s2.1
    )
   ) (
    Do P (vCall (.func (.func 36) #[] ⟨[]⟩) [s2.1]) fun t16_21 =>
    Do P (vCall (.func (.func 37) #[] ⟨[]⟩) [s2.1]) fun t17_23 =>
    K t17_23
   )
  ) ((.slice none 0 0), (.int .i64 0))
def A18 : Ann := .s (.n) (.s (.n) (.s (.s (.n) (.lp [3, 8] 1048360 (.s (.n) (.s (.s (.n) (.n)) (.j [3] 523304 (.s (.n) (.s (.n) (.s (.n) (.n)))) (.n)))))) (.s (.n) (.s (.n) (.n)))))
set_option maxRecDepth 100000 in
theorem c18 (arg0 : Value) (K : Value → WP) (w : World) (h : s18 Tryz.prog arg0 K w) : Runs Tryz.prog 18 [arg0] K w :=
  runs_of_E wide (fn := Tryz.f18) (c := Tryz.f18.body.getD .skip) 24 A18 [arg0] w K Tryz.func18 (by kernel_rfl) (by kernel_rfl) (by kernel_rfl) (by kernel_rfl)
    (Eq.mp (by kernel_rfl : s18 Tryz.prog arg0 K w = E Tryz.prog (Tryz.f18.body.getD .skip) A18 (topK Tryz.prog K Tryz.f18.results) (fun i => (([arg0] : List Value)[i]?).getD undef) w) h)
theorem ct18 {arg0 : Value} {h : Hp} {post : Hp → Value → Prop} (hg : ∀ w0, Gs w0 h h [] (s18 Tryz.prog arg0 (RetP w0 h post))) : Ct Tryz.prog 18 [arg0] h post := Ct.of (sf := s18 Tryz.prog arg0) (c18 arg0) hg
theorem in18 {arg0 : Value} {S : WP} {K : Value → WP} (hg : G S (s18 Tryz.prog arg0 K)) : G S (Do Tryz.prog (vCall (.func (.func 18) #[] ⟨[]⟩) [arg0]) K) := Gs.into (args := [arg0]) (caps := []) (sf := s18 Tryz.prog arg0) (c18 arg0) hg

/- skewer/skewerref02.Dirs : names 0 p, 1 p, 3 out, 4 i, 5 next, 6 n, 7 done, 8 k -/
def s19 (P : Program) (arg0 : Value) (K : Value → WP) : WP :=
  Do P (vBuildSlice 33 0 []) fun t1_9 =>
  Lp (α := Value × Value) (fun c2 s2 => Jk fun _ => -- out i
   Do P (vBuiltin .len #[26] 3 [arg0]) fun t3_12 =>
   Do P (V (binOp .lss 3 s2.2 t3_12)) fun t4_13 =>
   If t4_13 (
    Jn (α := Value) (fun j5 => Jk fun _ => -- out
     Do P (V (binOp .add 3 s2.2 (.int .i64 1))) fun t6_15 =>
     c2 (j5, t6_15)
    ) fun k5 =>
    Do P (V (Instr.indexAt 26 arg0 s2.2)) fun t7_18 =>
    Do P (V (Instr.loadAt 41 t7_18)) fun t8_19 =>
    Do P (vCall (.func (.func 27) #[] ⟨[]⟩) [t8_19]) fun t9_20 =>
    Do P (V (Op.unary .not t9_20)) fun t10_21 =>
    If t10_21 (
     k5 s2.1
    ) (
     Dr <|
     Qk P (V (Instr.indexAt 26 arg0 s2.2)) fun C11 t11_25 =>
     Qk P (V (Instr.fieldAt 41 t11_25 1)) fun C12 t12_26 =>
     Qk P (V (Instr.loadAt 3 t12_26)) fun C13 t13_27 =>
     Do P (vBuildSlice 33 0 []) fun t14_22 =>
     With C13 <|
     With C12 <|
     With C11 <|
     Lp (α := Value × Value × Value) (fun c15 s15 => Jk fun _ => -- next done k
      Do P (vBuiltin .len #[33] 3 [s2.1]) fun t16_30 =>
      Do P (V (binOp .lss 3 s15.2.2 t16_30)) fun t17_31 =>
      If t17_31 (
       Jn (α := Value) (fun j18 => Jk fun _ => -- next
        Jn (α := Value) (fun j19 => Jk fun _ => -- done
         Do P (V (Instr.indexAt 33 s2.1 s15.2.2)) fun t20_60 =>
         Do P (V (Instr.loadAt 3 t20_60)) fun t21_61 =>
         Do P (vBuildSlice 33 1 [(0, t21_61)]) fun t22_62 =>
         Do P (vBuiltin .append #[33, 33] 33 [j18, t22_62]) fun t23_63 =>
         Do P (V (binOp .add 3 s15.2.2 (.int .i64 1))) fun t24_33 =>
         c15 (t23_63, j19, t24_33)
        ) fun k19 =>
        Gd s15.2.1 false (
         Do P (V (Instr.indexAt 33 s2.1 s15.2.2)) fun t25_53 =>
         Do P (V (Instr.loadAt 3 t25_53)) fun t26_54 =>
         Do P (V (binOp .leq 3 t13_27 t26_54)) fun t27_55 =>
         k19 t27_55
        ) (
         k19 (.bool true)
        )
       ) fun k18 =>
       Jn (α := Value) (fun j28 => Jk fun _ => -- t43
        If j28 (
         Do P (vBuildSlice 33 1 [(0, t13_27)]) fun t29_46 =>
         Do P (vBuiltin .append #[33, 33] 33 [s15.1, t29_46]) fun t30_47 =>
         k18 t30_47
        ) (
         k18 s15.1
        )
       ) fun k28 =>
       Do P (V (Op.unary .not s15.2.1)) fun t31_35 =>
       Gd t31_35 true (
        Do P (V (Instr.indexAt 33 s2.1 s15.2.2)) fun t32_40 =>
        Do P (V (Instr.loadAt 3 t32_40)) fun t33_41 =>
        Do P (V (binOp .lss 3 t13_27 t33_41)) fun t34_42 =>
        k28 t34_42
       ) (
        k28 (.bool false)
       )
      ) (
       Do P (V (Op.unary .not s15.2.1)) fun t35_65 =>
       If t35_65 (
        Do P (vBuildSlice 33 1 [(0, t13_27)]) fun t36_68 =>
        Do P (vBuiltin .append #[33, 33] 33 [s15.1, t36_68]) fun t37_69 =>
        k5 t37_69
       ) (
        k5 s15.1
       )
      )
     ) (t14_22, (.bool false), (.int .i64 0))
    )
   ) (
    K s2.1
   )
  ) (t1_9, (.int .i64 0))
def A19 : Ann := .s (.n) (.s (.n) (.s (.s (.n) (.lp [3, 4] 2361183241434822606328 (.s (.s (.n) (.s (.n) (.n))) (.j [3] 2361183241434822541800 (.s (.s (.n) (.s (.n) (.n))) (.s (.plan [(0, 0, 4194304), (0, 1, 8388608), (0, 16, 16777216), (6, 25165824, 33554432), (8, 33554432, 67108864), (16, 67108864, 134217728), (1, 4194304, 32), (127, 134217728, 64), (255, 0, 128)] (.q 1 (.q 2 (.q 3 (.q 4 (.q 5 (.l 0 (.q 6 (.q 7 (.q 8 .done)))))))))) (.s (.s (.n) (.lp [5, 7, 8] 18446744073441116576 (.s (.s (.n) (.s (.n) (.n))) (.s (.j [5] 281457796841504 (.j [43] 17575006175232 (.n) (.s (.n) (.n))) (.j [7] 143833713099145344 (.n) (.n))) (.n))))) (.s (.s (.n) (.s (.n) (.n))) (.n))))) (.n))))) (.s (.n) (.n))))
set_option maxRecDepth 100000 in
theorem c19 (arg0 : Value) (K : Value → WP) (w : World) (h : s19 Tryz.prog arg0 K w) : Runs Tryz.prog 19 [arg0] K w :=
  runs_of_E wide (fn := Tryz.f19) (c := Tryz.f19.body.getD .skip) 72 A19 [arg0] w K Tryz.func19 (by kernel_rfl) (by kernel_rfl) (by kernel_rfl) (by kernel_rfl)
    (Eq.mp (by kernel_rfl : s19 Tryz.prog arg0 K w = E Tryz.prog (Tryz.f19.body.getD .skip) A19 (topK Tryz.prog K Tryz.f19.results) (fun i => (([arg0] : List Value)[i]?).getD undef) w) h)
theorem ct19 {arg0 : Value} {h : Hp} {post : Hp → Value → Prop} (hg : ∀ w0, Gs w0 h h [] (s19 Tryz.prog arg0 (RetP w0 h post))) : Ct Tryz.prog 19 [arg0] h post := Ct.of (sf := s19 Tryz.prog arg0) (c19 arg0) hg
theorem in19 {arg0 : Value} {S : WP} {K : Value → WP} (hg : G S (s19 Tryz.prog arg0 K)) : G S (Do Tryz.prog (vCall (.func (.func 19) #[] ⟨[]⟩) [arg0]) K) := Gs.into (args := [arg0]) (caps := []) (sf := s19 Tryz.prog arg0) (c19 arg0) hg

/- skewer/prog.Print : names 0 p, 1 p, 3 words, 4 _, 5 x, 6 r, 7 _, 8 w -/
def s20 (P : Program) (arg0 : Value) (K : Value → WP) : WP :=
  Do P (vCall (.func (.func 13) #[] ⟨[]⟩) [arg0, (.int .i64 8), (.int .i64 6), (.int .i64 4)]) fun t1_10 =>
  Do P (V (Op.unary .not t1_10)) fun t2_11 =>
  If t2_11 (
   K (.string ⟨#[]⟩)
  ) (
   Do P (vBuiltin .len #[26] 3 [arg0]) fun t3_13 =>
   Lp (α := Value × Value) (fun c4 s4 => Jk fun _ => -- words t14
    Do P (V (binOp .lss 3 s4.2 t3_13)) fun t5_15 =>
    If t5_15 (
     Do P (V (Instr.indexAt 26 arg0 s4.2)) fun t6_16 =>
     Do P (V (Instr.loadAt 41 t6_16)) fun t7_17 =>
     Do P (V (Instr.alloc 41 true (.tuple #[]))) fun x8 =>
     Do P (U (Instr.storeAt 41 x8 t7_17)) fun t9_x =>
     Do P (V (Instr.fieldAt 41 x8 0)) fun t10_19 =>
     Do P (V (Instr.loadAt 3 t10_19)) fun t11_20 =>
     Do P (vCall (.func (.func 30) #[] ⟨[]⟩) [t11_20]) fun t12_21 =>
     Do P (V (Instr.extract t12_21 0)) fun t13_22 =>
     Do P (V (Instr.extract t12_21 1)) fun t14_23 =>
     Do P (V (Instr.alloc 61 true (.tuple #[]))) fun r15 =>
     Do P (U (Instr.storeAt 61 r15 t13_22)) fun t16_x =>
     Do P (V (Instr.fieldAt 61 r15 0)) fun t17_24 =>
     Do P (V (Instr.loadAt 9 t17_24)) fun t18_25 =>
     Jn (α := Value) (fun j19 => Jk fun _ => -- w
      Do P (vBuildSlice 48 1 [(0, j19)]) fun t20_36 =>
      Do P (vBuiltin .append #[48, 48] 48 [s4.1, t20_36]) fun t21_37 =>
      Do P (V (binOp .add 3 s4.2 (.int .i64 1))) fun t22_38 =>
      c4 (t21_37, t22_38)
     ) fun k19 =>
     Do P (V (Instr.fieldAt 61 r15 1)) fun t23_26 =>
     Do P (V (Instr.loadAt 3 t23_26)) fun t24_27 =>
     Do P (V (EqG .neq 3 (.tmp 27) (.const (.int .i64 0)) t24_27 (.int .i64 0))) fun t25_28 =>
     If t25_28 (
      Do P (V (Instr.fieldAt 41 x8 1)) fun t26_30 =>
      Do P (V (Instr.loadAt 3 t26_30)) fun t27_31 =>
      Do P (vCall (.func (.func 38) #[] ⟨[]⟩) [t27_31]) fun t28_32 =>
      Do P (V (binOp .add 9 t18_25 t28_32)) fun t29_33 =>
      k19 t29_33
     ) (
      k19 t18_25
     )
    ) (
     Do P (vCall (.func (.func 39) #[] ⟨[]⟩) [s4.1, (.string ⟨#[32]⟩)]) fun t30_40 =>
     K t30_40
    )
   ) ((.slice none 0 0), (.int .i64 0))
  )
def A20 : Ann := .s (.n) (.s (.s (.n) (.s (.s (.n) (.n)) (.n))) (.s (.n) (.s (.s (.n) (.lp [3, 14] 549755797992 (.s (.n) (.s (.s (.n) (.n)) (.s (.s (.n) (.s (.n) (.s (.n) (.j [8] 17112760576 (.s (.n) (.s (.n) (.n))) (.n))))) (.n)))))) (.s (.n) (.n)))))
set_option maxRecDepth 100000 in
theorem c20 (arg0 : Value) (K : Value → WP) (w : World) (h : s20 Tryz.prog arg0 K w) : Runs Tryz.prog 20 [arg0] K w :=
  runs_of_E wide (fn := Tryz.f20) (c := Tryz.f20.body.getD .skip) 41 A20 [arg0] w K Tryz.func20 (by kernel_rfl) (by kernel_rfl) (by kernel_rfl) (by kernel_rfl)
    (Eq.mp (by kernel_rfl : s20 Tryz.prog arg0 K w = E Tryz.prog (Tryz.f20.body.getD .skip) A20 (topK Tryz.prog K Tryz.f20.results) (fun i => (([arg0] : List Value)[i]?).getD undef) w) h)
theorem ct20 {arg0 : Value} {h : Hp} {post : Hp → Value → Prop} (hg : ∀ w0, Gs w0 h h [] (s20 Tryz.prog arg0 (RetP w0 h post))) : Ct Tryz.prog 20 [arg0] h post := Ct.of (sf := s20 Tryz.prog arg0) (c20 arg0) hg
theorem in20 {arg0 : Value} {S : WP} {K : Value → WP} (hg : G S (s20 Tryz.prog arg0 K)) : G S (Do Tryz.prog (vCall (.func (.func 20) #[] ⟨[]⟩) [arg0]) K) := Gs.into (args := [arg0]) (caps := []) (sf := s20 Tryz.prog arg0) (c20 arg0) hg

/- skewer/skewerref02.Print : names 0 p, 1 p, 3 out, 4 i -/
def s21 (P : Program) (arg0 : Value) (K : Value → WP) : WP :=
  Do P (vCall (.func (.func 14) #[] ⟨[]⟩) [arg0, (.int .i64 8), (.int .i64 6), (.int .i64 4)]) fun t1_6 =>
  Do P (V (Op.unary .not t1_6)) fun t2_7 =>
  If t2_7 (
   K (.string ⟨#[]⟩)
  ) (
   Do P (V (Instr.indexAt 26 arg0 (.int .i64 0))) fun t3_9 =>
   Do P (V (Instr.loadAt 41 t3_9)) fun t4_10 =>
   Do P (vCall (.func (.func 40) #[] ⟨[]⟩) [t4_10]) fun t5_11 =>
   Lp (α := Value × Value) (fun c6 s6 => Jk fun _ => -- out i
    Do P (vBuiltin .len #[26] 3 [arg0]) fun t7_14 =>
    Do P (V (binOp .lss 3 s6.2 t7_14)) fun t8_15 =>
    If t8_15 (
     Do P (V (Instr.indexAt 26 arg0 s6.2)) fun t9_21 =>
     Do P (V (Instr.loadAt 41 t9_21)) fun t10_22 =>
     Do P (vCall (.func (.func 40) #[] ⟨[]⟩) [t10_22]) fun t11_23 =>
     Do P (V (binOp .add 9 (.string ⟨#[32]⟩) t11_23)) fun t12_24 =>
     Do P (V (binOp .add 9 s6.1 t12_24)) fun t13_25 =>
     Do P (V (binOp .add 3 s6.2 (.int .i64 1))) fun t14_17 =>
     c6 (t13_25, t14_17)
    ) (
     K s6.1
    )
   ) (t5_11, (.int .i64 1))
  )
def A21 : Ann := .s (.n) (.s (.s (.n) (.s (.s (.n) (.n)) (.n))) (.s (.n) (.s (.s (.n) (.lp [3, 4] 67104792 (.s (.s (.n) (.s (.n) (.n))) (.s (.n) (.n))))) (.s (.n) (.n)))))
set_option maxRecDepth 100000 in
theorem c21 (arg0 : Value) (K : Value → WP) (w : World) (h : s21 Tryz.prog arg0 K w) : Runs Tryz.prog 21 [arg0] K w :=
  runs_of_E wide (fn := Tryz.f21) (c := Tryz.f21.body.getD .skip) 27 A21 [arg0] w K Tryz.func21 (by kernel_rfl) (by kernel_rfl) (by kernel_rfl) (by kernel_rfl)
    (Eq.mp (by kernel_rfl : s21 Tryz.prog arg0 K w = E Tryz.prog (Tryz.f21.body.getD .skip) A21 (topK Tryz.prog K Tryz.f21.results) (fun i => (([arg0] : List Value)[i]?).getD undef) w) h)
theorem ct21 {arg0 : Value} {h : Hp} {post : Hp → Value → Prop} (hg : ∀ w0, Gs w0 h h [] (s21 Tryz.prog arg0 (RetP w0 h post))) : Ct Tryz.prog 21 [arg0] h post := Ct.of (sf := s21 Tryz.prog arg0) (c21 arg0) hg
theorem in21 {arg0 : Value} {S : WP} {K : Value → WP} (hg : G S (s21 Tryz.prog arg0 K)) : G S (Do Tryz.prog (vCall (.func (.func 21) #[] ⟨[]⟩) [arg0]) K) := Gs.into (args := [arg0]) (caps := []) (sf := s21 Tryz.prog arg0) (c21 arg0) hg

/- skewer/skewerref02.Steps : names 1 out, 2 op, 3 n, 4 x -/
def s22 (P : Program) (K : Value → WP) : WP :=
  Do P (vBuildSlice 23 0 []) fun t1_5 =>
  Lp (α := Value × Value) (fun c2 s2 => Jk fun _ => -- out op
   Do P (V (binOp .leq 3 s2.2 (.int .i64 10))) fun t3_7 =>
   If t3_7 (
    Lp (α := Value × Value) (fun c4 s4 => Jk fun _ => -- out n
     Do P (V (binOp .lss 3 s4.2 (.int .i64 8))) fun t5_11 =>
     If t5_11 (
      Jn (α := Value) (fun j6 => Jk fun _ => -- out
       Do P (V (binOp .add 3 s4.2 (.int .i64 1))) fun t7_13 =>
       c4 (j6, t7_13)
      ) fun k6 =>
      Do P (vBuild 41 [(0, s2.2), (1, s4.2)]) fun t8_16 =>
      Do P (V (Instr.alloc 41 true (.tuple #[]))) fun x9 =>
      Do P (U (Instr.storeAt 41 x9 t8_16)) fun t10_x =>
      Do P (V (Instr.loadAt 41 x9)) fun t11_17 =>
      Do P (vCall (.func (.func 33) #[] ⟨[]⟩) [t11_17, (.int .i64 8), (.int .i64 6), (.int .i64 4)]) fun t12_18 =>
      If t12_18 (
       Do P (V (Instr.loadAt 41 x9)) fun t13_20 =>
       Do P (vBuildSlice 23 1 [(0, t13_20)]) fun t14_21 =>
       Do P (vBuiltin .append #[23, 23] 23 [s4.1, t14_21]) fun t15_22 =>
       k6 t15_22
      ) (
       k6 s4.1
      )
     ) (
      Do P (V (binOp .add 3 s2.2 (.int .i64 1))) fun t16_9 =>
      c2 (s4.1, t16_9)
     )
    ) (s2.1, (.int .i64 0))
   ) (
    K s2.1
   )
  ) (t1_5, (.int .i64 1))
def A22 : Ann := .s (.n) (.s (.n) (.s (.s (.n) (.lp [1, 2] 8388574 (.s (.s (.n) (.s (.n) (.n))) (.s (.s (.n) (.lp [1, 3] 8387610 (.s (.s (.n) (.s (.n) (.n))) (.j [1] 8372242 (.s (.n) (.s (.n) (.s (.n) (.n)))) (.n))))) (.n))))) (.s (.n) (.n))))
set_option maxRecDepth 100000 in
theorem c22 (K : Value → WP) (w : World) (h : s22 Tryz.prog  K w) : Runs Tryz.prog 22 [] K w :=
  runs_of_E wide (fn := Tryz.f22) (c := Tryz.f22.body.getD .skip) 24 A22 [] w K Tryz.func22 (by kernel_rfl) (by kernel_rfl) (by kernel_rfl) (by kernel_rfl)
    (Eq.mp (by kernel_rfl : s22 Tryz.prog  K w = E Tryz.prog (Tryz.f22.body.getD .skip) A22 (topK Tryz.prog K Tryz.f22.results) (fun i => (([] : List Value)[i]?).getD undef) w) h)
theorem ct22 {h : Hp} {post : Hp → Value → Prop} (hg : ∀ w0, Gs w0 h h [] (s22 Tryz.prog  (RetP w0 h post))) : Ct Tryz.prog 22 [] h post := Ct.of (sf := s22 Tryz.prog ) (c22 ) hg
theorem in22 {S : WP} {K : Value → WP} (hg : G S (s22 Tryz.prog  K)) : G S (Do Tryz.prog (vCall (.func (.func 22) #[] ⟨[]⟩) []) K) := Gs.into (args := []) (caps := []) (sf := s22 Tryz.prog ) (c22 ) hg

/- skewer/prog.Parse : names 0 s, 1 s, 4 p, 5 _, 6 w, 7 x, 8 ok -/
def s23 (P : Program) (arg0 : Value) (K : Value → WP) : WP :=
  Do P (vCall (.func (.func 41) #[] ⟨[]⟩) [arg0, (.string ⟨#[32]⟩)]) fun t1_10 =>
  Do P (vBuiltin .len #[48] 3 [t1_10]) fun t2_11 =>
  Lp (α := Value × Value) (fun c3 s3 => Jk fun _ => -- p t12
   Do P (V (binOp .lss 3 s3.2 t2_11)) fun t4_13 =>
   If t4_13 (
    Do P (V (Instr.indexAt 48 t1_10 s3.2)) fun t5_14 =>
    Do P (V (Instr.loadAt 9 t5_14)) fun t6_15 =>
    Do P (vCall (.func (.func 42) #[] ⟨[]⟩) [t6_15]) fun t7_18 =>
    Do P (V (Instr.extract t7_18 0)) fun t8_19 =>
    Do P (V (Instr.extract t7_18 1)) fun t9_20 =>
    Do P (V (Instr.alloc 41 true (.tuple #[]))) fun x10 =>
    Do P (U (Instr.storeAt 41 x10 t8_19)) fun t11_x =>
    Do P (V (Op.unary .not t9_20)) fun t12_22 =>
    If t12_22 (
     K (.tuple #[(.slice none 0 0), (.int .i64 20)])
    ) (
     Do P (V (Instr.loadAt 41 x10)) fun t13_24 =>
     Do P (vBuildSlice 26 1 [(0, t13_24)]) fun t14_25 =>
     Do P (vBuiltin .append #[26, 26] 26 [s3.1, t14_25]) fun t15_26 =>
     Do P (V (binOp .add 3 s3.2 (.int .i64 1))) fun t16_27 =>
     c3 (t15_26, t16_27)
    )
   ) (
    Do P (vCall (.func (.func 20) #[] ⟨[]⟩) [s3.1]) fun t17_29 =>
    Do P (V (EqG .neq 9 (.tmp 29) (.tmp 30) t17_29 arg0)) fun t18_31 =>
    If t18_31 (
     K (.tuple #[(.slice none 0 0), (.int .i64 20)])
    ) (
     K (.tuple #[s3.1, (.int .i64 0)])
    )
   )
  ) ((.slice none 0 0), (.int .i64 0))
def A23 : Ann := .s (.n) (.s (.n) (.s (.s (.n) (.lp [4, 12] 268431836 (.s (.n) (.s (.s (.n) (.n)) (.s (.s (.n) (.s (.n) (.s (.s (.n) (.s (.s (.n) (.n)) (.n))) (.n)))) (.n)))))) (.s (.s (.n) (.s (.s (.n) (.n)) (.n))) (.s (.n) (.n)))))
set_option maxRecDepth 100000 in
theorem c23 (arg0 : Value) (K : Value → WP) (w : World) (h : s23 Tryz.prog arg0 K w) : Runs Tryz.prog 23 [arg0] K w :=
  runs_of_E wide (fn := Tryz.f23) (c := Tryz.f23.body.getD .skip) 33 A23 [arg0] w K Tryz.func23 (by kernel_rfl) (by kernel_rfl) (by kernel_rfl) (by kernel_rfl)
    (Eq.mp (by kernel_rfl : s23 Tryz.prog arg0 K w = E Tryz.prog (Tryz.f23.body.getD .skip) A23 (topK Tryz.prog K Tryz.f23.results) (fun i => (([arg0] : List Value)[i]?).getD undef) w) h)
theorem ct23 {arg0 : Value} {h : Hp} {post : Hp → Value → Prop} (hg : ∀ w0, Gs w0 h h [] (s23 Tryz.prog arg0 (RetP w0 h post))) : Ct Tryz.prog 23 [arg0] h post := Ct.of (sf := s23 Tryz.prog arg0) (c23 arg0) hg
theorem in23 {arg0 : Value} {S : WP} {K : Value → WP} (hg : G S (s23 Tryz.prog arg0 K)) : G S (Do Tryz.prog (vCall (.func (.func 23) #[] ⟨[]⟩) [arg0]) K) := Gs.into (args := [arg0]) (caps := []) (sf := s23 Tryz.prog arg0) (c23 arg0) hg

/- skewer/skewerref02.Same : names 0 a, 1 b, 2 a, 3 b, 5 i -/
def s24 (P : Program) (arg0 arg1 : Value) (K : Value → WP) : WP :=
  Do P (vBuiltin .len #[26] 3 [arg0]) fun t1_7 =>
  Do P (vBuiltin .len #[26] 3 [arg1]) fun t2_9 =>
  Do P (V (EqG .neq 3 (.tmp 7) (.tmp 9) t1_7 t2_9)) fun t3_10 =>
  If t3_10 (
   K (.bool false)
  ) (
   Lp (α := Value) (fun c4 s4 => Jk fun _ => -- i
    Do P (vBuiltin .len #[26] 3 [arg0]) fun t5_13 =>
    Do P (V (binOp .lss 3 s4 t5_13)) fun t6_14 =>
    If t6_14 (
     Dr <|
     Qk P (V (Instr.indexAt 26 arg0 s4)) fun C7 t7_19 =>
     Qk P (V (Instr.loadAt 41 t7_19)) fun C8 t8_20 =>
     Qk P (V (Instr.indexAt 26 arg1 s4)) fun C9 t9_23 =>
     Qk P (V (Instr.loadAt 41 t9_23)) fun C10 t10_24 =>
     Qk P (V (EqG .neq 41 (.tmp 20) (.tmp 24) t8_20 t10_24)) fun C11 t11_25 =>
     If t11_25 (
      K (.bool false)
     ) (
      Do P (V (binOp .add 3 s4 (.int .i64 1))) fun t12_16 =>
      c4 t12_16
     )
    ) (
     K (.bool true)
    )
   ) (.int .i64 0)
  )
def A24 : Ann := .s (.n) (.s (.s (.n) (.s (.s (.n) (.n)) (.n))) (.s (.s (.n) (.lp [5] 67106864 (.s (.s (.n) (.s (.n) (.n))) (.s (.s (.plan [(0, 1, 131072), (0, 32, 262144), (3, 393216, 524288), (4, 524288, 1048576), (0, 2, 2097152), (0, 32, 4194304), (48, 6291456, 8388608), (64, 8388608, 16777216), (136, 17825792, 33554432)] (.q 0 (.q 1 (.q 2 (.q 3 (.q 4 (.q 5 (.q 6 (.q 7 (.q 8 .done)))))))))) (.s (.s (.n) (.n)) (.n))) (.n))))) (.s (.n) (.n))))
set_option maxRecDepth 100000 in
theorem c24 (arg0 arg1 : Value) (K : Value → WP) (w : World) (h : s24 Tryz.prog arg0 arg1 K w) : Runs Tryz.prog 24 [arg0, arg1] K w :=
  runs_of_E wide (fn := Tryz.f24) (c := Tryz.f24.body.getD .skip) 26 A24 [arg0, arg1] w K Tryz.func24 (by kernel_rfl) (by kernel_rfl) (by kernel_rfl) (by kernel_rfl)
    (Eq.mp (by kernel_rfl : s24 Tryz.prog arg0 arg1 K w = E Tryz.prog (Tryz.f24.body.getD .skip) A24 (topK Tryz.prog K Tryz.f24.results) (fun i => (([arg0, arg1] : List Value)[i]?).getD undef) w) h)
theorem ct24 {arg0 arg1 : Value} {h : Hp} {post : Hp → Value → Prop} (hg : ∀ w0, Gs w0 h h [] (s24 Tryz.prog arg0 arg1 (RetP w0 h post))) : Ct Tryz.prog 24 [arg0, arg1] h post := Ct.of (sf := s24 Tryz.prog arg0 arg1) (c24 arg0 arg1) hg
theorem in24 {arg0 arg1 : Value} {S : WP} {K : Value → WP} (hg : G S (s24 Tryz.prog arg0 arg1 K)) : G S (Do Tryz.prog (vCall (.func (.func 24) #[] ⟨[]⟩) [arg0, arg1]) K) := Gs.into (args := [arg0, arg1]) (caps := []) (sf := s24 Tryz.prog arg0 arg1) (c24 arg0 arg1) hg

/- skewer/skewerref02.Parse : names 0 s, 1 s, 4 out, 5 word, 6 all, 7 i, 8 k -/
def s25 (P : Program) (arg0 : Value) (K : Value → WP) : WP :=
  Do P (vBuildSlice 26 0 []) fun t1_9 =>
  Do P (vCall (.func (.func 22) #[] ⟨[]⟩) []) fun t2_10 =>
  Lp (α := Value × Value × Value) (fun c3 s3 => Jk fun _ => -- out word i
   Jn (α := Value) (fun j4 => Jk fun _ => -- t19
    If j4 (
     Jn (α := Value × Value) (fun j5 => Jk fun _ => -- out word
      Do P (V (binOp .add 3 s3.2.2 (.int .i64 1))) fun t6_21 =>
      c3 (j5.1, j5.2, t6_21)
     ) fun k5 =>
     Jn (α := Value) (fun j7 => Jk fun _ => -- t31
      If j7 (
       Do P (V (binOp .add 3 s3.2.2 (.int .i64 1))) fun t8_36 =>
       Do P (V (Instr.sliceAt 9 arg0 (some s3.2.2) (some t8_36) none)) fun t9_37 =>
       Do P (V (binOp .add 9 s3.2.1 t9_37)) fun t10_38 =>
       k5 (s3.1, t10_38)
      ) (
       Lp (α := Value × Value) (fun c11 s11 => Jk fun _ => -- out k
        Do P (vBuiltin .len #[23] 3 [t2_10]) fun t12_41 =>
        Do P (V (binOp .lss 3 s11.2 t12_41)) fun t13_42 =>
        If t13_42 (
         Jn (α := Value) (fun j14 => Jk fun _ => -- out
          Do P (V (binOp .add 3 s11.2 (.int .i64 1))) fun t15_44 =>
          c11 (j14, t15_44)
         ) fun k14 =>
         Do P (V (Instr.indexAt 23 t2_10 s11.2)) fun t16_47 =>
         Do P (V (Instr.loadAt 41 t16_47)) fun t17_48 =>
         Do P (vCall (.func (.func 40) #[] ⟨[]⟩) [t17_48]) fun t18_49 =>
         Do P (V (EqG .eql 9 (.tmp 49) (.tmp 50) t18_49 s3.2.1)) fun t19_51 =>
         If t19_51 (
          Do P (V (Instr.indexAt 23 t2_10 s11.2)) fun t20_55 =>
          Do P (V (Instr.loadAt 41 t20_55)) fun t21_56 =>
          Do P (vBuildSlice 26 1 [(0, t21_56)]) fun t22_57 =>
          Do P (vBuiltin .append #[26, 26] 26 [s11.1, t22_57]) fun t23_58 =>
          k14 t23_58
         ) (
          k14 s11.1
         )
        ) (
         k5 (s11.1, (.string ⟨#[]⟩))
        )
       ) (s3.1, (.int .i64 0))
      )
     ) fun k7 =>
     Do P (vBuiltin .len #[9] 3 [arg0]) fun t24_24 =>
     Do P (V (binOp .lss 3 s3.2.2 t24_24)) fun t25_25 =>
     Gd t25_25 true (
      Do P (V (Instr.index 9 arg0 s3.2.2)) fun t26_29 =>
      Do P (V (EqG .neq 5 (.tmp 29) (.const (.int .u8 32)) t26_29 (.int .u8 32))) fun t27_30 =>
      k7 t27_30
     ) (
      k7 (.bool false)
     )
    ) (
     Jn (α := Value) (fun j28 => Jk fun _ => -- t66
      If j28 (
       Do P (vBuildSlice 26 0 []) fun t29_67 =>
       K (.tuple #[t29_67, (.int .i64 20)])
      ) (
       K (.tuple #[s3.1, (.int .i64 0)])
      )
     ) fun k28 =>
     Do P (vCall (.func (.func 21) #[] ⟨[]⟩) [s3.1]) fun t30_60 =>
     Do P (V (EqG .neq 9 (.tmp 60) (.tmp 61) t30_60 arg0)) fun t31_62 =>
     Gd t31_62 false (
      Do P (V (EqG .eql 9 (.tmp 64) (.const (.string ⟨#[]⟩)) arg0 (.string ⟨#[]⟩))) fun t32_65 =>
      k28 t32_65
     ) (
      k28 (.bool true)
     )
    )
   ) fun k4 =>
   Do P (vBuiltin .len #[9] 3 [arg0]) fun t33_13 =>
   Do P (V (binOp .leq 3 s3.2.2 t33_13)) fun t34_14 =>
   Gd t34_14 true (
    Do P (vBuiltin .len #[26] 3 [s3.1]) fun t35_17 =>
    Do P (V (binOp .leq 3 t35_17 (.int .i64 8))) fun t36_18 =>
    k4 t36_18
   ) (
    k4 (.bool false)
   )
  ) (t1_9, (.string ⟨#[]⟩), (.int .i64 0))
def A25 : Ann := .s (.n) (.s (.n) (.s (.s (.n) (.lp [4, 5, 7] 576460752303421872 (.s (.j [19] 1046528 (.n) (.s (.n) (.n))) (.j [4, 5] 576460752299229488 (.s (.j [31] 4290772992 (.n) (.s (.s (.n) (.n)) (.n))) (.s (.s (.n) (.lp [4, 8] 576460202547609872 (.s (.s (.n) (.s (.n) (.n))) (.j [4] 576425567931334672 (.s (.n) (.s (.n) (.n))) (.n))))) (.n))) (.n))))) (.s (.j [66] 146997491837372989440 (.n) (.s (.s (.n) (.n)) (.n))) (.s (.n) (.n)))))
set_option maxRecDepth 100000 in
theorem c25 (arg0 : Value) (K : Value → WP) (w : World) (h : s25 Tryz.prog arg0 K w) : Runs Tryz.prog 25 [arg0] K w :=
  runs_of_E wide (fn := Tryz.f25) (c := Tryz.f25.body.getD .skip) 69 A25 [arg0] w K Tryz.func25 (by kernel_rfl) (by kernel_rfl) (by kernel_rfl) (by kernel_rfl)
    (Eq.mp (by kernel_rfl : s25 Tryz.prog arg0 K w = E Tryz.prog (Tryz.f25.body.getD .skip) A25 (topK Tryz.prog K Tryz.f25.results) (fun i => (([arg0] : List Value)[i]?).getD undef) w) h)
theorem ct25 {arg0 : Value} {h : Hp} {post : Hp → Value → Prop} (hg : ∀ w0, Gs w0 h h [] (s25 Tryz.prog arg0 (RetP w0 h post))) : Ct Tryz.prog 25 [arg0] h post := Ct.of (sf := s25 Tryz.prog arg0) (c25 arg0) hg
theorem in25 {arg0 : Value} {S : WP} {K : Value → WP} (hg : G S (s25 Tryz.prog arg0 K)) : G S (Do Tryz.prog (vCall (.func (.func 25) #[] ⟨[]⟩) [arg0]) K) := Gs.into (args := [arg0]) (caps := []) (sf := s25 Tryz.prog arg0) (c25 arg0) hg

/- skewer/prog.Turned : names 0 p, 1 to, 2 p, 3 to, 5 out, 6 i, 7 x -/
def s26 (P : Program) (arg0 arg1 : Value) (K : Value → WP) : WP :=
  Do P (vCall (.func (.func 43) #[] ⟨[]⟩) [arg0]) fun t1_9 =>
  Do P (vBuiltin .len #[26] 3 [t1_9]) fun t2_11 =>
  Lp (α := Value) (fun c3 s3 => Jk fun _ => -- t12
   Do P (V (binOp .lss 3 s3 t2_11)) fun t4_13 =>
   If t4_13 (
    Jn (α := Unit) (fun j5 => Jk fun _ => -- 
     Do P (V (binOp .add 3 s3 (.int .i64 1))) fun t6_28 =>
     c3 t6_28
    ) fun k5 =>
    Do P (V (Instr.indexAt 26 t1_9 s3)) fun t7_15 =>
    Do P (V (Instr.loadAt 41 t7_15)) fun t8_16 =>
    Do P (V (Instr.alloc 41 true (.tuple #[]))) fun x9 =>
    Do P (U (Instr.storeAt 41 x9 t8_16)) fun t10_x =>
    Do P (V (Instr.loadAt 41 x9)) fun t11_17 =>
    Do P (vCall (.func (.func 35) #[] ⟨[]⟩) [t11_17]) fun t12_18 =>
    If t12_18 (
     Do P (V (Instr.fieldAt 41 x9 1)) fun t13_22 =>
     Do P (V (Instr.loadAt 3 t13_22)) fun t14_23 =>
     Do P (V (Instr.indexAt 33 arg1 t14_23)) fun t15_24 =>
     Do P (V (Instr.loadAt 3 t15_24)) fun t16_25 =>
     Do P (V (Instr.indexAt 26 t1_9 s3)) fun t17_26 =>
     Do P (V (Instr.fieldAt 41 t17_26 1)) fun t18_27 =>
     Do P (U (Instr.storeAt 3 t18_27 t16_25)) fun t19_x =>
     k5 ()
    ) (
     k5 ()
    )
   ) (
    K t1_9
   )
  ) (.int .i64 0)
def A26 : Ann := .s (.n) (.s (.n) (.s (.s (.n) (.lp [12] 536867008 (.s (.n) (.s (.s (.n) (.n)) (.j [] 268419264 (.s (.n) (.s (.n) (.s (.n) (.n)))) (.n)))))) (.s (.n) (.n))))
set_option maxRecDepth 100000 in
theorem c26 (arg0 arg1 : Value) (K : Value → WP) (w : World) (h : s26 Tryz.prog arg0 arg1 K w) : Runs Tryz.prog 26 [arg0, arg1] K w :=
  runs_of_E wide (fn := Tryz.f26) (c := Tryz.f26.body.getD .skip) 30 A26 [arg0, arg1] w K Tryz.func26 (by kernel_rfl) (by kernel_rfl) (by kernel_rfl) (by kernel_rfl)
    (Eq.mp (by kernel_rfl : s26 Tryz.prog arg0 arg1 K w = E Tryz.prog (Tryz.f26.body.getD .skip) A26 (topK Tryz.prog K Tryz.f26.results) (fun i => (([arg0, arg1] : List Value)[i]?).getD undef) w) h)
theorem ct26 {arg0 arg1 : Value} {h : Hp} {post : Hp → Value → Prop} (hg : ∀ w0, Gs w0 h h [] (s26 Tryz.prog arg0 arg1 (RetP w0 h post))) : Ct Tryz.prog 26 [arg0, arg1] h post := Ct.of (sf := s26 Tryz.prog arg0 arg1) (c26 arg0 arg1) hg
theorem in26 {arg0 arg1 : Value} {S : WP} {K : Value → WP} (hg : G S (s26 Tryz.prog arg0 arg1 K)) : G S (Do Tryz.prog (vCall (.func (.func 26) #[] ⟨[]⟩) [arg0, arg1]) K) := Gs.into (args := [arg0, arg1]) (caps := []) (sf := s26 Tryz.prog arg0 arg1) (c26 arg0 arg1) hg

/- skewer/skewerref02.Leads : names 0 x, 1 x -/
def s27 (P : Program) (arg0 : Value) (K : Value → WP) : WP :=
  Do P (V (Instr.box 41 arg0)) fun x1 =>
  Do P (V (Instr.fieldAt 41 x1 0)) fun t2_3 =>
  Do P (V (Instr.loadAt 3 t2_3)) fun t3_4 =>
  Do P (V (EqG .eql 3 (.tmp 4) (.const (.int .i64 1)) t3_4 (.int .i64 1))) fun t4_5 =>
  Gd t4_5 false (
   Do P (V (Instr.fieldAt 41 x1 0)) fun t5_7 =>
   Do P (V (Instr.loadAt 3 t5_7)) fun t6_8 =>
   Do P (V (EqG .eql 3 (.tmp 8) (.const (.int .i64 2)) t6_8 (.int .i64 2))) fun t7_9 =>
   Gd t7_9 false (
    Do P (V (Instr.fieldAt 41 x1 0)) fun t8_12 =>
    Do P (V (Instr.loadAt 3 t8_12)) fun t9_13 =>
    Do P (V (EqG .eql 3 (.tmp 13) (.const (.int .i64 7)) t9_13 (.int .i64 7))) fun t10_14 =>
    K t10_14
   ) (
    K (.bool true)
   )
  ) (
   K (.bool true)
  )
def A27 : Ann := .s (.n) (.s (.n) (.n))
set_option maxRecDepth 100000 in
theorem c27 (arg0 : Value) (K : Value → WP) (w : World) (h : s27 Tryz.prog arg0 K w) : Runs Tryz.prog 27 [arg0] K w :=
  runs_of_E wide (fn := Tryz.f27) (c := Tryz.f27.body.getD .skip) 16 A27 [arg0] w K Tryz.func27 (by kernel_rfl) (by kernel_rfl) (by kernel_rfl) (by kernel_rfl)
    (Eq.mp (by kernel_rfl : s27 Tryz.prog arg0 K w = E Tryz.prog (Tryz.f27.body.getD .skip) A27 (topK Tryz.prog K Tryz.f27.results) (fun i => (([arg0] : List Value)[i]?).getD undef) w) h)
theorem ct27 {arg0 : Value} {h : Hp} {post : Hp → Value → Prop} (hg : ∀ w0, Gs w0 h h [] (s27 Tryz.prog arg0 (RetP w0 h post))) : Ct Tryz.prog 27 [arg0] h post := Ct.of (sf := s27 Tryz.prog arg0) (c27 arg0) hg
theorem in27 {arg0 : Value} {S : WP} {K : Value → WP} (hg : G S (s27 Tryz.prog arg0 K)) : G S (Do Tryz.prog (vCall (.func (.func 27) #[] ⟨[]⟩) [arg0]) K) := Gs.into (args := [arg0]) (caps := []) (sf := s27 Tryz.prog arg0) (c27 arg0) hg

/- skewer/skewerref02.at : names 0 l, 1 i, 2 l, 3 i -/
def s28 (P : Program) (arg0 arg1 : Value) (K : Value → WP) : WP :=
  Do P (vBuiltin .len #[22] 3 [arg0]) fun t1_7 =>
  Do P (V (binOp .lss 3 arg1 t1_7)) fun t2_8 =>
  If t2_8 (
   Do P (V (Instr.indexAt 22 arg0 arg1)) fun t3_11 =>
   Do P (V (Instr.loadAt 5 t3_11)) fun t4_12 =>
   Do P (V (convert 5 3 t4_12)) fun t5_13 =>
   K t5_13
  ) (
   K (.int .i64 0)
  )
def A28 : Ann := .s (.n) (.s (.s (.n) (.s (.s (.n) (.n)) (.n))) (.s (.n) (.n)))
set_option maxRecDepth 100000 in
theorem c28 (arg0 arg1 : Value) (K : Value → WP) (w : World) (h : s28 Tryz.prog arg0 arg1 K w) : Runs Tryz.prog 28 [arg0, arg1] K w :=
  runs_of_E wide (fn := Tryz.f28) (c := Tryz.f28.body.getD .skip) 14 A28 [arg0, arg1] w K Tryz.func28 (by kernel_rfl) (by kernel_rfl) (by kernel_rfl) (by kernel_rfl)
    (Eq.mp (by kernel_rfl : s28 Tryz.prog arg0 arg1 K w = E Tryz.prog (Tryz.f28.body.getD .skip) A28 (topK Tryz.prog K Tryz.f28.results) (fun i => (([arg0, arg1] : List Value)[i]?).getD undef) w) h)
theorem ct28 {arg0 arg1 : Value} {h : Hp} {post : Hp → Value → Prop} (hg : ∀ w0, Gs w0 h h [] (s28 Tryz.prog arg0 arg1 (RetP w0 h post))) : Ct Tryz.prog 28 [arg0, arg1] h post := Ct.of (sf := s28 Tryz.prog arg0 arg1) (c28 arg0 arg1) hg
theorem in28 {arg0 arg1 : Value} {S : WP} {K : Value → WP} (hg : G S (s28 Tryz.prog arg0 arg1 K)) : G S (Do Tryz.prog (vCall (.func (.func 28) #[] ⟨[]⟩) [arg0, arg1]) K) := Gs.into (args := [arg0, arg1]) (caps := []) (sf := s28 Tryz.prog arg0 arg1) (c28 arg0 arg1) hg

/- skewer/prog.Valid$1 : names 0 x, 2 x, 4 r, 5 ok -/
def s29 (P : Program) (arg0 arg1 : Value) (K : Value → WP) : WP :=
  Do P (V (Instr.box 41 arg0)) fun x1 =>
  Do P (V (Instr.fieldAt 41 x1 0)) fun t2_7 =>
  Do P (V (Instr.loadAt 3 t2_7)) fun t3_8 =>
  Do P (vCall (.func (.func 30) #[] ⟨[]⟩) [t3_8]) fun t4_9 =>
  Do P (V (Instr.extract t4_9 0)) fun t5_10 =>
  Do P (V (Instr.extract t4_9 1)) fun t6_11 =>
  Do P (V (Instr.alloc 61 true (.tuple #[]))) fun r7 =>
  Do P (U (Instr.storeAt 61 r7 t5_10)) fun t8_x =>
  Dr <|
  Qk P (V (Op.unary .not t6_11)) fun C9 t9_13 =>
  Gd t9_13 false (
   Qk P (V (Instr.fieldAt 41 x1 1)) fun C10 t10_15 =>
   Qk P (V (Instr.loadAt 3 t10_15)) fun C11 t11_16 =>
   Qk P (V (binOp .lss 3 t11_16 (.int .i64 0))) fun C12 t12_17 =>
   Gd t12_17 false (
    Qk P (V (Instr.fieldAt 41 x1 1)) fun C13 t13_20 =>
    Qk P (V (Instr.loadAt 3 t13_20)) fun C14 t14_21 =>
    Qk P (V (Instr.fieldAt 61 r7 1)) fun C15 t15_22 =>
    Qk P (V (Instr.loadAt 3 t15_22)) fun C16 t16_23 =>
    Qk P (V (Instr.indexAt 59 arg1 t16_23)) fun C17 t17_24 =>
    Qk P (V (Instr.loadAt 3 t17_24)) fun C18 t18_25 =>
    Qk P (V (binOp .geq 3 t14_21 t18_25)) fun C19 t19_26 =>
    K t19_26
   ) (
    K (.bool true)
   )
  ) (
   K (.bool true)
  )
def A29 : Ann := .s (.n) (.s (.n) (.s (.plan [(0, 32, 4096), (1, 4096, 8192), (2, 8192, 16384), (4, 16388, 32768), (12, 49152, 65536), (20, 81920, 131072), (36, 147456, 262144), (68, 262144, 524288), (128, 524292, 1048576), (384, 1572864, 2097152), (128, 524304, 4194304), (1152, 4718592, 8388608), (2176, 8912898, 16777216), (4224, 17301504, 33554432), (8832, 36175872, 67108864), (16512, 67633152, 134217728), (65535, 134217728, 8)] (.q 0 (.q 1 (.q 2 (.q 3 (.q 4 (.q 5 (.q 6 (.q 7 (.q 8 (.q 9 (.q 10 (.q 11 (.q 12 (.q 13 (.q 14 (.q 15 (.q 16 .done)))))))))))))))))) (.n)))
set_option maxRecDepth 100000 in
theorem c29 (arg0 arg1 : Value) (K : Value → WP) (w : World) (h : s29 Tryz.prog arg0 arg1 K w) : Runs Tryz.prog 29 [arg0, arg1] K w :=
  runs_of_E wide (fn := Tryz.f29) (c := Tryz.f29.body.getD .skip) 28 A29 [arg0, arg1] w K Tryz.func29 (by kernel_rfl) (by kernel_rfl) (by kernel_rfl) (by kernel_rfl)
    (Eq.mp (by kernel_rfl : s29 Tryz.prog arg0 arg1 K w = E Tryz.prog (Tryz.f29.body.getD .skip) A29 (topK Tryz.prog K Tryz.f29.results) (fun i => (([arg0, arg1] : List Value)[i]?).getD undef) w) h)
theorem ct29 {arg0 arg1 : Value} {h : Hp} {post : Hp → Value → Prop} (hg : ∀ w0, Gs w0 h h [] (s29 Tryz.prog arg0 arg1 (RetP w0 h post))) : Ct Tryz.prog 29 [arg0, arg1] h post := Ct.of (sf := s29 Tryz.prog arg0 arg1) (c29 arg0 arg1) hg
theorem in29 {arg0 arg1 : Value} {S : WP} {K : Value → WP} (hg : G S (s29 Tryz.prog arg0 arg1 K)) : G S (Do Tryz.prog (vCall (.func (.func 29) #[] ⟨[arg1]⟩) [arg0]) K) := Gs.into (args := [arg0]) (caps := [arg1]) (sf := s29 Tryz.prog arg0 arg1) (c29 arg0 arg1) hg

/- skewer/prog.find : names 0 op, 1 op -/
def s30 (P : Program) (arg0 : Value) (K : Value → WP) : WP :=
  Do P (V (Instr.alloc 61 true (.tuple #[]))) fun t1_2 =>
  Jn (α := Value) (fun j2 => Jk fun _ => -- t9
   If j2 (
    Do P (vBuild 61 []) fun t3_10 =>
    Do P (U (Instr.storeAt 61 t1_2 t3_10)) fun t4_x =>
    RetC P 61 t1_2 fun r => K (.tuple #[r, (.bool false)])
   ) (
    Do P (vCall (.func (.func 44) #[] ⟨[]⟩) []) fun t5_11 =>
    Do P (V (Instr.index 76 t5_11 arg0)) fun t6_13 =>
    Do P (U (Instr.storeAt 61 t1_2 t6_13)) fun t7_x =>
    RetC P 61 t1_2 fun r => K (.tuple #[r, (.bool true)])
   )
  ) fun k2 =>
  Do P (V (binOp .lss 3 arg0 (.int .i64 1))) fun t8_5 =>
  Gd t8_5 false (
   Do P (V (binOp .gtr 3 arg0 (.int .i64 10))) fun t9_8 =>
   k2 t9_8
  ) (
   k2 (.bool true)
  )
def A30 : Ann := .s (.n) (.s (.j [9] 1008 (.n) (.s (.s (.n) (.n)) (.n))) (.s (.n) (.n)))
set_option maxRecDepth 100000 in
theorem c30 (arg0 : Value) (K : Value → WP) (w : World) (h : s30 Tryz.prog arg0 K w) : Runs Tryz.prog 30 [arg0] K w :=
  runs_of_E wide (fn := Tryz.f30) (c := Tryz.f30.body.getD .skip) 14 A30 [arg0] w K Tryz.func30 (by kernel_rfl) (by kernel_rfl) (by kernel_rfl) (by kernel_rfl)
    (Eq.mp (by kernel_rfl : s30 Tryz.prog arg0 K w = E Tryz.prog (Tryz.f30.body.getD .skip) A30 (topK Tryz.prog K Tryz.f30.results) (fun i => (([arg0] : List Value)[i]?).getD undef) w) h)
theorem ct30 {arg0 : Value} {h : Hp} {post : Hp → Value → Prop} (hg : ∀ w0, Gs w0 h h [] (s30 Tryz.prog arg0 (RetP w0 h post))) : Ct Tryz.prog 30 [arg0] h post := Ct.of (sf := s30 Tryz.prog arg0) (c30 arg0) hg
theorem in30 {arg0 : Value} {S : WP} {K : Value → WP} (hg : G S (s30 Tryz.prog arg0 K)) : G S (Do Tryz.prog (vCall (.func (.func 30) #[] ⟨[]⟩) [arg0]) K) := Gs.into (args := [arg0]) (caps := []) (sf := s30 Tryz.prog arg0) (c30 arg0) hg

/- slices.ContainsFunc[skewer/api.Prog,skewer/api.Step] : names 0 s, 1 f, 2 s, 3 f -/
def s31 (P : Program) (arg0 arg1 : Value) (K : Value → WP) : WP :=
  Do P (vCall (.func (.func 45) #[] ⟨[]⟩) [arg0, arg1]) fun t1_7 =>
  Do P (V (binOp .geq 3 t1_7 (.int .i64 0))) fun t2_8 =>
  K t2_8
def A31 : Ann := .s (.n) (.s (.n) (.n))
set_option maxRecDepth 100000 in
theorem c31 (arg0 arg1 : Value) (K : Value → WP) (w : World) (h : s31 Tryz.prog arg0 arg1 K w) : Runs Tryz.prog 31 [arg0, arg1] K w :=
  runs_of_E wide (fn := Tryz.f31) (c := Tryz.f31.body.getD .skip) 9 A31 [arg0, arg1] w K Tryz.func31 (by kernel_rfl) (by kernel_rfl) (by kernel_rfl) (by kernel_rfl)
    (Eq.mp (by kernel_rfl : s31 Tryz.prog arg0 arg1 K w = E Tryz.prog (Tryz.f31.body.getD .skip) A31 (topK Tryz.prog K Tryz.f31.results) (fun i => (([arg0, arg1] : List Value)[i]?).getD undef) w) h)
theorem ct31 {arg0 arg1 : Value} {h : Hp} {post : Hp → Value → Prop} (hg : ∀ w0, Gs w0 h h [] (s31 Tryz.prog arg0 arg1 (RetP w0 h post))) : Ct Tryz.prog 31 [arg0, arg1] h post := Ct.of (sf := s31 Tryz.prog arg0 arg1) (c31 arg0 arg1) hg
theorem in31 {arg0 arg1 : Value} {S : WP} {K : Value → WP} (hg : G S (s31 Tryz.prog arg0 arg1 K)) : G S (Do Tryz.prog (vCall (.func (.func 31) #[] ⟨[]⟩) [arg0, arg1]) K) := Gs.into (args := [arg0, arg1]) (caps := []) (sf := s31 Tryz.prog arg0 arg1) (c31 arg0 arg1) hg

/- skewer/prog.count : names 0 p, 1 op, 2 p, 3 op, 5 n, 6 _, 7 x -/
def s32 (P : Program) (arg0 arg1 : Value) (K : Value → WP) : WP :=
  Do P (vBuiltin .len #[26] 3 [arg0]) fun t1_9 =>
  Lp (α := Value × Value) (fun c2 s2 => Jk fun _ => -- n t10
   Do P (V (binOp .lss 3 s2.2 t1_9)) fun t3_11 =>
   If t3_11 (
    Jn (α := Value) (fun j4 => Jk fun _ => -- n
     Do P (V (binOp .add 3 s2.2 (.int .i64 1))) fun t5_20 =>
     c2 (j4, t5_20)
    ) fun k4 =>
    Do P (V (Instr.indexAt 26 arg0 s2.2)) fun t6_12 =>
    Do P (V (Instr.loadAt 41 t6_12)) fun t7_13 =>
    Do P (V (Instr.alloc 41 true (.tuple #[]))) fun x8 =>
    Do P (U (Instr.storeAt 41 x8 t7_13)) fun t9_x =>
    Do P (V (Instr.fieldAt 41 x8 0)) fun t10_14 =>
    Do P (V (Instr.loadAt 3 t10_14)) fun t11_15 =>
    Do P (V (EqG .eql 3 (.tmp 15) (.tmp 16) t11_15 arg1)) fun t12_17 =>
    If t12_17 (
     Do P (V (binOp .add 3 s2.1 (.int .i64 1))) fun t13_19 =>
     k4 t13_19
    ) (
     k4 s2.1
    )
   ) (
    K s2.1
   )
  ) ((.int .i64 0), (.int .i64 0))
def A32 : Ann := .s (.n) (.s (.n) (.s (.s (.n) (.lp [5, 10] 2096288 (.s (.n) (.s (.s (.n) (.n)) (.j [5] 1044640 (.s (.n) (.s (.n) (.s (.n) (.n)))) (.n)))))) (.s (.n) (.n))))
set_option maxRecDepth 100000 in
theorem c32 (arg0 arg1 : Value) (K : Value → WP) (w : World) (h : s32 Tryz.prog arg0 arg1 K w) : Runs Tryz.prog 32 [arg0, arg1] K w :=
  runs_of_E wide (fn := Tryz.f32) (c := Tryz.f32.body.getD .skip) 22 A32 [arg0, arg1] w K Tryz.func32 (by kernel_rfl) (by kernel_rfl) (by kernel_rfl) (by kernel_rfl)
    (Eq.mp (by kernel_rfl : s32 Tryz.prog arg0 arg1 K w = E Tryz.prog (Tryz.f32.body.getD .skip) A32 (topK Tryz.prog K Tryz.f32.results) (fun i => (([arg0, arg1] : List Value)[i]?).getD undef) w) h)
theorem ct32 {arg0 arg1 : Value} {h : Hp} {post : Hp → Value → Prop} (hg : ∀ w0, Gs w0 h h [] (s32 Tryz.prog arg0 arg1 (RetP w0 h post))) : Ct Tryz.prog 32 [arg0, arg1] h post := Ct.of (sf := s32 Tryz.prog arg0 arg1) (c32 arg0 arg1) hg
theorem in32 {arg0 arg1 : Value} {S : WP} {K : Value → WP} (hg : G S (s32 Tryz.prog arg0 arg1 K)) : G S (Do Tryz.prog (vCall (.func (.func 32) #[] ⟨[]⟩) [arg0, arg1]) K) := Gs.into (args := [arg0, arg1]) (caps := []) (sf := s32 Tryz.prog arg0 arg1) (c32 arg0 arg1) hg

/- skewer/skewerref02.Step : names 0 x, 1 dirs, 2 kinds, 3 rights, 4 x, 5 dirs, 6 kinds, 7 rights -/
def s33 (P : Program) (arg0 arg1 arg2 arg3 : Value) (K : Value → WP) : WP :=
  Do P (V (Instr.box 41 arg0)) fun x1 =>
  Do P (V (Instr.fieldAt 41 x1 0)) fun t2_9 =>
  Do P (V (Instr.loadAt 3 t2_9)) fun t3_10 =>
  Jn (α := Value) (fun j4 => Jk fun _ => -- t11
   If j4 (
    Do P (V (Instr.fieldAt 41 x1 1)) fun t5_15 =>
    Do P (V (Instr.loadAt 3 t5_15)) fun t6_16 =>
    Do P (vCall (.func (.func 46) #[] ⟨[]⟩) [t6_16, arg1]) fun t7_18 =>
    K t7_18
   ) (
    Jn (α := Value) (fun j8 => Jk fun _ => -- t19
     If j8 (
      Do P (V (Instr.fieldAt 41 x1 1)) fun t9_24 =>
      Do P (V (Instr.loadAt 3 t9_24)) fun t10_25 =>
      Do P (V (EqG .eql 3 (.tmp 25) (.const (.int .i64 0)) t10_25 (.int .i64 0))) fun t11_26 =>
      K t11_26
     ) (
      Do P (V (EqG .eql 3 (.tmp 10) (.const (.int .i64 8)) t3_10 (.int .i64 8))) fun t12_28 =>
      If t12_28 (
       Do P (V (Instr.fieldAt 41 x1 1)) fun t13_29 =>
       Do P (V (Instr.loadAt 3 t13_29)) fun t14_30 =>
       Do P (vCall (.func (.func 46) #[] ⟨[]⟩) [t14_30, arg2]) fun t15_32 =>
       K t15_32
      ) (
       Jn (α := Value) (fun j16 => Jk fun _ => -- t33
        If j16 (
         Do P (V (Instr.fieldAt 41 x1 1)) fun t17_36 =>
         Do P (V (Instr.loadAt 3 t17_36)) fun t18_37 =>
         Do P (vCall (.func (.func 46) #[] ⟨[]⟩) [t18_37, arg3]) fun t19_39 =>
         K t19_39
        ) (
         K (.bool false)
        )
       ) fun k16 =>
       Do P (V (EqG .eql 3 (.tmp 10) (.const (.int .i64 9)) t3_10 (.int .i64 9))) fun t20_34 =>
       If t20_34 (
        k16 t20_34
       ) (
        Do P (V (EqG .eql 3 (.tmp 10) (.const (.int .i64 10)) t3_10 (.int .i64 10))) fun t21_35 =>
        k16 t21_35
       )
      )
     )
    ) fun k8 =>
    Do P (V (EqG .eql 3 (.tmp 10) (.const (.int .i64 3)) t3_10 (.int .i64 3))) fun t22_20 =>
    If t22_20 (
     k8 t22_20
    ) (
     Do P (V (EqG .eql 3 (.tmp 10) (.const (.int .i64 4)) t3_10 (.int .i64 4))) fun t23_21 =>
     If t23_21 (
      k8 t23_21
     ) (
      Do P (V (EqG .eql 3 (.tmp 10) (.const (.int .i64 5)) t3_10 (.int .i64 5))) fun t24_22 =>
      If t24_22 (
       k8 t24_22
      ) (
       Do P (V (EqG .eql 3 (.tmp 10) (.const (.int .i64 6)) t3_10 (.int .i64 6))) fun t25_23 =>
       k8 t25_23
      )
     )
    )
   )
  ) fun k4 =>
  Do P (V (EqG .eql 3 (.tmp 10) (.const (.int .i64 1)) t3_10 (.int .i64 1))) fun t26_12 =>
  If t26_12 (
   k4 t26_12
  ) (
   Do P (V (EqG .eql 3 (.tmp 10) (.const (.int .i64 2)) t3_10 (.int .i64 2))) fun t27_13 =>
   If t27_13 (
    k4 t27_13
   ) (
    Do P (V (EqG .eql 3 (.tmp 10) (.const (.int .i64 7)) t3_10 (.int .i64 7))) fun t28_14 =>
    k4 t28_14
   )
  )
def A33 : Ann := .s (.n) (.s (.s (.n) (.j [11] 30720 (.s (.n) (.s (.n) (.s (.n) (.s (.n) (.n))))) (.s (.s (.n) (.n)) (.j [19] 16252928 (.s (.n) (.s (.n) (.s (.n) (.s (.n) (.s (.n) (.s (.n) (.n))))))) (.s (.s (.n) (.n)) (.s (.n) (.s (.s (.n) (.n)) (.j [33] 60129542144 (.s (.n) (.s (.n) (.n))) (.s (.s (.n) (.n)) (.n)))))))))) (.s (.n) (.n)))
set_option maxRecDepth 100000 in
theorem c33 (arg0 arg1 arg2 arg3 : Value) (K : Value → WP) (w : World) (h : s33 Tryz.prog arg0 arg1 arg2 arg3 K w) : Runs Tryz.prog 33 [arg0, arg1, arg2, arg3] K w :=
  runs_of_E wide (fn := Tryz.f33) (c := Tryz.f33.body.getD .skip) 40 A33 [arg0, arg1, arg2, arg3] w K Tryz.func33 (by kernel_rfl) (by kernel_rfl) (by kernel_rfl) (by kernel_rfl)
    (Eq.mp (by kernel_rfl : s33 Tryz.prog arg0 arg1 arg2 arg3 K w = E Tryz.prog (Tryz.f33.body.getD .skip) A33 (topK Tryz.prog K Tryz.f33.results) (fun i => (([arg0, arg1, arg2, arg3] : List Value)[i]?).getD undef) w) h)
theorem ct33 {arg0 arg1 arg2 arg3 : Value} {h : Hp} {post : Hp → Value → Prop} (hg : ∀ w0, Gs w0 h h [] (s33 Tryz.prog arg0 arg1 arg2 arg3 (RetP w0 h post))) : Ct Tryz.prog 33 [arg0, arg1, arg2, arg3] h post := Ct.of (sf := s33 Tryz.prog arg0 arg1 arg2 arg3) (c33 arg0 arg1 arg2 arg3) hg
theorem in33 {arg0 arg1 arg2 arg3 : Value} {S : WP} {K : Value → WP} (hg : G S (s33 Tryz.prog arg0 arg1 arg2 arg3 K)) : G S (Do Tryz.prog (vCall (.func (.func 33) #[] ⟨[]⟩) [arg0, arg1, arg2, arg3]) K) := Gs.into (args := [arg0, arg1, arg2, arg3]) (caps := []) (sf := s33 Tryz.prog arg0 arg1 arg2 arg3) (c33 arg0 arg1 arg2 arg3) hg

/- skewer/skewerref02.Count : names 0 p, 1 op, 2 p, 3 op, 5 n, 6 i -/
def s34 (P : Program) (arg0 arg1 : Value) (K : Value → WP) : WP :=
  Lp (α := Value × Value) (fun c1 s1 => Jk fun _ => -- n i
   Do P (vBuiltin .len #[26] 3 [arg0]) fun t2_9 =>
   Do P (V (binOp .lss 3 s1.2 t2_9)) fun t3_10 =>
   If t3_10 (
    Jn (α := Value) (fun j4 => Jk fun _ => -- n
     Do P (V (binOp .add 3 s1.2 (.int .i64 1))) fun t5_12 =>
     c1 (j4, t5_12)
    ) fun k4 =>
    Do P (V (Instr.indexAt 26 arg0 s1.2)) fun t6_15 =>
    Do P (V (Instr.fieldAt 41 t6_15 0)) fun t7_16 =>
    Do P (V (Instr.loadAt 3 t7_16)) fun t8_17 =>
    Do P (V (EqG .eql 3 (.tmp 17) (.tmp 18) t8_17 arg1)) fun t9_19 =>
    If t9_19 (
     Do P (V (binOp .add 3 s1.1 (.int .i64 1))) fun t10_21 =>
     k4 t10_21
    ) (
     k4 s1.1
    )
   ) (
    K s1.1
   )
  ) ((.int .i64 0), (.int .i64 0))
def A34 : Ann := .s (.n) (.s (.n) (.s (.s (.n) (.lp [5, 6] 4194272 (.s (.s (.n) (.s (.n) (.n))) (.j [5] 4186144 (.s (.n) (.s (.n) (.n))) (.n))))) (.s (.n) (.n))))
set_option maxRecDepth 100000 in
theorem c34 (arg0 arg1 : Value) (K : Value → WP) (w : World) (h : s34 Tryz.prog arg0 arg1 K w) : Runs Tryz.prog 34 [arg0, arg1] K w :=
  runs_of_E wide (fn := Tryz.f34) (c := Tryz.f34.body.getD .skip) 23 A34 [arg0, arg1] w K Tryz.func34 (by kernel_rfl) (by kernel_rfl) (by kernel_rfl) (by kernel_rfl)
    (Eq.mp (by kernel_rfl : s34 Tryz.prog arg0 arg1 K w = E Tryz.prog (Tryz.f34.body.getD .skip) A34 (topK Tryz.prog K Tryz.f34.results) (fun i => (([arg0, arg1] : List Value)[i]?).getD undef) w) h)
theorem ct34 {arg0 arg1 : Value} {h : Hp} {post : Hp → Value → Prop} (hg : ∀ w0, Gs w0 h h [] (s34 Tryz.prog arg0 arg1 (RetP w0 h post))) : Ct Tryz.prog 34 [arg0, arg1] h post := Ct.of (sf := s34 Tryz.prog arg0 arg1) (c34 arg0 arg1) hg
theorem in34 {arg0 arg1 : Value} {S : WP} {K : Value → WP} (hg : G S (s34 Tryz.prog arg0 arg1 K)) : G S (Do Tryz.prog (vCall (.func (.func 34) #[] ⟨[]⟩) [arg0, arg1]) K) := Gs.into (args := [arg0, arg1]) (caps := []) (sf := s34 Tryz.prog arg0 arg1) (c34 arg0 arg1) hg

/- skewer/prog.leads : names 0 x, 1 x, 3 r, 4 _ -/
def s35 (P : Program) (arg0 : Value) (K : Value → WP) : WP :=
  Do P (V (Instr.box 41 arg0)) fun x1 =>
  Do P (V (Instr.fieldAt 41 x1 0)) fun t2_6 =>
  Do P (V (Instr.loadAt 3 t2_6)) fun t3_7 =>
  Do P (vCall (.func (.func 30) #[] ⟨[]⟩) [t3_7]) fun t4_8 =>
  Do P (V (Instr.extract t4_8 0)) fun t5_9 =>
  Do P (V (Instr.extract t4_8 1)) fun t6_10 =>
  Do P (V (Instr.alloc 61 true (.tuple #[]))) fun r7 =>
  Do P (U (Instr.storeAt 61 r7 t5_9)) fun t8_x =>
  Do P (V (Instr.fieldAt 61 r7 1)) fun t9_11 =>
  Do P (V (Instr.loadAt 3 t9_11)) fun t10_12 =>
  Do P (V (EqG .eql 3 (.tmp 12) (.const (.int .i64 1)) t10_12 (.int .i64 1))) fun t11_13 =>
  K t11_13
def A35 : Ann := .s (.n) (.s (.n) (.s (.n) (.n)))
set_option maxRecDepth 100000 in
theorem c35 (arg0 : Value) (K : Value → WP) (w : World) (h : s35 Tryz.prog arg0 K w) : Runs Tryz.prog 35 [arg0] K w :=
  runs_of_E wide (fn := Tryz.f35) (c := Tryz.f35.body.getD .skip) 14 A35 [arg0] w K Tryz.func35 (by kernel_rfl) (by kernel_rfl) (by kernel_rfl) (by kernel_rfl)
    (Eq.mp (by kernel_rfl : s35 Tryz.prog arg0 K w = E Tryz.prog (Tryz.f35.body.getD .skip) A35 (topK Tryz.prog K Tryz.f35.results) (fun i => (([arg0] : List Value)[i]?).getD undef) w) h)
theorem ct35 {arg0 : Value} {h : Hp} {post : Hp → Value → Prop} (hg : ∀ w0, Gs w0 h h [] (s35 Tryz.prog arg0 (RetP w0 h post))) : Ct Tryz.prog 35 [arg0] h post := Ct.of (sf := s35 Tryz.prog arg0) (c35 arg0) hg
theorem in35 {arg0 : Value} {S : WP} {K : Value → WP} (hg : G S (s35 Tryz.prog arg0 K)) : G S (Do Tryz.prog (vCall (.func (.func 35) #[] ⟨[]⟩) [arg0]) K) := Gs.into (args := [arg0]) (caps := []) (sf := s35 Tryz.prog arg0) (c35 arg0) hg

/- skewer/skewerref02.Word : names 0 x, 1 x, 3 names -/
def s40 (P : Program) (arg0 : Value) (K : Value → WP) : WP :=
  Do P (V (Instr.box 41 arg0)) fun x1 =>
  Do P (vBuildSlice 48 11 [(0, (.string ⟨#[]⟩)), (1, (.string ⟨#[103, 111]⟩)), (2, (.string ⟨#[115, 108, 105, 100, 101]⟩)), (3, (.string ⟨#[101, 109, 112, 116, 121]⟩)), (4, (.string ⟨#[101, 110, 101, 109, 121]⟩)), (5, (.string ⟨#[102, 114, 105, 101, 110, 100]⟩)), (6, (.string ⟨#[116, 97, 107, 101]⟩)), (7, (.string ⟨#[112, 117, 115, 104]⟩)), (8, (.string ⟨#[98, 101, 99, 111, 109, 101]⟩)), (9, (.string ⟨#[110, 101, 101, 100]⟩)), (10, (.string ⟨#[108, 111, 115, 101]⟩))]) fun t2_4 =>
  Jn (α := Value) (fun j3 => Jk fun _ => -- t12
   If j3 (
    Do P (V (Instr.fieldAt 41 x1 0)) fun t4_14 =>
    Do P (V (Instr.loadAt 3 t4_14)) fun t5_15 =>
    Do P (V (Instr.indexAt 48 t2_4 t5_15)) fun t6_16 =>
    Do P (V (Instr.loadAt 9 t6_16)) fun t7_17 =>
    K t7_17
   ) (
    Dr <|
    Qk P (V (Instr.fieldAt 41 x1 0)) fun C8 t8_19 =>
    Qk P (V (Instr.loadAt 3 t8_19)) fun C9 t9_20 =>
    Qk P (V (Instr.indexAt 48 t2_4 t9_20)) fun C10 t10_21 =>
    Qk P (V (Instr.loadAt 9 t10_21)) fun C11 t11_22 =>
    Qk P (V (Instr.fieldAt 41 x1 1)) fun C12 t12_23 =>
    Qk P (V (Instr.loadAt 3 t12_23)) fun C13 t13_24 =>
    Qk P (V (binOp .add 3 (.int .i64 48) t13_24)) fun C14 t14_25 =>
    Qk P (V (convert 3 5 t14_25)) fun C15 t15_26 =>
    Do P (vBuildSlice 22 1 [(0, t15_26)]) fun t16_27 =>
    With C11 <|
    With C10 <|
    With C9 <|
    With C8 <|
    Do P (V (convert 22 9 t16_27)) fun t17_28 =>
    With C11 <|
    With C10 <|
    With C9 <|
    With C8 <|
    Qk P (V (binOp .add 9 t11_22 t17_28)) fun C18 t18_29 =>
    K t18_29
   )
  ) fun k3 =>
  Do P (V (Instr.fieldAt 41 x1 0)) fun t19_5 =>
  Do P (V (Instr.loadAt 3 t19_5)) fun t20_6 =>
  Do P (V (binOp .geq 3 t20_6 (.int .i64 3))) fun t21_7 =>
  Gd t21_7 true (
   Do P (V (Instr.fieldAt 41 x1 0)) fun t22_9 =>
   Do P (V (Instr.loadAt 3 t22_9)) fun t23_10 =>
   Do P (V (binOp .leq 3 t23_10 (.int .i64 6))) fun t24_11 =>
   k3 t24_11
  ) (
   k3 (.bool false)
  )
def A40 : Ann := .s (.n) (.s (.n) (.s (.j [12] 8160 (.n) (.s (.s (.n) (.n)) (.n))) (.s (.plan [(0, 8, 262144), (0, 2, 524288), (2, 524288, 1048576), (5, 1310720, 2097152), (8, 2097152, 4194304), (0, 2, 8388608), (32, 8388608, 16777216), (64, 16777216, 33554432), (128, 33554432, 67108864), (256, 67108864, 134217728), (512, 134217728, 268435456), (1040, 272629760, 536870912), (4095, 536870912, 4)] (.q 0 (.q 1 (.q 2 (.q 3 (.q 4 (.q 5 (.q 6 (.q 7 (.q 8 (.l 9 (.l 10 (.q 11 (.q 12 .done)))))))))))))) (.n))))
set_option maxRecDepth 100000 in
theorem c40 (arg0 : Value) (K : Value → WP) (w : World) (h : s40 Tryz.prog arg0 K w) : Runs Tryz.prog 40 [arg0] K w :=
  runs_of_E wide (fn := Tryz.f40) (c := Tryz.f40.body.getD .skip) 30 A40 [arg0] w K Tryz.func40 (by kernel_rfl) (by kernel_rfl) (by kernel_rfl) (by kernel_rfl)
    (Eq.mp (by kernel_rfl : s40 Tryz.prog arg0 K w = E Tryz.prog (Tryz.f40.body.getD .skip) A40 (topK Tryz.prog K Tryz.f40.results) (fun i => (([arg0] : List Value)[i]?).getD undef) w) h)
theorem ct40 {arg0 : Value} {h : Hp} {post : Hp → Value → Prop} (hg : ∀ w0, Gs w0 h h [] (s40 Tryz.prog arg0 (RetP w0 h post))) : Ct Tryz.prog 40 [arg0] h post := Ct.of (sf := s40 Tryz.prog arg0) (c40 arg0) hg
theorem in40 {arg0 : Value} {S : WP} {K : Value → WP} (hg : G S (s40 Tryz.prog arg0 K)) : G S (Do Tryz.prog (vCall (.func (.func 40) #[] ⟨[]⟩) [arg0]) K) := Gs.into (args := [arg0]) (caps := []) (sf := s40 Tryz.prog arg0) (c40 arg0) hg

/- skewer/prog.read : names 0 w, 1 w, 4 op, 5 r, 6 rest, 7 ok, 8 n, 9 e -/
def s42 (P : Program) (arg0 : Value) (K : Value → WP) : WP :=
  Do P (V (Instr.alloc 41 true (.tuple #[]))) fun t1_2 =>
  Do P (vCall (.func (.func 44) #[] ⟨[]⟩) []) fun t2_10 =>
  Lp (α := Value) (fun c3 s3 => Jk fun _ => -- t11
   Do P (V (binOp .lss 3 s3 (.int .i64 11))) fun t4_12 =>
   If t4_12 (
    Jn (α := Unit) (fun j5 => Jk fun _ => -- 
     Do P (V (binOp .add 3 s3 (.int .i64 1))) fun t6_53 =>
     c3 t6_53
    ) fun k5 =>
    Do P (V (Instr.index 76 t2_10 s3)) fun t7_14 =>
    Do P (V (Instr.alloc 61 true (.tuple #[]))) fun r8 =>
    Do P (U (Instr.storeAt 61 r8 t7_14)) fun t9_x =>
    Do P (V (Instr.fieldAt 61 r8 0)) fun t10_17 =>
    Do P (V (Instr.loadAt 9 t10_17)) fun t11_18 =>
    Do P (vCall (.func (.func 54) #[] ⟨[]⟩) [arg0, t11_18]) fun t12_19 =>
    Do P (V (Instr.extract t12_19 0)) fun t13_20 =>
    Do P (V (Instr.extract t12_19 1)) fun t14_21 =>
    Jn (α := Value) (fun j15 => Jk fun _ => -- t28
     If j15 (
      k5 ()
     ) (
      Jn (α := Value) (fun j16 => Jk fun _ => -- t35
       If j16 (
        Do P (vBuild 41 [(0, s3)]) fun t17_37 =>
        Do P (U (Instr.storeAt 41 t1_2 t17_37)) fun t18_x =>
        RetC P 41 t1_2 fun r => K (.tuple #[r, (.bool true)])
       ) (
        Do P (vCall (.func (.func 55) #[] ⟨[]⟩) [t13_20]) fun t19_40 =>
        Do P (V (Instr.extract t19_40 0)) fun t20_41 =>
        Do P (V (Instr.extract t19_40 1)) fun t21_42 =>
        Jn (α := Value) (fun j22 => Jk fun _ => -- t49
         If j22 (
          Do P (vBuild 41 [(0, s3), (1, t20_41)]) fun t23_52 =>
          Do P (U (Instr.storeAt 41 t1_2 t23_52)) fun t24_x =>
          RetC P 41 t1_2 fun r => K (.tuple #[r, (.bool true)])
         ) (
          k5 ()
         )
        ) fun k22 =>
        Do P (V (EqG .eql 88 (.tmp 43) (.const .nilIface) t21_42 .nilIface)) fun t25_44 =>
        Gd t25_44 true (
         Do P (V (Instr.fieldAt 61 r8 1)) fun t26_46 =>
         Do P (V (Instr.loadAt 3 t26_46)) fun t27_47 =>
         Do P (V (EqG .neq 3 (.tmp 47) (.const (.int .i64 0)) t27_47 (.int .i64 0))) fun t28_48 =>
         k22 t28_48
        ) (
         k22 (.bool false)
        )
       )
      ) fun k16 =>
      Do P (V (Instr.fieldAt 61 r8 1)) fun t29_29 =>
      Do P (V (Instr.loadAt 3 t29_29)) fun t30_30 =>
      Do P (V (EqG .eql 3 (.tmp 30) (.const (.int .i64 0)) t30_30 (.int .i64 0))) fun t31_31 =>
      Gd t31_31 true (
       Do P (V (EqG .eql 9 (.tmp 33) (.const (.string ⟨#[]⟩)) t13_20 (.string ⟨#[]⟩))) fun t32_34 =>
       k16 t32_34
      ) (
       k16 (.bool false)
      )
     )
    ) fun k15 =>
    Do P (V (Op.unary .not t14_21)) fun t33_23 =>
    Gd t33_23 false (
     Do P (V (Instr.fieldAt 61 r8 0)) fun t34_25 =>
     Do P (V (Instr.loadAt 9 t34_25)) fun t35_26 =>
     Do P (V (EqG .eql 9 (.tmp 26) (.const (.string ⟨#[]⟩)) t35_26 (.string ⟨#[]⟩))) fun t36_27 =>
     k15 t36_27
    ) (
     k15 (.bool true)
    )
   ) (
    Do P (vBuild 41 []) fun t37_54 =>
    Do P (U (Instr.storeAt 41 t1_2 t37_54)) fun t38_x =>
    RetC P 41 t1_2 fun r => K (.tuple #[r, (.bool false)])
   )
  ) (.int .i64 0)
def A42 : Ann := .s (.n) (.s (.s (.n) (.lp [11] 18014398509480952 (.s (.n) (.s (.s (.n) (.n)) (.j [] 9007199254733816 (.s (.n) (.s (.n) (.s (.j [28] 532676608 (.n) (.s (.n) (.n))) (.s (.j [35] 68182605824 (.n) (.s (.s (.n) (.n)) (.n))) (.s (.n) (.j [49] 1117103813820416 (.n) (.s (.s (.n) (.n)) (.n)))))))) (.n)))))) (.s (.n) (.n)))
set_option maxRecDepth 100000 in
theorem c42 (arg0 : Value) (K : Value → WP) (w : World) (h : s42 Tryz.prog arg0 K w) : Runs Tryz.prog 42 [arg0] K w :=
  runs_of_E wide (fn := Tryz.f42) (c := Tryz.f42.body.getD .skip) 55 A42 [arg0] w K Tryz.func42 (by kernel_rfl) (by kernel_rfl) (by kernel_rfl) (by kernel_rfl)
    (Eq.mp (by kernel_rfl : s42 Tryz.prog arg0 K w = E Tryz.prog (Tryz.f42.body.getD .skip) A42 (topK Tryz.prog K Tryz.f42.results) (fun i => (([arg0] : List Value)[i]?).getD undef) w) h)
theorem ct42 {arg0 : Value} {h : Hp} {post : Hp → Value → Prop} (hg : ∀ w0, Gs w0 h h [] (s42 Tryz.prog arg0 (RetP w0 h post))) : Ct Tryz.prog 42 [arg0] h post := Ct.of (sf := s42 Tryz.prog arg0) (c42 arg0) hg
theorem in42 {arg0 : Value} {S : WP} {K : Value → WP} (hg : G S (s42 Tryz.prog arg0 K)) : G S (Do Tryz.prog (vCall (.func (.func 42) #[] ⟨[]⟩) [arg0]) K) := Gs.into (args := [arg0]) (caps := []) (sf := s42 Tryz.prog arg0) (c42 arg0) hg

/- slices.Clone[skewer/api.Prog,skewer/api.Step] : names 0 s, 1 s -/
def s43 (P : Program) (arg0 : Value) (K : Value → WP) : WP :=
  Do P (V (EqG .eql 26 (.tmp 3) (.const (.slice none 0 0)) arg0 (.slice none 0 0))) fun t1_4 =>
  If t1_4 (
   K (.slice none 0 0)
  ) (
   Do P (vBuildSlice 26 0 []) fun t2_5 =>
   Do P (vBuiltin .append #[26, 26] 26 [t2_5, arg0]) fun t3_7 =>
   K t3_7
  )
def A43 : Ann := .s (.n) (.s (.s (.n) (.s (.s (.n) (.n)) (.n))) (.s (.n) (.n)))
set_option maxRecDepth 100000 in
theorem c43 (arg0 : Value) (K : Value → WP) (w : World) (h : s43 Tryz.prog arg0 K w) : Runs Tryz.prog 43 [arg0] K w :=
  runs_of_E wide (fn := Tryz.f43) (c := Tryz.f43.body.getD .skip) 8 A43 [arg0] w K Tryz.func43 (by kernel_rfl) (by kernel_rfl) (by kernel_rfl) (by kernel_rfl)
    (Eq.mp (by kernel_rfl : s43 Tryz.prog arg0 K w = E Tryz.prog (Tryz.f43.body.getD .skip) A43 (topK Tryz.prog K Tryz.f43.results) (fun i => (([arg0] : List Value)[i]?).getD undef) w) h)
theorem ct43 {arg0 : Value} {h : Hp} {post : Hp → Value → Prop} (hg : ∀ w0, Gs w0 h h [] (s43 Tryz.prog arg0 (RetP w0 h post))) : Ct Tryz.prog 43 [arg0] h post := Ct.of (sf := s43 Tryz.prog arg0) (c43 arg0) hg
theorem in43 {arg0 : Value} {S : WP} {K : Value → WP} (hg : G S (s43 Tryz.prog arg0 K)) : G S (Do Tryz.prog (vCall (.func (.func 43) #[] ⟨[]⟩) [arg0]) K) := Gs.into (args := [arg0]) (caps := []) (sf := s43 Tryz.prog arg0) (c43 arg0) hg

/- skewer/prog.rows : names  -/
def s44 (P : Program) (K : Value → WP) : WP :=
  Do P (V (Instr.alloc 76 true (.tuple #[]))) fun t1_0 =>
  Do P (vBuild 61 [(0, (.string ⟨#[103, 111]⟩)), (1, (.int .i64 1))]) fun t2_1 =>
  Do P (vBuild 61 [(0, (.string ⟨#[115, 108, 105, 100, 101]⟩)), (1, (.int .i64 1))]) fun t3_2 =>
  Do P (vBuild 61 [(0, (.string ⟨#[101, 109, 112, 116, 121]⟩)), (1, (.int .i64 0))]) fun t4_3 =>
  Do P (vBuild 61 [(0, (.string ⟨#[101, 110, 101, 109, 121]⟩)), (1, (.int .i64 0))]) fun t5_4 =>
  Do P (vBuild 61 [(0, (.string ⟨#[102, 114, 105, 101, 110, 100]⟩)), (1, (.int .i64 0))]) fun t6_5 =>
  Do P (vBuild 61 [(0, (.string ⟨#[116, 97, 107, 101]⟩)), (1, (.int .i64 0))]) fun t7_6 =>
  Do P (vBuild 61 [(0, (.string ⟨#[112, 117, 115, 104]⟩)), (1, (.int .i64 1))]) fun t8_7 =>
  Do P (vBuild 61 [(0, (.string ⟨#[98, 101, 99, 111, 109, 101]⟩)), (1, (.int .i64 2))]) fun t9_8 =>
  Do P (vBuild 61 [(0, (.string ⟨#[110, 101, 101, 100]⟩)), (1, (.int .i64 3))]) fun t10_9 =>
  Do P (vBuild 61 [(0, (.string ⟨#[108, 111, 115, 101]⟩)), (1, (.int .i64 3))]) fun t11_10 =>
  Do P (vBuild 76 [(1, t2_1), (2, t3_2), (3, t4_3), (4, t5_4), (5, t6_5), (6, t7_6), (7, t8_7), (8, t9_8), (9, t10_9), (10, t11_10)]) fun t12_11 =>
  Do P (U (Instr.storeAt 76 t1_0 t12_11)) fun t13_x =>
  RetC P 76 t1_0 K
def A44 : Ann := .s (.n) (.s (.n) (.n))
set_option maxRecDepth 100000 in
theorem c44 (K : Value → WP) (w : World) (h : s44 Tryz.prog  K w) : Runs Tryz.prog 44 [] K w :=
  runs_of_E wide (fn := Tryz.f44) (c := Tryz.f44.body.getD .skip) 12 A44 [] w K Tryz.func44 (by kernel_rfl) (by kernel_rfl) (by kernel_rfl) (by kernel_rfl)
    (Eq.mp (by kernel_rfl : s44 Tryz.prog  K w = E Tryz.prog (Tryz.f44.body.getD .skip) A44 (topK Tryz.prog K Tryz.f44.results) (fun i => (([] : List Value)[i]?).getD undef) w) h)
theorem ct44 {h : Hp} {post : Hp → Value → Prop} (hg : ∀ w0, Gs w0 h h [] (s44 Tryz.prog  (RetP w0 h post))) : Ct Tryz.prog 44 [] h post := Ct.of (sf := s44 Tryz.prog ) (c44 ) hg
theorem in44 {S : WP} {K : Value → WP} (hg : G S (s44 Tryz.prog  K)) : G S (Do Tryz.prog (vCall (.func (.func 44) #[] ⟨[]⟩) []) K) := Gs.into (args := []) (caps := []) (sf := s44 Tryz.prog ) (c44 ) hg

/- slices.IndexFunc[skewer/api.Prog,skewer/api.Step] : names 0 s, 1 f, 2 s, 3 f, 5 i -/
def s45 (P : Program) (arg0 arg1 : Value) (K : Value → WP) : WP :=
  Do P (vBuiltin .len #[26] 3 [arg0]) fun t1_7 =>
  Lp (α := Value) (fun c2 s2 => Jk fun _ => -- t8
   Do P (V (binOp .lss 3 s2 t1_7)) fun t3_9 =>
   If t3_9 (
    Do P (V (Instr.indexAt 26 arg0 s2)) fun t4_14 =>
    Do P (V (Instr.loadAt 41 t4_14)) fun t5_15 =>
    Do P (vCall arg1 [t5_15]) fun t6_16 =>
    If t6_16 (
     K s2
    ) (
     Do P (V (binOp .add 3 s2 (.int .i64 1))) fun t7_18 =>
     c2 t7_18
    )
   ) (
    K (.int .i64 (-1))
   )
  ) (.int .i64 0)
def A45 : Ann := .s (.n) (.s (.s (.n) (.lp [8] 524080 (.s (.n) (.s (.s (.n) (.n)) (.s (.s (.n) (.s (.n) (.s (.s (.n) (.n)) (.n)))) (.n)))))) (.s (.n) (.n)))
set_option maxRecDepth 100000 in
theorem c45 (arg0 arg1 : Value) (K : Value → WP) (w : World) (h : s45 Tryz.prog arg0 arg1 K w) : Runs Tryz.prog 45 [arg0, arg1] K w :=
  runs_of_E wide (fn := Tryz.f45) (c := Tryz.f45.body.getD .skip) 19 A45 [arg0, arg1] w K Tryz.func45 (by kernel_rfl) (by kernel_rfl) (by kernel_rfl) (by kernel_rfl)
    (Eq.mp (by kernel_rfl : s45 Tryz.prog arg0 arg1 K w = E Tryz.prog (Tryz.f45.body.getD .skip) A45 (topK Tryz.prog K Tryz.f45.results) (fun i => (([arg0, arg1] : List Value)[i]?).getD undef) w) h)
theorem ct45 {arg0 arg1 : Value} {h : Hp} {post : Hp → Value → Prop} (hg : ∀ w0, Gs w0 h h [] (s45 Tryz.prog arg0 arg1 (RetP w0 h post))) : Ct Tryz.prog 45 [arg0, arg1] h post := Ct.of (sf := s45 Tryz.prog arg0 arg1) (c45 arg0 arg1) hg
theorem in45 {arg0 arg1 : Value} {S : WP} {K : Value → WP} (hg : G S (s45 Tryz.prog arg0 arg1 K)) : G S (Do Tryz.prog (vCall (.func (.func 45) #[] ⟨[]⟩) [arg0, arg1]) K) := Gs.into (args := [arg0, arg1]) (caps := []) (sf := s45 Tryz.prog arg0 arg1) (c45 arg0 arg1) hg

/- skewer/skewerref02.in : names 0 n, 1 limit, 2 n, 3 limit -/
def s46 (P : Program) (arg0 arg1 : Value) (K : Value → WP) : WP :=
  Do P (V (binOp .geq 3 arg0 (.int .i64 0))) fun t1_6 =>
  Gd t1_6 true (
   Do P (V (binOp .lss 3 arg0 arg1)) fun t2_10 =>
   K t2_10
  ) (
   K (.bool false)
  )
def A46 : Ann := .s (.n) (.s (.n) (.n))
set_option maxRecDepth 100000 in
theorem c46 (arg0 arg1 : Value) (K : Value → WP) (w : World) (h : s46 Tryz.prog arg0 arg1 K w) : Runs Tryz.prog 46 [arg0, arg1] K w :=
  runs_of_E wide (fn := Tryz.f46) (c := Tryz.f46.body.getD .skip) 12 A46 [arg0, arg1] w K Tryz.func46 (by kernel_rfl) (by kernel_rfl) (by kernel_rfl) (by kernel_rfl)
    (Eq.mp (by kernel_rfl : s46 Tryz.prog arg0 arg1 K w = E Tryz.prog (Tryz.f46.body.getD .skip) A46 (topK Tryz.prog K Tryz.f46.results) (fun i => (([arg0, arg1] : List Value)[i]?).getD undef) w) h)
theorem ct46 {arg0 arg1 : Value} {h : Hp} {post : Hp → Value → Prop} (hg : ∀ w0, Gs w0 h h [] (s46 Tryz.prog arg0 arg1 (RetP w0 h post))) : Ct Tryz.prog 46 [arg0, arg1] h post := Ct.of (sf := s46 Tryz.prog arg0 arg1) (c46 arg0 arg1) hg
theorem in46 {arg0 arg1 : Value} {S : WP} {K : Value → WP} (hg : G S (s46 Tryz.prog arg0 arg1 K)) : G S (Do Tryz.prog (vCall (.func (.func 46) #[] ⟨[]⟩) [arg0, arg1]) K) := Gs.into (args := [arg0, arg1]) (caps := []) (sf := s46 Tryz.prog arg0 arg1) (c46 arg0 arg1) hg

end Go.Proofs.YtlljhipmnkdpeaaGreatDoor
