/-
  The shallow forms of functions of the program, printed by a program of the prover; and what the types are.
-/
import Derived.Test.YtnepdmnkhjpnhaaKs
set_option linter.unusedVariables false
set_option maxRecDepth 100000
namespace Go.Proofs.Ytnepdmnkhjpnhaa
open Go Go.Sk
variable {M : Go.Sk.Mode}

/- skewer/skewerlaw21.LoopyForms : names 0 l, 1 n, 2 w, 3 l, 4 n, 5 w, 7 ok, 8 x, 9 s, 10 whole, 11 e, 12 r, 13 want -/
def s10 (P : Program) (arg0 arg1 arg2 : Value) (K : Value → WP) : WP :=
  Do P (V (Instr.box 51 arg2)) fun w1 =>
  Do P (vCall (.func (.func 11) #[] ⟨[]⟩) []) fun t2_14 =>
  Do P (vBuiltin .len #[22] 3 [arg0]) fun t3_17 =>
  Do P (vBuiltin .min #[3, 3] 3 [t3_17, (.int .i64 8)]) fun t4_18 =>
  Do P (V (Instr.sliceAt 22 arg0 none (some t4_18) none)) fun t5_19 =>
  Do P (V (binOp .rem 5 arg1 (.int .u8 4))) fun t6_21 =>
  Do P (vCall (.func (.func 12) #[] ⟨[]⟩) [t5_19, t6_21, (.bool false)]) fun t7_22 =>
  Do P (V (Instr.alloc 27 true (.tuple #[]))) fun x8 =>
  Do P (U (Instr.storeAt 27 x8 t7_22)) fun t9_x =>
  Do P (V (Instr.loadAt 27 x8)) fun t10_23 =>
  Do P (V (Instr.loadAt 51 w1)) fun t11_24 =>
  Do P (vCall (.func (.func 24) #[] ⟨[]⟩) [t10_23, t11_24]) fun t12_25 =>
  Do P (V (Instr.alloc 30 true (.tuple #[]))) fun s13 =>
  Do P (U (Instr.storeAt 30 s13 t12_25)) fun t14_x =>
  Do P (V (Instr.fieldAt 30 s13 1)) fun t15_26 =>
  Do P (V (Instr.loadAt 3 t15_26)) fun t16_27 =>
  Do P (V (binOp .quo 3 t16_27 (.int .i64 2))) fun t17_28 =>
  Do P (V (Instr.fieldAt 30 s13 1)) fun t18_29 =>
  Do P (U (Instr.storeAt 3 t18_29 t17_28)) fun t19_x =>
  Do P (V (Instr.fieldAt 30 s13 1)) fun t20_31 =>
  Do P (V (Instr.loadAt 3 t20_31)) fun t21_32 =>
  Do P (vBuild 65 [(0, t21_32)]) fun t22_33 =>
  Do P (vCall (.func (.func 28) #[] ⟨[]⟩) [t22_33]) fun t23_34 =>
  Do P (V (Instr.extract t23_34 0)) fun t24_35 =>
  Do P (V (Instr.extract t23_34 1)) fun t25_36 =>
  Do P (V (Instr.alloc 61 true (.tuple #[]))) fun whole26 =>
  Do P (U (Instr.storeAt 61 whole26 t24_35)) fun t27_x =>
  Do P (V (Instr.loadAt 27 x8)) fun t28_37 =>
  Do P (V (Instr.loadAt 30 s13)) fun t29_38 =>
  Do P (vCall (.func (.func 13) #[] ⟨[]⟩) [t28_37, t29_38]) fun t30_39 =>
  Do P (V (Instr.alloc 33 true (.tuple #[]))) fun r31 =>
  Do P (U (Instr.storeAt 33 r31 t30_39)) fun t32_x =>
  Jn (α := Value) (fun j33 => Jk fun _ => -- t58
   If j33 (
    K (.bool false)
   ) (
    Jn (α := Value) (fun j34 => Jk fun _ => -- want
     Do P (V (Instr.fieldAt 33 r31 0)) fun t35_69 =>
     Do P (V (Instr.loadAt 3 t35_69)) fun t36_70 =>
     Do P (V (EqG .eql 3 (.tmp 70) (.tmp 71) t36_70 j34)) fun t37_72 =>
     Gd t37_72 true (
      Do P (V (Instr.loadAt 27 x8)) fun t38_74 =>
      Do P (vCall (.func (.func 20) #[] ⟨[]⟩) [t38_74, (.int .i64 0)]) fun t39_75 =>
      Do P (vBuild 46 []) fun t40_76 =>
      Do P (V (EqG .eql 46 (.tmp 75) (.tmp 76) t39_75 t40_76)) fun t41_77 =>
      Gd t41_77 true (
       K t2_14
      ) (
       K (.bool false)
      )
     ) (
      K (.bool false)
     )
    ) fun k34 =>
    Dr <|
    Qk P (V (Instr.loadAt 27 x8)) fun C42 t42_59 =>
    Qk P (V (Instr.fieldAt 30 s13 0)) fun C43 t43_60 =>
    Qk P (V (Instr.loadAt 3 t43_60)) fun C44 t44_61 =>
    Qk P (V (Instr.loadAt 61 whole26)) fun C45 t45_63 =>
    Qk P (V (Instr.fieldAt 30 s13 2)) fun C46 t46_65 =>
    Qk P (V (Instr.loadAt 3 t46_65)) fun C47 t47_66 =>
    Do P (vCall (.func (.func 31) #[] ⟨[]⟩) [t42_59, t44_61]) fun t48_62 =>
    With C47 <|
    With C46 <|
    With C45 <|
    Do P (vCall (.func (.func 30) #[] ⟨[]⟩) [t48_62, t45_63]) fun t49_64 =>
    With C47 <|
    With C46 <|
    Do P (vCall (.func (.func 29) #[] ⟨[]⟩) [t49_64, t47_66]) fun t50_67 =>
    Qk P (V (EqG .eql 3 (.tmp 67) (.const (.int .i64 1)) t50_67 (.int .i64 1))) fun C51 t51_68 =>
    If t51_68 (
     k34 (.int .i64 3)
    ) (
     k34 (.int .i64 1)
    )
   )
  ) fun k33 =>
  Do P (V (EqG .neq 31 (.tmp 40) (.const (.int .i64 0)) t25_36 (.int .i64 0))) fun t52_41 =>
  Gd t52_41 false (
   Do P (V (Instr.fieldAt 33 r31 1)) fun t53_43 =>
   Do P (V (Instr.loadAt 31 t53_43)) fun t54_44 =>
   Do P (V (EqG .neq 31 (.tmp 44) (.const (.int .i64 0)) t54_44 (.int .i64 0))) fun t55_45 =>
   Gd t55_45 false (
    Do P (V (Instr.fieldAt 61 whole26 0)) fun t56_48 =>
    Do P (V (Instr.loadAt 59 t56_48)) fun t57_49 =>
    Do P (vBuiltin .len #[59] 3 [t57_49]) fun t58_50 =>
    Do P (V (binOp .gtr 3 t58_50 (.int .i64 1))) fun t59_51 =>
    Gd t59_51 false (
     Do P (V (Instr.fieldAt 61 whole26 1)) fun t60_54 =>
     Do P (V (Instr.loadAt 59 t60_54)) fun t61_55 =>
     Do P (vBuiltin .len #[59] 3 [t61_55]) fun t62_56 =>
     Do P (V (binOp .gtr 3 t62_56 (.int .i64 1))) fun t63_57 =>
     k33 t63_57
    ) (
     k33 (.bool true)
    )
   ) (
    k33 (.bool true)
   )
  ) (
   k33 (.bool true)
  )
def A10 : Ann := .s (.n) (.s (.n) (.s (.n) (.s (.n) (.s (.n) (.s (.n) (.s (.n) (.s (.j [58] 576459652791795712 (.n) (.s (.s (.n) (.n)) (.n))) (.s (.n) (.j [13] 589719349606402236416 (.s (.plan [(0, 256, 576460752303423488), (0, 512, 1152921504606846976), (2, 1152921504606846976, 2305843009213693952), (5, 2882303761517117440, 4611686018427387904), (0, 1024, 9223372036854775808), (24, 13835058055282163712, 18446744073709551616), (0, 512, 36893488147419103232), (64, 36893488147419103232, 73786976294838206464), (160, 92233720368547758080, 147573952589676412928), (256, 147573952589676412928, 295147905179352825856)] (.q 0 (.q 1 (.q 2 (.q 4 (.q 6 (.q 7 (.l 3 (.l 5 (.l 8 (.q 9 .done))))))))))) (.s (.n) (.n))) (.s (.n) (.n)))))))))))
set_option maxRecDepth 100000 in
theorem c10 (arg0 arg1 arg2 : Value) (K : Value → WP) (w : World) (h : s10 Try.prog arg0 arg1 arg2 K w) : Runs Try.prog 10 [arg0, arg1, arg2] K w :=
  runs_of_E wide (fn := Try.f10) (c := Try.f10.body.getD .skip) 82 A10 [arg0, arg1, arg2] w K Try.func10 (by kernel_rfl) (by kernel_rfl) (by kernel_rfl) (by kernel_rfl)
    (Eq.mp (by kernel_rfl : s10 Try.prog arg0 arg1 arg2 K w = E Try.prog (Try.f10.body.getD .skip) A10 (topK Try.prog K Try.f10.results) (fun i => (([arg0, arg1, arg2] : List Value)[i]?).getD undef) w) h)
theorem ct10 {arg0 arg1 arg2 : Value} {h : Hp} {post : Hp → Value → Prop} (hg : ∀ w0, Gs w0 h h [] (s10 Try.prog arg0 arg1 arg2 (RetP w0 h post))) : Ct Try.prog 10 [arg0, arg1, arg2] h post := Ct.of (sf := s10 Try.prog arg0 arg1 arg2) (c10 arg0 arg1 arg2) hg
theorem in10 {arg0 arg1 arg2 : Value} {S : WP} {K : Value → WP} (hg : G S (s10 Try.prog arg0 arg1 arg2 K)) : G S (Do Try.prog (vCall (.func (.func 10) #[] ⟨[]⟩) [arg0, arg1, arg2]) K) := Gs.into (args := [arg0, arg1, arg2]) (caps := []) (sf := s10 Try.prog arg0 arg1 arg2) (c10 arg0 arg1 arg2) hg

end Go.Proofs.Ytnepdmnkhjpnhaa
