/-
  The shallow forms of functions of the program, printed by a program of the prover; and what the types are.
-/
import Derived.Test.YtnepdmnkhjpnhaaKs
set_option linter.unusedVariables false
set_option linter.unusedSimpArgs false
set_option linter.unusedSectionVars false
set_option maxRecDepth 100000
namespace Go.Proofs.Ytnepdmnkhjpnhaa
open Go Go.Sk
variable {M : Go.Sk.Mode}

/- skewer/skewerlaw21.LoopyMatchesReference : names 0 l, 1 n, 2 raw, 3 l, 4 n, 5 raw, 7 ok, 8 x, 9 i, 10 s, 11 side, 12 i -/
def s3 (P : Program) (arg0 arg1 arg2 : Value) (K : Value → WP) : WP :=
  Do P (vCall (.func (.func 11) #[] ⟨[]⟩) []) fun t1_13 =>
  Do P (vBuiltin .len #[23] 3 [arg2]) fun t2_15 =>
  Do P (V (binOp .gtr 3 t2_15 (.int .i64 30))) fun t3_16 =>
  If t3_16 (
   K t1_13
  ) (
   Do P (V (binOp .lss 5 arg1 (.int .u8 200))) fun t4_21 =>
   Do P (vCall (.func (.func 12) #[] ⟨[]⟩) [arg0, arg1, t4_21]) fun t5_22 =>
   Do P (V (Instr.alloc 27 true (.tuple #[]))) fun x6 =>
   Do P (U (Instr.storeAt 27 x6 t5_22)) fun t7_x =>
   Lp (α := Value) (fun c8 s8 => Jk fun _ => -- i
    Jn (α := Value) (fun j9 => Jk fun _ => -- t30
     If j9 (
      Do P (V (Instr.indexAt 23 arg2 s8)) fun t10_35 =>
      Do P (V (Instr.loadAt 30 t10_35)) fun t11_36 =>
      Do P (V (convert 5 3 arg1)) fun t12_38 =>
      Do P (V (binOp .rem 3 t12_38 (.int .i64 3))) fun t13_39 =>
      Do P (V (Instr.alloc 30 true (.tuple #[]))) fun s14 =>
      Do P (U (Instr.storeAt 30 s14 t11_36)) fun t15_x =>
      Jn (α := Value) (fun j16 => Jk fun _ => -- t72
       If j16 (
        K (.bool false)
       ) (
        Do P (V (binOp .add 3 s8 (.int .i64 1))) fun t17_32 =>
        c8 t17_32
       )
      ) fun k16 =>
      Dr <|
      Qk P (V (Instr.loadAt 27 x6)) fun C18 t18_40 =>
      Qk P (V (Instr.loadAt 30 s14)) fun C19 t19_41 =>
      Qk P (V (Instr.loadAt 27 x6)) fun C20 t20_43 =>
      Qk P (V (Instr.loadAt 30 s14)) fun C21 t21_44 =>
      Do P (vCall (.func (.func 13) #[] ⟨[]⟩) [t18_40, t19_41]) fun t22_42 =>
      With C21 <|
      With C20 <|
      Do P (vCall (.func (.func 14) #[] ⟨[]⟩) [t20_43, t21_44]) fun t23_45 =>
      Qk P (V (EqG .neq 33 (.tmp 42) (.tmp 45) t22_42 t23_45)) fun C24 t24_46 =>
      Gd t24_46 false (
       Qk P (V (Instr.loadAt 27 x6)) fun C25 t25_48 =>
       Qk P (V (Instr.loadAt 30 s14)) fun C26 t26_49 =>
       Qk P (V (Instr.loadAt 27 x6)) fun C27 t27_52 =>
       Qk P (V (Instr.loadAt 30 s14)) fun C28 t28_53 =>
       Do P (vCall (.func (.func 16) #[] ⟨[]⟩) [t25_48, t26_49, t13_39]) fun t29_51 =>
       With C28 <|
       With C27 <|
       Do P (vCall (.func (.func 17) #[] ⟨[]⟩) [t27_52, t28_53, t13_39]) fun t30_55 =>
       Do P (vCall (.func (.func 15) #[] ⟨[]⟩) [t29_51, t30_55]) fun t31_56 =>
       Qk P (V (Op.unary .not t31_56)) fun C32 t32_57 =>
       Gd t32_57 false (
        Qk P (V (Instr.loadAt 27 x6)) fun C33 t33_60 =>
        Qk P (V (Instr.loadAt 30 s14)) fun C34 t34_61 =>
        Qk P (vBuild 41 [(0, arg2)]) fun C35 t35_64 =>
        Qk P (V (Instr.loadAt 27 x6)) fun C36 t36_66 =>
        Qk P (V (Instr.loadAt 30 s14)) fun C37 t37_67 =>
        Do P (vCall (.func (.func 18) #[] ⟨[]⟩) [t33_60, t34_61, t13_39, t35_64]) fun t38_65 =>
        With C37 <|
        With C36 <|
        Do P (vCall (.func (.func 19) #[] ⟨[]⟩) [t36_66, t37_67, t13_39, arg2]) fun t39_70 =>
        Qk P (V (EqG .neq 4 (.tmp 65) (.tmp 70) t38_65 t39_70)) fun C40 t40_71 =>
        k16 t40_71
       ) (
        k16 (.bool true)
       )
      ) (
       k16 (.bool true)
      )
     ) (
      Lp (α := Value) (fun c41 s41 => Jk fun _ => -- i
       Do P (V (Instr.fieldAt 27 x6 0)) fun t42_74 =>
       Do P (V (Instr.loadAt 25 t42_74)) fun t43_75 =>
       Do P (vBuiltin .len #[25] 3 [t43_75]) fun t44_76 =>
       Do P (V (binOp .leq 3 s41 t44_76)) fun t45_77 =>
       If t45_77 (
        Dr <|
        Qk P (V (Instr.loadAt 27 x6)) fun C46 t46_80 =>
        Qk P (V (Instr.loadAt 27 x6)) fun C47 t47_83 =>
        Do P (vCall (.func (.func 20) #[] ⟨[]⟩) [t46_80, s41]) fun t48_82 =>
        With C47 <|
        Do P (vCall (.func (.func 21) #[] ⟨[]⟩) [t47_83, s41]) fun t49_85 =>
        Qk P (V (EqG .neq 46 (.tmp 82) (.tmp 85) t48_82 t49_85)) fun C50 t50_86 =>
        If t50_86 (
         K (.bool false)
        ) (
         Do P (V (binOp .add 3 s41 (.int .i64 1))) fun t51_79 =>
         c41 t51_79
        )
       ) (
        K t1_13
       )
      ) (.int .i64 (-1))
     )
    ) fun k9 =>
    Do P (vBuiltin .len #[23] 3 [arg2]) fun t52_25 =>
    Do P (V (binOp .lss 3 s8 t52_25)) fun t53_26 =>
    Gd t53_26 true (
     Do P (V (binOp .lss 3 s8 (.int .i64 3))) fun t54_29 =>
     k9 t54_29
    ) (
     k9 (.bool false)
    )
   ) (.int .i64 0)
  )
def A3 : Ann := .s (.n) (.s (.n) (.s (.s (.n) (.s (.s (.n) (.n)) (.n))) (.s (.n) (.s (.s (.n) (.lp [9] 9444732965739282042432 (.s (.j [30] 2139095040 (.n) (.s (.n) (.n))) (.s (.s (.n) (.j [72] 9444732964639778799616 (.plan [(0, 256, 1099511627776), (0, 1024, 2199023255552), (3, 3298534883328, 4398046511104), (0, 256, 8796093022208), (0, 1024, 17592186044416), (28, 26388279066624, 35184372088832), (36, 39582418599936, 70368744177664), (96, 70368744177664, 140737488355328), (128, 140737488355584, 281474976710656), (128, 140737488356352, 562949953421312), (128, 140737488357376, 1125899906842624), (1920, 2111062325329920, 2251799813685248), (128, 140737488355584, 4503599627370496), (128, 140737488356352, 9007199254740992), (128, 140737488357376, 18014398509481984), (30848, 31665934879948800, 36028797018963968), (34944, 38421334321004544, 72057594037927936), (65664, 72198331526283264, 144115188075855872), (131200, 144255925564211200, 288230376151711744), (327680, 288230376151711744, 576460752303423488), (524288, 576460752303423744, 1152921504606846976), (524288, 576460752303424512, 2305843009213693952), (524288, 576460752303425536, 4611686018427387904), (524288, 576460752303423492, 9223372036854775808), (8912896, 9799832789158199296, 18446744073709551616), (24641536, 27093655358260903936, 36893488147419103232), (524288, 576460752303423744, 73786976294838206464), (524288, 576460752303424512, 147573952589676412928), (524288, 576460752303425536, 295147905179352825856), (524288, 576460752303423492, 590295810358705651712), (1040711680, 1107381105174876520448, 1180591620717411303424), (1107820544, 1218061569617133830144, 2361183241434822606848), (2148007936, 2361759702187126030336, 4722366482869645213696)] (.q 0 (.q 1 (.q 3 (.q 4 (.l 2 (.l 5 (.q 6 (.q 7 (.q 8 (.q 9 (.q 10 (.q 12 (.q 13 (.q 14 (.l 11 (.l 15 (.l 16 (.q 17 (.q 18 (.q 19 (.q 20 (.q 21 (.q 22 (.q 23 (.q 24 (.q 26 (.q 27 (.q 28 (.q 29 (.l 25 (.l 30 (.q 31 (.q 32 .done)))))))))))))))))))))))))))))))))) (.s (.s (.n) (.n)) (.n)))) (.n))))) (.s (.s (.n) (.lp [12] 154733060177706795071967296 (.s (.s (.n) (.s (.n) (.n))) (.s (.s (.plan [(0, 256, 1208925819614629174706176), (0, 4096, 2417851639229258349412352), (3, 3626777458843887524118528, 4835703278458516698824704), (0, 256, 9671406556917033397649408), (0, 4096, 19342813113834066795298816), (28, 29014219670751100192948224, 38685626227668133590597632), (36, 43521329506126650289422336, 77371252455336267181195264)] (.q 0 (.q 1 (.q 3 (.q 4 (.l 2 (.l 5 (.q 6 .done)))))))) (.s (.s (.n) (.n)) (.n))) (.n))))) (.s (.n) (.n)))))))
set_option maxRecDepth 100000 in
theorem c3 (arg0 arg1 arg2 : Value) (K : Value → WP) (w : World) (h : s3 Try.prog arg0 arg1 arg2 K w) : Runs Try.prog 3 [arg0, arg1, arg2] K w :=
  runs_of_E wide (fn := Try.f3) (c := Try.f3.body.getD .skip) 88 A3 [arg0, arg1, arg2] w K Try.func3 (by kernel_rfl) (by kernel_rfl) (by kernel_rfl) (by kernel_rfl)
    (Eq.mp (by kernel_rfl : s3 Try.prog arg0 arg1 arg2 K w = E Try.prog (Try.f3.body.getD .skip) A3 (topK Try.prog K Try.f3.results) (fun i => (([arg0, arg1, arg2] : List Value)[i]?).getD undef) w) h)
theorem ct3 {arg0 arg1 arg2 : Value} {h : Hp} {post : Hp → Value → Prop} (hg : ∀ w0, Gs w0 h h [] (s3 Try.prog arg0 arg1 arg2 (RetP w0 h post))) : Ct Try.prog 3 [arg0, arg1, arg2] h post := Ct.of (sf := s3 Try.prog arg0 arg1 arg2) (c3 arg0 arg1 arg2) hg
theorem in3 {arg0 arg1 arg2 : Value} {S : WP} {K : Value → WP} (hg : G S (s3 Try.prog arg0 arg1 arg2 K)) : G S (Do Try.prog (vCall (.func (.func 3) #[] ⟨[]⟩) [arg0, arg1, arg2]) K) := Gs.into (args := [arg0, arg1, arg2]) (caps := []) (sf := s3 Try.prog arg0 arg1 arg2) (c3 arg0 arg1 arg2) hg

/- skewer/skewerlaw21.LoopyValid : names 0 x, 1 x, 3 ok, 4 i, 5 i -/
def s4 (P : Program) (arg0 : Value) (K : Value → WP) : WP :=
  Do P (V (Instr.box 27 arg0)) fun x1 =>
  Do P (vCall (.func (.func 11) #[] ⟨[]⟩) []) fun t2_6 =>
  Jn (α := Value) (fun j3 => Jk fun _ => -- t16
   If j3 (
    K t2_6
   ) (
    Lp (α := Value) (fun c4 s4 => Jk fun _ => -- i
     Do P (V (Instr.fieldAt 27 x1 0)) fun t5_19 =>
     Do P (V (Instr.loadAt 25 t5_19)) fun t6_20 =>
     Do P (vBuiltin .len #[25] 3 [t6_20]) fun t7_21 =>
     Do P (V (binOp .lss 3 s4 t7_21)) fun t8_22 =>
     If t8_22 (
      Do P (V (Instr.fieldAt 27 x1 0)) fun t9_25 =>
      Do P (V (Instr.loadAt 25 t9_25)) fun t10_26 =>
      Do P (V (Instr.indexAt 25 t10_26 s4)) fun t11_28 =>
      Do P (V (Instr.loadAt 49 t11_28)) fun t12_29 =>
      Do P (vBuiltin .len #[49] 3 [t12_29]) fun t13_30 =>
      Do P (V (binOp .gtr 3 t13_30 (.int .i64 40))) fun t14_31 =>
      If t14_31 (
       K t2_6
      ) (
       Do P (V (binOp .add 3 s4 (.int .i64 1))) fun t15_24 =>
       c4 t15_24
      )
     ) (
      Lp (α := Value) (fun c16 s16 => Jk fun _ => -- i
       Do P (V (Instr.fieldAt 27 x1 1)) fun t17_34 =>
       Do P (V (Instr.loadAt 25 t17_34)) fun t18_35 =>
       Do P (vBuiltin .len #[25] 3 [t18_35]) fun t19_36 =>
       Do P (V (binOp .lss 3 s16 t19_36)) fun t20_37 =>
       If t20_37 (
        Do P (V (Instr.fieldAt 27 x1 1)) fun t21_40 =>
        Do P (V (Instr.loadAt 25 t21_40)) fun t22_41 =>
        Do P (V (Instr.indexAt 25 t22_41 s16)) fun t23_43 =>
        Do P (V (Instr.loadAt 49 t23_43)) fun t24_44 =>
        Do P (vBuiltin .len #[49] 3 [t24_44]) fun t25_45 =>
        Do P (V (binOp .gtr 3 t25_45 (.int .i64 40))) fun t26_46 =>
        If t26_46 (
         K t2_6
        ) (
         Do P (V (binOp .add 3 s16 (.int .i64 1))) fun t27_39 =>
         c16 t27_39
        )
       ) (
        Do P (V (Instr.loadAt 27 x1)) fun t28_48 =>
        Do P (vCall (.func (.func 22) #[] ⟨[]⟩) [t28_48]) fun t29_49 =>
        If t29_49 (
         Do P (V (Instr.loadAt 27 x1)) fun t30_50 =>
         Do P (vCall (.func (.func 23) #[] ⟨[]⟩) [t30_50]) fun t31_51 =>
         Gd t31_51 true (
          K t2_6
         ) (
          K (.bool false)
         )
        ) (
         Do P (V (Instr.loadAt 27 x1)) fun t32_55 =>
         Do P (vCall (.func (.func 23) #[] ⟨[]⟩) [t32_55]) fun t33_56 =>
         Do P (V (Op.unary .not t33_56)) fun t34_57 =>
         Gd t34_57 true (
          Do P (V (Instr.loadAt 27 x1)) fun t35_59 =>
          Do P (vBuild 30 []) fun t36_60 =>
          Do P (vCall (.func (.func 13) #[] ⟨[]⟩) [t35_59, t36_60]) fun t37_61 =>
          Do P (vBuild 33 [(1, (.int .i64 210))]) fun t38_62 =>
          Do P (V (EqG .eql 33 (.tmp 61) (.tmp 62) t37_61 t38_62)) fun t39_63 =>
          Gd t39_63 true (
           Do P (V (Instr.loadAt 27 x1)) fun t40_66 =>
           Do P (vCall (.func (.func 20) #[] ⟨[]⟩) [t40_66, (.int .i64 0)]) fun t41_67 =>
           Do P (vBuild 46 [(1, (.int .i64 210))]) fun t42_68 =>
           Do P (V (EqG .eql 46 (.tmp 67) (.tmp 68) t41_67 t42_68)) fun t43_69 =>
           Gd t43_69 true (
            Do P (V (Instr.loadAt 27 x1)) fun t44_72 =>
            Do P (vBuild 30 []) fun t45_73 =>
            Do P (vCall (.func (.func 16) #[] ⟨[]⟩) [t44_72, t45_73, (.int .i64 0)]) fun t46_74 =>
            Do P (vBuild 37 [(1, (.int .i64 210))]) fun t47_75 =>
            Do P (vCall (.func (.func 15) #[] ⟨[]⟩) [t46_74, t47_75]) fun t48_76 =>
            Gd t48_76 true (
             Do P (V (Instr.loadAt 27 x1)) fun t49_79 =>
             Do P (vBuild 30 []) fun t50_80 =>
             Do P (vBuild 30 []) fun t51_81 =>
             Do P (vBuildSlice 23 1 [(0, t51_81)]) fun t52_82 =>
             Do P (vBuild 41 [(0, t52_82)]) fun t53_83 =>
             Do P (vCall (.func (.func 18) #[] ⟨[]⟩) [t49_79, t50_80, (.int .i64 0), t53_83]) fun t54_84 =>
             Do P (V (Op.unary .not t54_84)) fun t55_85 =>
             Gd t55_85 true (
              K t2_6
             ) (
              K (.bool false)
             )
            ) (
             K (.bool false)
            )
           ) (
            K (.bool false)
           )
          ) (
           K (.bool false)
          )
         ) (
          K (.bool false)
         )
        )
       )
      ) (.int .i64 0)
     )
    ) (.int .i64 0)
   )
  ) fun k3 =>
  Do P (V (Instr.fieldAt 27 x1 0)) fun t56_7 =>
  Do P (V (Instr.loadAt 25 t56_7)) fun t57_8 =>
  Do P (vBuiltin .len #[25] 3 [t57_8]) fun t58_9 =>
  Do P (V (binOp .gtr 3 t58_9 (.int .i64 40))) fun t59_10 =>
  Gd t59_10 false (
   Do P (V (Instr.fieldAt 27 x1 1)) fun t60_12 =>
   Do P (V (Instr.loadAt 25 t60_12)) fun t61_13 =>
   Do P (vBuiltin .len #[25] 3 [t61_13]) fun t62_14 =>
   Do P (V (binOp .gtr 3 t62_14 (.int .i64 40))) fun t63_15 =>
   k3 t63_15
  ) (
   k3 (.bool true)
  )
def A4 : Ann := .s (.n) (.s (.n) (.s (.j [16] 130944 (.n) (.s (.s (.n) (.n)) (.n))) (.s (.s (.n) (.lp [4] 8589672468 (.s (.s (.n) (.s (.n) (.n))) (.s (.s (.n) (.s (.s (.n) (.n)) (.n))) (.n))))) (.s (.s (.n) (.lp [5] 281466386776100 (.s (.s (.n) (.s (.n) (.n))) (.s (.s (.n) (.s (.s (.n) (.n)) (.n))) (.n))))) (.s (.s (.n) (.s (.s (.n) (.n)) (.n))) (.s (.n) (.n)))))))
set_option maxRecDepth 100000 in
theorem c4 (arg0 : Value) (K : Value → WP) (w : World) (h : s4 Try.prog arg0 K w) : Runs Try.prog 4 [arg0] K w :=
  runs_of_E wide (fn := Try.f4) (c := Try.f4.body.getD .skip) 90 A4 [arg0] w K Try.func4 (by kernel_rfl) (by kernel_rfl) (by kernel_rfl) (by kernel_rfl)
    (Eq.mp (by kernel_rfl : s4 Try.prog arg0 K w = E Try.prog (Try.f4.body.getD .skip) A4 (topK Try.prog K Try.f4.results) (fun i => (([arg0] : List Value)[i]?).getD undef) w) h)
theorem ct4 {arg0 : Value} {h : Hp} {post : Hp → Value → Prop} (hg : ∀ w0, Gs w0 h h [] (s4 Try.prog arg0 (RetP w0 h post))) : Ct Try.prog 4 [arg0] h post := Ct.of (sf := s4 Try.prog arg0) (c4 arg0) hg
theorem in4 {arg0 : Value} {S : WP} {K : Value → WP} (hg : G S (s4 Try.prog arg0 K)) : G S (Do Try.prog (vCall (.func (.func 4) #[] ⟨[]⟩) [arg0]) K) := Gs.into (args := [arg0]) (caps := []) (sf := s4 Try.prog arg0) (c4 arg0) hg

/- skewer/skewerlaw21.LoopyTurns : names 0 l, 1 n, 2 w, 3 l, 4 n, 5 w, 7 ok, 8 x, 9 s, 10 moves, 11 want, 12 i, 13 r -/
def s5 (P : Program) (arg0 arg1 arg2 : Value) (K : Value → WP) : WP :=
  Do P (V (Instr.box 51 arg2)) fun w1 =>
  Do P (vCall (.func (.func 11) #[] ⟨[]⟩) []) fun t2_14 =>
  Do P (V (binOp .lss 5 arg1 (.int .u8 200))) fun t3_18 =>
  Do P (vCall (.func (.func 12) #[] ⟨[]⟩) [arg0, arg1, t3_18]) fun t4_19 =>
  Do P (V (Instr.alloc 27 true (.tuple #[]))) fun x5 =>
  Do P (U (Instr.storeAt 27 x5 t4_19)) fun t6_x =>
  Do P (V (Instr.loadAt 27 x5)) fun t7_20 =>
  Do P (V (Instr.loadAt 51 w1)) fun t8_21 =>
  Do P (vCall (.func (.func 24) #[] ⟨[]⟩) [t7_20, t8_21]) fun t9_22 =>
  Do P (V (Instr.alloc 30 true (.tuple #[]))) fun s10 =>
  Do P (U (Instr.storeAt 30 s10 t9_22)) fun t11_x =>
  Do P (V (Instr.loadAt 27 x5)) fun t12_23 =>
  Do P (V (Instr.loadAt 30 s10)) fun t13_24 =>
  Do P (vCall (.func (.func 25) #[] ⟨[]⟩) [t12_23, t13_24]) fun t14_25 =>
  Jn (α := Value) (fun j15 => Jk fun _ => -- want
   Lp (α := Value × Value) (fun c16 s16 => Jk fun _ => -- want i
    Do P (vBuiltin .len #[23] 3 [t14_25]) fun t17_31 =>
    Do P (V (binOp .lss 3 s16.2 t17_31)) fun t18_32 =>
    If t18_32 (
     Jn (α := Value) (fun j19 => Jk fun _ => -- want
      Do P (V (binOp .add 3 s16.2 (.int .i64 1))) fun t20_34 =>
      c16 (j19, t20_34)
     ) fun k19 =>
     Jn (α := Value) (fun j21 => Jk fun _ => -- r
      Jn (α := Value) (fun j22 => Jk fun _ => -- t53
       If j22 (
        K (.bool false)
       ) (
        Do P (V (Instr.fieldAt 30 s10 2)) fun t23_54 =>
        Do P (V (Instr.loadAt 3 t23_54)) fun t24_55 =>
        Do P (V (EqG .eql 3 (.tmp 55) (.const (.int .i64 0)) t24_55 (.int .i64 0))) fun t25_56 =>
        If t25_56 (
         Do P (V (Instr.fieldAt 33 j21 0)) fun t26_58 =>
         Do P (V (Instr.loadAt 3 t26_58)) fun t27_59 =>
         Do P (vBuiltin .min #[3, 3] 3 [s16.1, t27_59]) fun t28_60 =>
         k19 t28_60
        ) (
         Do P (V (Instr.fieldAt 33 j21 0)) fun t29_62 =>
         Do P (V (Instr.loadAt 3 t29_62)) fun t30_63 =>
         Do P (vBuiltin .max #[3, 3] 3 [s16.1, t30_63]) fun t31_64 =>
         k19 t31_64
        )
       )
      ) fun k22 =>
      Do P (V (Instr.fieldAt 33 j21 1)) fun t32_41 =>
      Do P (V (Instr.loadAt 31 t32_41)) fun t33_42 =>
      Do P (V (EqG .neq 31 (.tmp 42) (.const (.int .i64 0)) t33_42 (.int .i64 0))) fun t34_43 =>
      Gd t34_43 false (
       Do P (V (Instr.fieldAt 33 j21 0)) fun t35_45 =>
       Do P (V (Instr.loadAt 3 t35_45)) fun t36_46 =>
       Do P (V (binOp .lss 3 t36_46 (.int .i64 1))) fun t37_47 =>
       Gd t37_47 false (
        Do P (V (Instr.fieldAt 33 j21 0)) fun t38_50 =>
        Do P (V (Instr.loadAt 3 t38_50)) fun t39_51 =>
        Do P (V (binOp .gtr 3 t39_51 (.int .i64 3))) fun t40_52 =>
        k22 t40_52
       ) (
        k22 (.bool true)
       )
      ) (
       k22 (.bool true)
      )
     ) fun k21 =>
     Dr <|
     Qk P (V (Instr.loadAt 27 x5)) fun C41 t41_35 =>
     Qk P (V (Instr.indexAt 23 t14_25 s16.2)) fun C42 t42_38 =>
     Qk P (V (Instr.loadAt 30 t42_38)) fun C43 t43_39 =>
     Or2 (
      Do P (vCall (.func (.func 13) #[] ⟨[]⟩) [t41_35, t43_39]) fun t44_40 =>
      Do P (V (Instr.alloc 33 true (.tuple #[]))) fun r45 =>
      With C43 <|
      With C42 <|
      With C41 <|
      Do P (U (Instr.storeAt 33 r45 t44_40)) fun t46_x =>
      k21 r45
     ) (
      Do P (V (Instr.alloc 33 true (.tuple #[]))) fun r47 =>
      With C43 <|
      With C42 <|
      With C41 <|
      Do P (vCall (.func (.func 13) #[] ⟨[]⟩) [t41_35, t43_39]) fun t48_40 =>
      Do P (U (Instr.storeAt 33 r47 t48_40)) fun t49_x =>
      k21 r47
     )
    ) (
     Do P (V (Instr.loadAt 27 x5)) fun t50_65 =>
     Do P (V (Instr.loadAt 30 s10)) fun t51_66 =>
     Do P (vCall (.func (.func 13) #[] ⟨[]⟩) [t50_65, t51_66]) fun t52_67 =>
     Do P (vBuild 33 [(0, s16.1)]) fun t53_69 =>
     Do P (V (EqG .eql 33 (.tmp 67) (.tmp 69) t52_67 t53_69)) fun t54_70 =>
     Gd t54_70 true (
      K t2_14
     ) (
      K (.bool false)
     )
    )
   ) (j15, (.int .i64 0))
  ) fun k15 =>
  Do P (V (Instr.fieldAt 30 s10 2)) fun t55_26 =>
  Do P (V (Instr.loadAt 3 t55_26)) fun t56_27 =>
  Do P (V (EqG .eql 3 (.tmp 27) (.const (.int .i64 1)) t56_27 (.int .i64 1))) fun t57_28 =>
  If t57_28 (
   k15 (.int .i64 1)
  ) (
   k15 (.int .i64 3)
  )
def A5 : Ann := .s (.n) (.s (.n) (.s (.n) (.s (.n) (.s (.n) (.j [11] 469764096 (.s (.n) (.s (.n) (.n))) (.s (.s (.n) (.lp [11, 12] 36893488146882246720 (.s (.s (.n) (.s (.n) (.n))) (.j [11] 36893488113059375168 (.j [13] 2164663525376 (.plan [(0, 256, 34359738368), (0, 1024, 68719476736), (0, 4096, 137438953472), (6, 206158430208, 274877906944), (8, 274877906944, 549755813888), (17, 584115552256, 1099511627776), (0, 0, 8192), (127, 1099511635968, 0)] (.q 0 (.q 1 (.q 2 (.q 3 (.q 4 (.or (.l 5 (.l 6 (.l 7 .done))) (.l 6 (.l 5 (.l 7 .done)))))))))) (.s (.j [53] 18012199486226432 (.n) (.s (.s (.n) (.n)) (.n))) (.s (.n) (.s (.n) (.n))))) (.n))))) (.s (.n) (.n))))))))
set_option maxRecDepth 100000 in
theorem c5 (arg0 arg1 arg2 : Value) (K : Value → WP) (w : World) (h : s5 Try.prog arg0 arg1 arg2 K w) : Runs Try.prog 5 [arg0, arg1, arg2] K w :=
  runs_of_E wide (fn := Try.f5) (c := Try.f5.body.getD .skip) 74 A5 [arg0, arg1, arg2] w K Try.func5 (by kernel_rfl) (by kernel_rfl) (by kernel_rfl) (by kernel_rfl)
    (Eq.mp (by kernel_rfl : s5 Try.prog arg0 arg1 arg2 K w = E Try.prog (Try.f5.body.getD .skip) A5 (topK Try.prog K Try.f5.results) (fun i => (([arg0, arg1, arg2] : List Value)[i]?).getD undef) w) h)
theorem ct5 {arg0 arg1 arg2 : Value} {h : Hp} {post : Hp → Value → Prop} (hg : ∀ w0, Gs w0 h h [] (s5 Try.prog arg0 arg1 arg2 (RetP w0 h post))) : Ct Try.prog 5 [arg0, arg1, arg2] h post := Ct.of (sf := s5 Try.prog arg0 arg1 arg2) (c5 arg0 arg1 arg2) hg
theorem in5 {arg0 arg1 arg2 : Value} {S : WP} {K : Value → WP} (hg : G S (s5 Try.prog arg0 arg1 arg2 K)) : G S (Do Try.prog (vCall (.func (.func 5) #[] ⟨[]⟩) [arg0, arg1, arg2]) K) := Gs.into (args := [arg0, arg1, arg2]) (caps := []) (sf := s5 Try.prog arg0 arg1 arg2) (c5 arg0 arg1 arg2) hg

/- skewer/skewerlaw21.LoopyProofs : names 0 l, 1 n, 2 w, 3 l, 4 n, 5 w, 7 ok, 8 x, 9 s, 10 r, 11 side, 12 p, 13 lost, 14 i -/
def s6 (P : Program) (arg0 arg1 arg2 : Value) (K : Value → WP) : WP :=
  Do P (V (Instr.box 51 arg2)) fun w1 =>
  Do P (vCall (.func (.func 11) #[] ⟨[]⟩) []) fun t2_15 =>
  Do P (V (binOp .lss 5 arg1 (.int .u8 200))) fun t3_19 =>
  Do P (vCall (.func (.func 12) #[] ⟨[]⟩) [arg0, arg1, t3_19]) fun t4_20 =>
  Do P (V (Instr.alloc 27 true (.tuple #[]))) fun x5 =>
  Do P (U (Instr.storeAt 27 x5 t4_20)) fun t6_x =>
  Do P (V (Instr.loadAt 27 x5)) fun t7_21 =>
  Do P (V (Instr.loadAt 51 w1)) fun t8_22 =>
  Do P (vCall (.func (.func 24) #[] ⟨[]⟩) [t7_21, t8_22]) fun t9_23 =>
  Do P (V (Instr.alloc 30 true (.tuple #[]))) fun s10 =>
  Do P (U (Instr.storeAt 30 s10 t9_23)) fun t11_x =>
  Do P (V (Instr.loadAt 27 x5)) fun t12_24 =>
  Do P (V (Instr.loadAt 30 s10)) fun t13_25 =>
  Do P (vCall (.func (.func 13) #[] ⟨[]⟩) [t12_24, t13_25]) fun t14_26 =>
  Do P (V (Instr.alloc 33 true (.tuple #[]))) fun r15 =>
  Do P (U (Instr.storeAt 33 r15 t14_26)) fun t16_x =>
  Lp (α := Value) (fun c17 s17 => Jk fun _ => -- side
   Do P (V (binOp .lss 3 s17 (.int .i64 2))) fun t18_28 =>
   If t18_28 (
    Do P (V (Instr.loadAt 27 x5)) fun t19_31 =>
    Do P (V (Instr.loadAt 30 s10)) fun t20_32 =>
    Do P (vCall (.func (.func 16) #[] ⟨[]⟩) [t19_31, t20_32, s17]) fun t21_34 =>
    Do P (V (Instr.alloc 37 true (.tuple #[]))) fun p22 =>
    Do P (U (Instr.storeAt 37 p22 t21_34)) fun t23_x =>
    Jn (α := Value) (fun j24 => Jk fun _ => -- lost
     Jn (α := Value) (fun j25 => Jk fun _ => -- t92
      If j25 (
       K (.bool false)
      ) (
       Lp (α := Value) (fun c26 s26 => Jk fun _ => -- i
        Do P (V (Instr.fieldAt 37 p22 0)) fun t27_94 =>
        Do P (V (Instr.loadAt 23 t27_94)) fun t28_95 =>
        Do P (vBuiltin .len #[23] 3 [t28_95]) fun t29_96 =>
        Do P (V (binOp .lss 3 s26 t29_96)) fun t30_97 =>
        If t30_97 (
         Dr <|
         Qk P (V (Instr.fieldAt 37 p22 0)) fun C31 t31_100 =>
         Qk P (V (Instr.loadAt 23 t31_100)) fun C32 t32_101 =>
         Qk P (V (binOp .sub 3 s26 (.int .i64 1))) fun C33 t33_103 =>
         Qk P (V (Instr.indexAt 23 t32_101 t33_103)) fun C34 t34_104 =>
         Qk P (V (Instr.loadAt 30 t34_104)) fun C35 t35_105 =>
         Qk P (V (Instr.fieldAt 37 p22 0)) fun C36 t36_106 =>
         Qk P (V (Instr.loadAt 23 t36_106)) fun C37 t37_107 =>
         Qk P (V (Instr.indexAt 23 t37_107 s26)) fun C38 t38_109 =>
         Qk P (V (Instr.loadAt 30 t38_109)) fun C39 t39_110 =>
         Do P (vCall (.func (.func 26) #[] ⟨[]⟩) [t35_105, t39_110]) fun t40_111 =>
         Qk P (V (Op.unary .not t40_111)) fun C41 t41_112 =>
         If t41_112 (
          K (.bool false)
         ) (
          Do P (V (binOp .add 3 s26 (.int .i64 1))) fun t42_99 =>
          c26 t42_99
         )
        ) (
         Do P (V (binOp .add 3 s17 (.int .i64 1))) fun t43_30 =>
         c17 t43_30
        )
       ) (.int .i64 1)
      )
     ) fun k25 =>
     Do P (V (Instr.fieldAt 37 p22 1)) fun t44_52 =>
     Do P (V (Instr.loadAt 31 t44_52)) fun t45_53 =>
     Do P (V (EqG .eql 31 (.tmp 53) (.const (.int .i64 211)) t45_53 (.int .i64 211))) fun t46_54 =>
     Do P (V (EqG .neq 4 (.tmp 51) (.tmp 54) j24 t46_54)) fun t47_55 =>
     Gd t47_55 false (
      Do P (V (Op.unary .not j24)) fun t48_58 =>
      Gd t48_58 true (
       Do P (V (Instr.fieldAt 37 p22 1)) fun t49_60 =>
       Do P (V (Instr.loadAt 31 t49_60)) fun t50_61 =>
       Do P (V (EqG .neq 31 (.tmp 61) (.const (.int .i64 0)) t50_61 (.int .i64 0))) fun t51_62 =>
       Gd t51_62 false (
        Do P (V (Instr.loadAt 27 x5)) fun t52_64 =>
        Do P (V (Instr.loadAt 30 s10)) fun t53_65 =>
        Do P (V (Instr.fieldAt 37 p22 0)) fun t54_67 =>
        Do P (V (Instr.loadAt 23 t54_67)) fun t55_68 =>
        Do P (vBuild 41 [(0, t55_68)]) fun t56_69 =>
        Do P (vCall (.func (.func 18) #[] ⟨[]⟩) [t52_64, t53_65, s17, t56_69]) fun t57_70 =>
        Do P (V (Op.unary .not t57_70)) fun t58_71 =>
        Gd t58_71 false (
         Do P (V (Instr.loadAt 27 x5)) fun t59_74 =>
         Do P (V (Instr.loadAt 30 s10)) fun t60_75 =>
         Do P (V (Instr.fieldAt 37 p22 0)) fun t61_77 =>
         Do P (V (Instr.loadAt 23 t61_77)) fun t62_78 =>
         Do P (vCall (.func (.func 19) #[] ⟨[]⟩) [t59_74, t60_75, s17, t62_78]) fun t63_79 =>
         Do P (V (Op.unary .not t63_79)) fun t64_80 =>
         Gd t64_80 false (
          Gd j24 true (
           Do P (V (Instr.fieldAt 37 p22 0)) fun t65_87 =>
           Do P (V (Instr.loadAt 23 t65_87)) fun t66_88 =>
           Do P (vBuiltin .len #[23] 3 [t66_88]) fun t67_89 =>
           Do P (V (binOp .gtr 3 t67_89 (.int .i64 0))) fun t68_90 =>
           k25 t68_90
          ) (
           k25 (.bool false)
          )
         ) (
          k25 (.bool true)
         )
        ) (
         k25 (.bool true)
        )
       ) (
        k25 (.bool true)
       )
      ) (
       Gd j24 true (
        Do P (V (Instr.fieldAt 37 p22 0)) fun t69_87 =>
        Do P (V (Instr.loadAt 23 t69_87)) fun t70_88 =>
        Do P (vBuiltin .len #[23] 3 [t70_88]) fun t71_89 =>
        Do P (V (binOp .gtr 3 t71_89 (.int .i64 0))) fun t72_90 =>
        k25 t72_90
       ) (
        k25 (.bool false)
       )
      )
     ) (
      k25 (.bool true)
     )
    ) fun k24 =>
    Do P (V (EqG .eql 3 (.tmp 35) (.const (.int .i64 0)) s17 (.int .i64 0))) fun t73_36 =>
    Gd t73_36 true (
     Do P (V (Instr.fieldAt 33 r15 0)) fun t74_38 =>
     Do P (V (Instr.loadAt 3 t74_38)) fun t75_39 =>
     Do P (V (EqG .eql 3 (.tmp 39) (.const (.int .i64 3)) t75_39 (.int .i64 3))) fun t76_40 =>
     Gd t76_40 false (
      Do P (V (EqG .eql 3 (.tmp 43) (.const (.int .i64 1)) s17 (.int .i64 1))) fun t77_44 =>
      Gd t77_44 true (
       Do P (V (Instr.fieldAt 33 r15 0)) fun t78_46 =>
       Do P (V (Instr.loadAt 3 t78_46)) fun t79_47 =>
       Do P (V (EqG .eql 3 (.tmp 47) (.const (.int .i64 1)) t79_47 (.int .i64 1))) fun t80_48 =>
       k24 t80_48
      ) (
       k24 (.bool false)
      )
     ) (
      k24 (.bool true)
     )
    ) (
     Do P (V (EqG .eql 3 (.tmp 43) (.const (.int .i64 1)) s17 (.int .i64 1))) fun t81_44 =>
     Gd t81_44 true (
      Do P (V (Instr.fieldAt 33 r15 0)) fun t82_46 =>
      Do P (V (Instr.loadAt 3 t82_46)) fun t83_47 =>
      Do P (V (EqG .eql 3 (.tmp 47) (.const (.int .i64 1)) t83_47 (.int .i64 1))) fun t84_48 =>
      k24 t84_48
     ) (
      k24 (.bool false)
     )
    )
   ) (
    Do P (V (Instr.fieldAt 33 r15 1)) fun t85_113 =>
    Do P (V (Instr.loadAt 31 t85_113)) fun t86_114 =>
    Do P (V (EqG .eql 31 (.tmp 114) (.const (.int .i64 0)) t86_114 (.int .i64 0))) fun t87_115 =>
    Gd t87_115 true (
     K t2_15
    ) (
     K (.bool false)
    )
   )
  ) (.int .i64 0)
def A6 : Ann := .s (.n) (.s (.n) (.s (.n) (.s (.n) (.s (.n) (.s (.s (.n) (.lp [11] 10384593717069655257060992524253248 (.s (.s (.n) (.s (.n) (.n))) (.s (.s (.n) (.j [13] 2251765453955072 (.n) (.s (.j [92] 9903520314280790399379308544 (.n) (.s (.s (.n) (.n)) (.n))) (.s (.n) (.lp [14] 10384583813549340974018793465462848 (.s (.s (.n) (.s (.n) (.n))) (.s (.s (.plan [(0, 4096, 1267650600228229401496703205376), (1, 1267650600228229401496703205376, 2535301200456458802993406410752), (0, 16384, 5070602400912917605986812821504), (4, 5070602400912917605986812821504, 10141204801825835211973625643008), (10, 12676506002282294014967032053760, 20282409603651670423947251286016), (16, 20282409603651670423947251286016, 40564819207303340847894502572032), (0, 4096, 81129638414606681695789005144064), (64, 81129638414606681695789005144064, 162259276829213363391578010288128), (0, 16384, 324518553658426726783156020576256), (384, 486777830487640090174734030864384, 649037107316853453566312041152512), (512, 649037107316853453566312041152512, 1298074214633706907132624082305024), (1056, 1338639033841010247980518584877056, 2596148429267413814265248164610048), (2048, 2596148429267413814265248164610048, 5192296858534827628530496329220096)] (.q 0 (.q 1 (.q 2 (.q 3 (.q 4 (.q 5 (.q 6 (.q 7 (.q 8 (.q 9 (.q 10 (.l 11 (.q 12 .done)))))))))))))) (.s (.s (.n) (.n)) (.n))) (.n)))))))) (.n))))) (.s (.n) (.n)))))))
set_option maxRecDepth 100000 in
theorem c6 (arg0 arg1 arg2 : Value) (K : Value → WP) (w : World) (h : s6 Try.prog arg0 arg1 arg2 K w) : Runs Try.prog 6 [arg0, arg1, arg2] K w :=
  runs_of_E wide (fn := Try.f6) (c := Try.f6.body.getD .skip) 119 A6 [arg0, arg1, arg2] w K Try.func6 (by kernel_rfl) (by kernel_rfl) (by kernel_rfl) (by kernel_rfl)
    (Eq.mp (by kernel_rfl : s6 Try.prog arg0 arg1 arg2 K w = E Try.prog (Try.f6.body.getD .skip) A6 (topK Try.prog K Try.f6.results) (fun i => (([arg0, arg1, arg2] : List Value)[i]?).getD undef) w) h)
theorem ct6 {arg0 arg1 arg2 : Value} {h : Hp} {post : Hp → Value → Prop} (hg : ∀ w0, Gs w0 h h [] (s6 Try.prog arg0 arg1 arg2 (RetP w0 h post))) : Ct Try.prog 6 [arg0, arg1, arg2] h post := Ct.of (sf := s6 Try.prog arg0 arg1 arg2) (c6 arg0 arg1 arg2) hg
theorem in6 {arg0 arg1 arg2 : Value} {S : WP} {K : Value → WP} (hg : G S (s6 Try.prog arg0 arg1 arg2 K)) : G S (Do Try.prog (vCall (.func (.func 6) #[] ⟨[]⟩) [arg0, arg1, arg2]) K) := Gs.into (args := [arg0, arg1, arg2]) (caps := []) (sf := s6 Try.prog arg0 arg1 arg2) (c6 arg0 arg1 arg2) hg

/- skewer/skewerlaw21.LoopySound : names 0 l, 1 w, 2 raw, 3 l, 4 w, 5 raw, 7 ok, 8 x, 9 s, 10 r, 11 side, 12 lost, 13 p, 14 k, 15 out -/
def s7 (P : Program) (arg0 arg1 arg2 : Value) (K : Value → WP) : WP :=
  Do P (V (Instr.box 56 arg1)) fun w1 =>
  Do P (vCall (.func (.func 11) #[] ⟨[]⟩) []) fun t2_16 =>
  Do P (vBuiltin .len #[23] 3 [arg2]) fun t3_18 =>
  Do P (V (binOp .gtr 3 t3_18 (.int .i64 30))) fun t4_19 =>
  If t4_19 (
   K t2_16
  ) (
   Do P (V (Instr.indexAt 56 w1 (.int .i64 0))) fun t5_22 =>
   Do P (V (Instr.loadAt 5 t5_22)) fun t6_23 =>
   Do P (V (Instr.indexAt 56 w1 (.int .i64 0))) fun t7_24 =>
   Do P (V (Instr.loadAt 5 t7_24)) fun t8_25 =>
   Do P (V (binOp .lss 5 t8_25 (.int .u8 200))) fun t9_26 =>
   Do P (vCall (.func (.func 12) #[] ⟨[]⟩) [arg0, t6_23, t9_26]) fun t10_27 =>
   Do P (V (Instr.alloc 27 true (.tuple #[]))) fun x11 =>
   Do P (U (Instr.storeAt 27 x11 t10_27)) fun t12_x =>
   Do P (V (Instr.loadAt 27 x11)) fun t13_28 =>
   Do P (V (Instr.indexAt 56 w1 (.int .i64 1))) fun t14_29 =>
   Do P (V (Instr.loadAt 5 t14_29)) fun t15_30 =>
   Do P (V (Instr.indexAt 56 w1 (.int .i64 2))) fun t16_31 =>
   Do P (V (Instr.loadAt 5 t16_31)) fun t17_32 =>
   Do P (V (Instr.indexAt 56 w1 (.int .i64 3))) fun t18_33 =>
   Do P (V (Instr.loadAt 5 t18_33)) fun t19_34 =>
   Do P (vBuild 51 [(0, t15_30), (1, t17_32), (2, t19_34)]) fun t20_35 =>
   Do P (vCall (.func (.func 24) #[] ⟨[]⟩) [t13_28, t20_35]) fun t21_36 =>
   Do P (V (Instr.alloc 30 true (.tuple #[]))) fun s22 =>
   Do P (U (Instr.storeAt 30 s22 t21_36)) fun t23_x =>
   Do P (V (Instr.loadAt 27 x11)) fun t24_37 =>
   Do P (V (Instr.loadAt 30 s22)) fun t25_38 =>
   Do P (vCall (.func (.func 13) #[] ⟨[]⟩) [t24_37, t25_38]) fun t26_39 =>
   Do P (V (Instr.alloc 33 true (.tuple #[]))) fun r27 =>
   Do P (U (Instr.storeAt 33 r27 t26_39)) fun t28_x =>
   Lp (α := Value) (fun c29 s29 => Jk fun _ => -- side
    Do P (V (binOp .lss 3 s29 (.int .i64 2))) fun t30_41 =>
    If t30_41 (
     Jn (α := Unit) (fun j31 => Jk fun _ => -- 
      Do P (V (binOp .add 3 s29 (.int .i64 1))) fun t32_43 =>
      c29 t32_43
     ) fun k31 =>
     Jn (α := Value) (fun j33 => Jk fun _ => -- lost
      Jn (α := Value) (fun j34 => Jk fun _ => -- t68
       If j34 (
        K (.bool false)
       ) (
        Do P (V (Instr.loadAt 27 x11)) fun t35_69 =>
        Do P (V (Instr.loadAt 30 s22)) fun t36_70 =>
        Do P (vCall (.func (.func 17) #[] ⟨[]⟩) [t35_69, t36_70, s29]) fun t37_72 =>
        Do P (V (Instr.alloc 37 true (.tuple #[]))) fun p38 =>
        Do P (U (Instr.storeAt 37 p38 t37_72)) fun t39_x =>
        Do P (V (Instr.fieldAt 37 p38 1)) fun t40_73 =>
        Do P (V (Instr.loadAt 31 t40_73)) fun t41_74 =>
        Do P (V (EqG .neq 31 (.tmp 74) (.const (.int .i64 0)) t41_74 (.int .i64 0))) fun t42_75 =>
        If t42_75 (
         k31 ()
        ) (
         Do P (V (Instr.indexAt 56 w1 (.int .i64 1))) fun t43_76 =>
         Do P (V (Instr.loadAt 5 t43_76)) fun t44_77 =>
         Do P (V (convert 5 3 t44_77)) fun t45_78 =>
         Do P (V (Instr.fieldAt 37 p38 0)) fun t46_79 =>
         Do P (V (Instr.loadAt 23 t46_79)) fun t47_80 =>
         Do P (vBuiltin .len #[23] 3 [t47_80]) fun t48_81 =>
         Do P (V (binOp .rem 3 t45_78 t48_81)) fun t49_82 =>
         Do P (vBuildSlice 23 0 []) fun t50_83 =>
         Do P (V (Instr.fieldAt 37 p38 0)) fun t51_84 =>
         Do P (V (Instr.loadAt 23 t51_84)) fun t52_85 =>
         Do P (V (Instr.sliceAt 23 t52_85 none (some t49_82) none)) fun t53_87 =>
         Do P (vBuiltin .append #[23, 23] 23 [t50_83, t53_87]) fun t54_88 =>
         Do P (V (Instr.fieldAt 37 p38 0)) fun t55_90 =>
         Do P (V (Instr.loadAt 23 t55_90)) fun t56_91 =>
         Do P (V (binOp .add 3 t49_82 (.int .i64 1))) fun t57_93 =>
         Do P (V (Instr.sliceAt 23 t56_91 (some t57_93) none none)) fun t58_94 =>
         Do P (vBuiltin .append #[23, 23] 23 [t54_88, t58_94]) fun t59_95 =>
         Dr <|
         Qk P (V (Instr.loadAt 27 x11)) fun C60 t60_96 =>
         Qk P (V (Instr.loadAt 30 s22)) fun C61 t61_97 =>
         Qk P (vBuild 41 [(0, t59_95)]) fun C62 t62_100 =>
         Qk P (V (Instr.loadAt 27 x11)) fun C63 t63_102 =>
         Qk P (V (Instr.loadAt 30 s22)) fun C64 t64_103 =>
         Do P (vCall (.func (.func 18) #[] ⟨[]⟩) [t60_96, t61_97, s29, t62_100]) fun t65_101 =>
         With C64 <|
         With C63 <|
         Do P (vCall (.func (.func 19) #[] ⟨[]⟩) [t63_102, t64_103, s29, t59_95]) fun t66_106 =>
         Qk P (V (EqG .neq 4 (.tmp 101) (.tmp 106) t65_101 t66_106)) fun C67 t67_107 =>
         If t67_107 (
          K (.bool false)
         ) (
          k31 ()
         )
        )
       )
      ) fun k34 =>
      Gd j33 true (
       Do P (V (Instr.loadAt 27 x11)) fun t68_62 =>
       Do P (V (Instr.loadAt 30 s22)) fun t69_63 =>
       Do P (vBuild 41 [(0, arg2)]) fun t70_66 =>
       Do P (vCall (.func (.func 18) #[] ⟨[]⟩) [t68_62, t69_63, s29, t70_66]) fun t71_67 =>
       k34 t71_67
      ) (
       k34 (.bool false)
      )
     ) fun k33 =>
     Do P (V (EqG .eql 3 (.tmp 44) (.const (.int .i64 0)) s29 (.int .i64 0))) fun t72_45 =>
     Gd t72_45 true (
      Do P (V (Instr.fieldAt 33 r27 0)) fun t73_47 =>
      Do P (V (Instr.loadAt 3 t73_47)) fun t74_48 =>
      Do P (V (EqG .eql 3 (.tmp 48) (.const (.int .i64 3)) t74_48 (.int .i64 3))) fun t75_49 =>
      Gd t75_49 false (
       Do P (V (EqG .eql 3 (.tmp 52) (.const (.int .i64 1)) s29 (.int .i64 1))) fun t76_53 =>
       Gd t76_53 true (
        Do P (V (Instr.fieldAt 33 r27 0)) fun t77_55 =>
        Do P (V (Instr.loadAt 3 t77_55)) fun t78_56 =>
        Do P (V (EqG .eql 3 (.tmp 56) (.const (.int .i64 1)) t78_56 (.int .i64 1))) fun t79_57 =>
        k33 t79_57
       ) (
        k33 (.bool false)
       )
      ) (
       k33 (.bool true)
      )
     ) (
      Do P (V (EqG .eql 3 (.tmp 52) (.const (.int .i64 1)) s29 (.int .i64 1))) fun t80_53 =>
      Gd t80_53 true (
       Do P (V (Instr.fieldAt 33 r27 0)) fun t81_55 =>
       Do P (V (Instr.loadAt 3 t81_55)) fun t82_56 =>
       Do P (V (EqG .eql 3 (.tmp 56) (.const (.int .i64 1)) t82_56 (.int .i64 1))) fun t83_57 =>
       k33 t83_57
      ) (
       k33 (.bool false)
      )
     )
    ) (
     K t2_16
    )
   ) (.int .i64 0)
  )
def A7 : Ann := .s (.n) (.s (.n) (.s (.s (.n) (.s (.s (.n) (.n)) (.n))) (.s (.n) (.s (.n) (.s (.n) (.s (.s (.n) (.lp [11] 324518553658426726782056509012032 (.s (.s (.n) (.s (.n) (.n))) (.j [] 324518553658426726765563834593344 (.j [12] 1152903912420806656 (.n) (.s (.j [68] 589142888854098804736 (.n) (.s (.s (.n) (.n)) (.n))) (.s (.n) (.s (.s (.n) (.s (.n) (.n))) (.s (.n) (.s (.n) (.s (.n) (.s (.plan [(0, 256, 79228162514264337593543950336), (0, 512, 158456325028528675187087900672), (0, 2048, 316912650057057350374175801344), (0, 32768, 633825300114114700748351602688), (8, 633825300114114700748351602688, 1267650600228229401496703205376), (23, 1822247737828079764651510857728, 2535301200456458802993406410752), (0, 256, 5070602400912917605986812821504), (0, 512, 10141204801825835211973625643008), (0, 2048, 20282409603651670423947251286016), (0, 32768, 40564819207303340847894502572032), (992, 76059036013693764089802192322560, 81129638414606681695789005144064), (1056, 83664939615063140498782411554816, 162259276829213363391578010288128)] (.q 0 (.q 1 (.q 2 (.q 3 (.q 4 (.q 6 (.q 7 (.q 8 (.q 9 (.l 5 (.l 10 (.q 11 .done))))))))))))) (.s (.s (.n) (.n)) (.n)))))))))) (.n))))) (.s (.n) (.n))))))))
set_option maxRecDepth 100000 in
theorem c7 (arg0 arg1 arg2 : Value) (K : Value → WP) (w : World) (h : s7 Try.prog arg0 arg1 arg2 K w) : Runs Try.prog 7 [arg0, arg1, arg2] K w :=
  runs_of_E wide (fn := Try.f7) (c := Try.f7.body.getD .skip) 109 A7 [arg0, arg1, arg2] w K Try.func7 (by kernel_rfl) (by kernel_rfl) (by kernel_rfl) (by kernel_rfl)
    (Eq.mp (by kernel_rfl : s7 Try.prog arg0 arg1 arg2 K w = E Try.prog (Try.f7.body.getD .skip) A7 (topK Try.prog K Try.f7.results) (fun i => (([arg0, arg1, arg2] : List Value)[i]?).getD undef) w) h)
theorem ct7 {arg0 arg1 arg2 : Value} {h : Hp} {post : Hp → Value → Prop} (hg : ∀ w0, Gs w0 h h [] (s7 Try.prog arg0 arg1 arg2 (RetP w0 h post))) : Ct Try.prog 7 [arg0, arg1, arg2] h post := Ct.of (sf := s7 Try.prog arg0 arg1 arg2) (c7 arg0 arg1 arg2) hg
theorem in7 {arg0 arg1 arg2 : Value} {S : WP} {K : Value → WP} (hg : G S (s7 Try.prog arg0 arg1 arg2 K)) : G S (Do Try.prog (vCall (.func (.func 7) #[] ⟨[]⟩) [arg0, arg1, arg2]) K) := Gs.into (args := [arg0, arg1, arg2]) (caps := []) (sf := s7 Try.prog arg0 arg1 arg2) (c7 arg0 arg1 arg2) hg

/- skewer/skewerlaw21.LoopyTurned : names 0 l, 1 n, 2 w, 3 l, 4 n, 5 w, 7 ok, 8 x, 9 y, 10 s, 11 t, 12 a, 13 b, 14 c, 15 d, 16 p, 17 q -/
def s8 (P : Program) (arg0 arg1 arg2 : Value) (K : Value → WP) : WP :=
  Do P (V (Instr.box 51 arg2)) fun w1 =>
  Do P (vCall (.func (.func 11) #[] ⟨[]⟩) []) fun t2_18 =>
  Do P (V (binOp .lss 5 arg1 (.int .u8 200))) fun t3_22 =>
  Do P (vCall (.func (.func 12) #[] ⟨[]⟩) [arg0, arg1, t3_22]) fun t4_23 =>
  Do P (V (Instr.alloc 27 true (.tuple #[]))) fun x5 =>
  Do P (U (Instr.storeAt 27 x5 t4_23)) fun t6_x =>
  Jn (α := Value × Value) (fun j7 => Jk fun _ => -- y s
   Do P (V (Instr.fieldAt 30 j7.2 0)) fun t8_29 =>
   Do P (V (Instr.loadAt 3 t8_29)) fun t9_30 =>
   Do P (V (Instr.fieldAt 30 j7.2 1)) fun t10_31 =>
   Do P (V (Instr.loadAt 3 t10_31)) fun t11_32 =>
   Do P (V (Op.unary .neg t11_32)) fun t12_33 =>
   Do P (V (Instr.fieldAt 30 j7.2 2)) fun t13_34 =>
   Do P (V (Instr.loadAt 3 t13_34)) fun t14_35 =>
   Do P (V (binOp .sub 3 (.int .i64 1) t14_35)) fun t15_36 =>
   Do P (vBuild 30 [(0, t9_30), (1, t12_33), (2, t15_36)]) fun t16_37 =>
   Do P (V (Instr.alloc 30 true (.tuple #[]))) fun t17 =>
   Do P (U (Instr.storeAt 30 t17 t16_37)) fun t18_x =>
   Jn (α := Value × Value) (fun j19 => Jk fun _ => -- a b
    Jn (α := Value) (fun j20 => Jk fun _ => -- t59
     If j20 (
      K (.bool false)
     ) (
      Jn (α := Value × Value) (fun j21 => Jk fun _ => -- c d
       Jn (α := Value) (fun j22 => Jk fun _ => -- t95
        If j22 (
         K (.bool false)
        ) (
         Jn (α := Value × Value) (fun j23 => Jk fun _ => -- p q
          Do P (V (Instr.fieldAt 37 j23.1 1)) fun t24_102 =>
          Do P (V (Instr.loadAt 31 t24_102)) fun t25_103 =>
          Do P (V (Instr.fieldAt 37 j23.2 1)) fun t26_104 =>
          Do P (V (Instr.loadAt 31 t26_104)) fun t27_105 =>
          Do P (V (EqG .eql 31 (.tmp 103) (.tmp 105) t25_103 t27_105)) fun t28_106 =>
          Gd t28_106 true (
           Do P (V (Instr.fieldAt 37 j23.1 0)) fun t29_108 =>
           Do P (V (Instr.loadAt 23 t29_108)) fun t30_109 =>
           Do P (vBuiltin .len #[23] 3 [t30_109]) fun t31_110 =>
           Do P (V (Instr.fieldAt 37 j23.2 0)) fun t32_111 =>
           Do P (V (Instr.loadAt 23 t32_111)) fun t33_112 =>
           Do P (vBuiltin .len #[23] 3 [t33_112]) fun t34_113 =>
           Do P (V (EqG .eql 3 (.tmp 110) (.tmp 113) t31_110 t34_113)) fun t35_114 =>
           Gd t35_114 true (
            K t2_18
           ) (
            K (.bool false)
           )
          ) (
           K (.bool false)
          )
         ) fun k23 =>
         Dr <|
         Qk P (V (Instr.loadAt 27 x5)) fun C36 t36_96 =>
         Qk P (V (Instr.loadAt 30 j7.2)) fun C37 t37_97 =>
         Qk P (V (Instr.loadAt 27 j7.1)) fun C38 t38_99 =>
         Qk P (V (Instr.loadAt 30 t17)) fun C39 t39_100 =>
         Or2 (
          Do P (vCall (.func (.func 16) #[] ⟨[]⟩) [t36_96, t37_97, (.int .i64 0)]) fun t40_98 =>
          With C39 <|
          With C38 <|
          Or2 (
           Do P (vCall (.func (.func 16) #[] ⟨[]⟩) [t38_99, t39_100, (.int .i64 1)]) fun t41_101 =>
           Or2 (
            Do P (V (Instr.alloc 37 true (.tuple #[]))) fun p42 =>
            With C39 <|
            With C38 <|
            With C37 <|
            With C36 <|
            Do P (V (Instr.alloc 37 true (.tuple #[]))) fun q43 =>
            With C39 <|
            With C38 <|
            With C37 <|
            With C36 <|
            Do P (U (Instr.storeAt 37 p42 t40_98)) fun t44_x =>
            Do P (U (Instr.storeAt 37 q43 t41_101)) fun t45_x =>
            k23 (p42, q43)
           ) (
            Do P (V (Instr.alloc 37 true (.tuple #[]))) fun q46 =>
            With C39 <|
            With C38 <|
            With C37 <|
            With C36 <|
            Do P (V (Instr.alloc 37 true (.tuple #[]))) fun p47 =>
            With C39 <|
            With C38 <|
            With C37 <|
            With C36 <|
            Do P (U (Instr.storeAt 37 p47 t40_98)) fun t48_x =>
            Do P (U (Instr.storeAt 37 q46 t41_101)) fun t49_x =>
            k23 (p47, q46)
           )
          ) (
           Or2 (
            Do P (V (Instr.alloc 37 true (.tuple #[]))) fun p50 =>
            With C39 <|
            With C38 <|
            With C37 <|
            With C36 <|
            Or2 (
             Do P (vCall (.func (.func 16) #[] ⟨[]⟩) [t38_99, t39_100, (.int .i64 1)]) fun t51_101 =>
             Do P (V (Instr.alloc 37 true (.tuple #[]))) fun q52 =>
             With C39 <|
             With C38 <|
             With C37 <|
             With C36 <|
             Do P (U (Instr.storeAt 37 p50 t40_98)) fun t53_x =>
             Do P (U (Instr.storeAt 37 q52 t51_101)) fun t54_x =>
             k23 (p50, q52)
            ) (
             Do P (V (Instr.alloc 37 true (.tuple #[]))) fun q55 =>
             With C39 <|
             With C38 <|
             With C37 <|
             With C36 <|
             Do P (vCall (.func (.func 16) #[] ⟨[]⟩) [t38_99, t39_100, (.int .i64 1)]) fun t56_101 =>
             Do P (U (Instr.storeAt 37 p50 t40_98)) fun t57_x =>
             Do P (U (Instr.storeAt 37 q55 t56_101)) fun t58_x =>
             k23 (p50, q55)
            )
           ) (
            Do P (V (Instr.alloc 37 true (.tuple #[]))) fun q59 =>
            With C39 <|
            With C38 <|
            With C37 <|
            With C36 <|
            Or2 (
             Do P (vCall (.func (.func 16) #[] ⟨[]⟩) [t38_99, t39_100, (.int .i64 1)]) fun t60_101 =>
             Do P (V (Instr.alloc 37 true (.tuple #[]))) fun p61 =>
             With C39 <|
             With C38 <|
             With C37 <|
             With C36 <|
             Do P (U (Instr.storeAt 37 p61 t40_98)) fun t62_x =>
             Do P (U (Instr.storeAt 37 q59 t60_101)) fun t63_x =>
             k23 (p61, q59)
            ) (
             Do P (V (Instr.alloc 37 true (.tuple #[]))) fun p64 =>
             With C39 <|
             With C38 <|
             With C37 <|
             With C36 <|
             Do P (vCall (.func (.func 16) #[] ⟨[]⟩) [t38_99, t39_100, (.int .i64 1)]) fun t65_101 =>
             Do P (U (Instr.storeAt 37 p64 t40_98)) fun t66_x =>
             Do P (U (Instr.storeAt 37 q59 t65_101)) fun t67_x =>
             k23 (p64, q59)
            )
           )
          )
         ) (
          Or2 (
           Do P (V (Instr.alloc 37 true (.tuple #[]))) fun p68 =>
           With C39 <|
           With C38 <|
           With C37 <|
           With C36 <|
           Or2 (
            Do P (vCall (.func (.func 16) #[] ⟨[]⟩) [t36_96, t37_97, (.int .i64 0)]) fun t69_98 =>
            With C39 <|
            With C38 <|
            Or2 (
             Do P (vCall (.func (.func 16) #[] ⟨[]⟩) [t38_99, t39_100, (.int .i64 1)]) fun t70_101 =>
             Do P (V (Instr.alloc 37 true (.tuple #[]))) fun q71 =>
             With C39 <|
             With C38 <|
             With C37 <|
             With C36 <|
             Do P (U (Instr.storeAt 37 p68 t69_98)) fun t72_x =>
             Do P (U (Instr.storeAt 37 q71 t70_101)) fun t73_x =>
             k23 (p68, q71)
            ) (
             Do P (V (Instr.alloc 37 true (.tuple #[]))) fun q74 =>
             With C39 <|
             With C38 <|
             With C37 <|
             With C36 <|
             Do P (vCall (.func (.func 16) #[] ⟨[]⟩) [t38_99, t39_100, (.int .i64 1)]) fun t75_101 =>
             Do P (U (Instr.storeAt 37 p68 t69_98)) fun t76_x =>
             Do P (U (Instr.storeAt 37 q74 t75_101)) fun t77_x =>
             k23 (p68, q74)
            )
           ) (
            Do P (V (Instr.alloc 37 true (.tuple #[]))) fun q78 =>
            With C39 <|
            With C38 <|
            With C37 <|
            With C36 <|
            Do P (vCall (.func (.func 16) #[] ⟨[]⟩) [t36_96, t37_97, (.int .i64 0)]) fun t79_98 =>
            With C39 <|
            With C38 <|
            Do P (vCall (.func (.func 16) #[] ⟨[]⟩) [t38_99, t39_100, (.int .i64 1)]) fun t80_101 =>
            Do P (U (Instr.storeAt 37 p68 t79_98)) fun t81_x =>
            Do P (U (Instr.storeAt 37 q78 t80_101)) fun t82_x =>
            k23 (p68, q78)
           )
          ) (
           Do P (V (Instr.alloc 37 true (.tuple #[]))) fun q83 =>
           With C39 <|
           With C38 <|
           With C37 <|
           With C36 <|
           Or2 (
            Do P (vCall (.func (.func 16) #[] ⟨[]⟩) [t36_96, t37_97, (.int .i64 0)]) fun t84_98 =>
            With C39 <|
            With C38 <|
            Or2 (
             Do P (vCall (.func (.func 16) #[] ⟨[]⟩) [t38_99, t39_100, (.int .i64 1)]) fun t85_101 =>
             Do P (V (Instr.alloc 37 true (.tuple #[]))) fun p86 =>
             With C39 <|
             With C38 <|
             With C37 <|
             With C36 <|
             Do P (U (Instr.storeAt 37 p86 t84_98)) fun t87_x =>
             Do P (U (Instr.storeAt 37 q83 t85_101)) fun t88_x =>
             k23 (p86, q83)
            ) (
             Do P (V (Instr.alloc 37 true (.tuple #[]))) fun p89 =>
             With C39 <|
             With C38 <|
             With C37 <|
             With C36 <|
             Do P (vCall (.func (.func 16) #[] ⟨[]⟩) [t38_99, t39_100, (.int .i64 1)]) fun t90_101 =>
             Do P (U (Instr.storeAt 37 p89 t84_98)) fun t91_x =>
             Do P (U (Instr.storeAt 37 q83 t90_101)) fun t92_x =>
             k23 (p89, q83)
            )
           ) (
            Do P (V (Instr.alloc 37 true (.tuple #[]))) fun p93 =>
            With C39 <|
            With C38 <|
            With C37 <|
            With C36 <|
            Do P (vCall (.func (.func 16) #[] ⟨[]⟩) [t36_96, t37_97, (.int .i64 0)]) fun t94_98 =>
            With C39 <|
            With C38 <|
            Do P (vCall (.func (.func 16) #[] ⟨[]⟩) [t38_99, t39_100, (.int .i64 1)]) fun t95_101 =>
            Do P (U (Instr.storeAt 37 p93 t94_98)) fun t96_x =>
            Do P (U (Instr.storeAt 37 q83 t95_101)) fun t97_x =>
            k23 (p93, q83)
           )
          )
         )
        )
       ) fun k22 =>
       Do P (V (Instr.fieldAt 46 j21.1 1)) fun t98_68 =>
       Do P (V (Instr.loadAt 31 t98_68)) fun t99_69 =>
       Do P (V (EqG .neq 31 (.tmp 69) (.const (.int .i64 0)) t99_69 (.int .i64 0))) fun t100_70 =>
       Gd t100_70 false (
        Do P (V (Instr.fieldAt 46 j21.2 1)) fun t101_72 =>
        Do P (V (Instr.loadAt 31 t101_72)) fun t102_73 =>
        Do P (V (EqG .neq 31 (.tmp 73) (.const (.int .i64 0)) t102_73 (.int .i64 0))) fun t103_74 =>
        Gd t103_74 false (
         Do P (V (Instr.fieldAt 46 j21.1 0)) fun t104_77 =>
         Do P (V (Instr.fieldAt 44 t104_77 0)) fun t105_78 =>
         Do P (V (Instr.loadAt 3 t105_78)) fun t106_79 =>
         Do P (V (Instr.fieldAt 46 j21.2 0)) fun t107_80 =>
         Do P (V (Instr.fieldAt 44 t107_80 1)) fun t108_81 =>
         Do P (V (Instr.loadAt 3 t108_81)) fun t109_82 =>
         Do P (V (Op.unary .neg t109_82)) fun t110_83 =>
         Do P (V (EqG .neq 3 (.tmp 79) (.tmp 83) t106_79 t110_83)) fun t111_84 =>
         Gd t111_84 false (
          Do P (V (Instr.fieldAt 46 j21.1 0)) fun t112_87 =>
          Do P (V (Instr.fieldAt 44 t112_87 1)) fun t113_88 =>
          Do P (V (Instr.loadAt 3 t113_88)) fun t114_89 =>
          Do P (V (Instr.fieldAt 46 j21.2 0)) fun t115_90 =>
          Do P (V (Instr.fieldAt 44 t115_90 0)) fun t116_91 =>
          Do P (V (Instr.loadAt 3 t116_91)) fun t117_92 =>
          Do P (V (Op.unary .neg t117_92)) fun t118_93 =>
          Do P (V (EqG .neq 3 (.tmp 89) (.tmp 93) t114_89 t118_93)) fun t119_94 =>
          k22 t119_94
         ) (
          k22 (.bool true)
         )
        ) (
         k22 (.bool true)
        )
       ) (
        k22 (.bool true)
       )
      ) fun k21 =>
      Dr <|
      Qk P (V (Instr.loadAt 27 x5)) fun C120 t120_60 =>
      Qk P (V (Instr.fieldAt 30 j7.2 0)) fun C121 t121_61 =>
      Qk P (V (Instr.loadAt 3 t121_61)) fun C122 t122_62 =>
      Qk P (V (Instr.loadAt 27 j7.1)) fun C123 t123_64 =>
      Qk P (V (Instr.fieldAt 30 j7.2 0)) fun C124 t124_65 =>
      Qk P (V (Instr.loadAt 3 t124_65)) fun C125 t125_66 =>
      Or2 (
       Do P (vCall (.func (.func 20) #[] ⟨[]⟩) [t120_60, t122_62]) fun t126_63 =>
       With C125 <|
       With C124 <|
       With C123 <|
       Or2 (
        Do P (vCall (.func (.func 20) #[] ⟨[]⟩) [t123_64, t125_66]) fun t127_67 =>
        Or2 (
         Do P (V (Instr.alloc 46 true (.tuple #[]))) fun c128 =>
         With C125 <|
         With C124 <|
         With C123 <|
         With C122 <|
         With C121 <|
         With C120 <|
         Do P (V (Instr.alloc 46 true (.tuple #[]))) fun d129 =>
         With C125 <|
         With C124 <|
         With C123 <|
         With C122 <|
         With C121 <|
         With C120 <|
         Do P (U (Instr.storeAt 46 c128 t126_63)) fun t130_x =>
         Do P (U (Instr.storeAt 46 d129 t127_67)) fun t131_x =>
         k21 (c128, d129)
        ) (
         Do P (V (Instr.alloc 46 true (.tuple #[]))) fun d132 =>
         With C125 <|
         With C124 <|
         With C123 <|
         With C122 <|
         With C121 <|
         With C120 <|
         Do P (V (Instr.alloc 46 true (.tuple #[]))) fun c133 =>
         With C125 <|
         With C124 <|
         With C123 <|
         With C122 <|
         With C121 <|
         With C120 <|
         Do P (U (Instr.storeAt 46 c133 t126_63)) fun t134_x =>
         Do P (U (Instr.storeAt 46 d132 t127_67)) fun t135_x =>
         k21 (c133, d132)
        )
       ) (
        Or2 (
         Do P (V (Instr.alloc 46 true (.tuple #[]))) fun c136 =>
         With C125 <|
         With C124 <|
         With C123 <|
         With C122 <|
         With C121 <|
         With C120 <|
         Or2 (
          Do P (vCall (.func (.func 20) #[] ⟨[]⟩) [t123_64, t125_66]) fun t137_67 =>
          Do P (V (Instr.alloc 46 true (.tuple #[]))) fun d138 =>
          With C125 <|
          With C124 <|
          With C123 <|
          With C122 <|
          With C121 <|
          With C120 <|
          Do P (U (Instr.storeAt 46 c136 t126_63)) fun t139_x =>
          Do P (U (Instr.storeAt 46 d138 t137_67)) fun t140_x =>
          k21 (c136, d138)
         ) (
          Do P (V (Instr.alloc 46 true (.tuple #[]))) fun d141 =>
          With C125 <|
          With C124 <|
          With C123 <|
          With C122 <|
          With C121 <|
          With C120 <|
          Do P (vCall (.func (.func 20) #[] ⟨[]⟩) [t123_64, t125_66]) fun t142_67 =>
          Do P (U (Instr.storeAt 46 c136 t126_63)) fun t143_x =>
          Do P (U (Instr.storeAt 46 d141 t142_67)) fun t144_x =>
          k21 (c136, d141)
         )
        ) (
         Do P (V (Instr.alloc 46 true (.tuple #[]))) fun d145 =>
         With C125 <|
         With C124 <|
         With C123 <|
         With C122 <|
         With C121 <|
         With C120 <|
         Or2 (
          Do P (vCall (.func (.func 20) #[] ⟨[]⟩) [t123_64, t125_66]) fun t146_67 =>
          Do P (V (Instr.alloc 46 true (.tuple #[]))) fun c147 =>
          With C125 <|
          With C124 <|
          With C123 <|
          With C122 <|
          With C121 <|
          With C120 <|
          Do P (U (Instr.storeAt 46 c147 t126_63)) fun t148_x =>
          Do P (U (Instr.storeAt 46 d145 t146_67)) fun t149_x =>
          k21 (c147, d145)
         ) (
          Do P (V (Instr.alloc 46 true (.tuple #[]))) fun c150 =>
          With C125 <|
          With C124 <|
          With C123 <|
          With C122 <|
          With C121 <|
          With C120 <|
          Do P (vCall (.func (.func 20) #[] ⟨[]⟩) [t123_64, t125_66]) fun t151_67 =>
          Do P (U (Instr.storeAt 46 c150 t126_63)) fun t152_x =>
          Do P (U (Instr.storeAt 46 d145 t151_67)) fun t153_x =>
          k21 (c150, d145)
         )
        )
       )
      ) (
       Or2 (
        Do P (V (Instr.alloc 46 true (.tuple #[]))) fun c154 =>
        With C125 <|
        With C124 <|
        With C123 <|
        With C122 <|
        With C121 <|
        With C120 <|
        Or2 (
         Do P (vCall (.func (.func 20) #[] ⟨[]⟩) [t120_60, t122_62]) fun t155_63 =>
         With C125 <|
         With C124 <|
         With C123 <|
         Or2 (
          Do P (vCall (.func (.func 20) #[] ⟨[]⟩) [t123_64, t125_66]) fun t156_67 =>
          Do P (V (Instr.alloc 46 true (.tuple #[]))) fun d157 =>
          With C125 <|
          With C124 <|
          With C123 <|
          With C122 <|
          With C121 <|
          With C120 <|
          Do P (U (Instr.storeAt 46 c154 t155_63)) fun t158_x =>
          Do P (U (Instr.storeAt 46 d157 t156_67)) fun t159_x =>
          k21 (c154, d157)
         ) (
          Do P (V (Instr.alloc 46 true (.tuple #[]))) fun d160 =>
          With C125 <|
          With C124 <|
          With C123 <|
          With C122 <|
          With C121 <|
          With C120 <|
          Do P (vCall (.func (.func 20) #[] ⟨[]⟩) [t123_64, t125_66]) fun t161_67 =>
          Do P (U (Instr.storeAt 46 c154 t155_63)) fun t162_x =>
          Do P (U (Instr.storeAt 46 d160 t161_67)) fun t163_x =>
          k21 (c154, d160)
         )
        ) (
         Do P (V (Instr.alloc 46 true (.tuple #[]))) fun d164 =>
         With C125 <|
         With C124 <|
         With C123 <|
         With C122 <|
         With C121 <|
         With C120 <|
         Do P (vCall (.func (.func 20) #[] ⟨[]⟩) [t120_60, t122_62]) fun t165_63 =>
         With C125 <|
         With C124 <|
         With C123 <|
         Do P (vCall (.func (.func 20) #[] ⟨[]⟩) [t123_64, t125_66]) fun t166_67 =>
         Do P (U (Instr.storeAt 46 c154 t165_63)) fun t167_x =>
         Do P (U (Instr.storeAt 46 d164 t166_67)) fun t168_x =>
         k21 (c154, d164)
        )
       ) (
        Do P (V (Instr.alloc 46 true (.tuple #[]))) fun d169 =>
        With C125 <|
        With C124 <|
        With C123 <|
        With C122 <|
        With C121 <|
        With C120 <|
        Or2 (
         Do P (vCall (.func (.func 20) #[] ⟨[]⟩) [t120_60, t122_62]) fun t170_63 =>
         With C125 <|
         With C124 <|
         With C123 <|
         Or2 (
          Do P (vCall (.func (.func 20) #[] ⟨[]⟩) [t123_64, t125_66]) fun t171_67 =>
          Do P (V (Instr.alloc 46 true (.tuple #[]))) fun c172 =>
          With C125 <|
          With C124 <|
          With C123 <|
          With C122 <|
          With C121 <|
          With C120 <|
          Do P (U (Instr.storeAt 46 c172 t170_63)) fun t173_x =>
          Do P (U (Instr.storeAt 46 d169 t171_67)) fun t174_x =>
          k21 (c172, d169)
         ) (
          Do P (V (Instr.alloc 46 true (.tuple #[]))) fun c175 =>
          With C125 <|
          With C124 <|
          With C123 <|
          With C122 <|
          With C121 <|
          With C120 <|
          Do P (vCall (.func (.func 20) #[] ⟨[]⟩) [t123_64, t125_66]) fun t176_67 =>
          Do P (U (Instr.storeAt 46 c175 t170_63)) fun t177_x =>
          Do P (U (Instr.storeAt 46 d169 t176_67)) fun t178_x =>
          k21 (c175, d169)
         )
        ) (
         Do P (V (Instr.alloc 46 true (.tuple #[]))) fun c179 =>
         With C125 <|
         With C124 <|
         With C123 <|
         With C122 <|
         With C121 <|
         With C120 <|
         Do P (vCall (.func (.func 20) #[] ⟨[]⟩) [t120_60, t122_62]) fun t180_63 =>
         With C125 <|
         With C124 <|
         With C123 <|
         Do P (vCall (.func (.func 20) #[] ⟨[]⟩) [t123_64, t125_66]) fun t181_67 =>
         Do P (U (Instr.storeAt 46 c179 t180_63)) fun t182_x =>
         Do P (U (Instr.storeAt 46 d169 t181_67)) fun t183_x =>
         k21 (c179, d169)
        )
       )
      )
     )
    ) fun k20 =>
    Do P (V (Instr.fieldAt 33 j19.1 1)) fun t184_44 =>
    Do P (V (Instr.loadAt 31 t184_44)) fun t185_45 =>
    Do P (V (EqG .neq 31 (.tmp 45) (.const (.int .i64 0)) t185_45 (.int .i64 0))) fun t186_46 =>
    Gd t186_46 false (
     Do P (V (Instr.fieldAt 33 j19.2 1)) fun t187_48 =>
     Do P (V (Instr.loadAt 31 t187_48)) fun t188_49 =>
     Do P (V (EqG .neq 31 (.tmp 49) (.const (.int .i64 0)) t188_49 (.int .i64 0))) fun t189_50 =>
     Gd t189_50 false (
      Do P (V (Instr.fieldAt 33 j19.1 0)) fun t190_53 =>
      Do P (V (Instr.loadAt 3 t190_53)) fun t191_54 =>
      Do P (V (Instr.fieldAt 33 j19.2 0)) fun t192_55 =>
      Do P (V (Instr.loadAt 3 t192_55)) fun t193_56 =>
      Do P (V (binOp .add 3 t191_54 t193_56)) fun t194_57 =>
      Do P (V (EqG .neq 3 (.tmp 57) (.const (.int .i64 4)) t194_57 (.int .i64 4))) fun t195_58 =>
      k20 t195_58
     ) (
      k20 (.bool true)
     )
    ) (
     k20 (.bool true)
    )
   ) fun k19 =>
   Dr <|
   Qk P (V (Instr.loadAt 27 x5)) fun C196 t196_38 =>
   Qk P (V (Instr.loadAt 30 j7.2)) fun C197 t197_39 =>
   Qk P (V (Instr.loadAt 27 j7.1)) fun C198 t198_41 =>
   Qk P (V (Instr.loadAt 30 t17)) fun C199 t199_42 =>
   Or2 (
    Do P (vCall (.func (.func 13) #[] ⟨[]⟩) [t196_38, t197_39]) fun t200_40 =>
    With C199 <|
    With C198 <|
    Or2 (
     Do P (vCall (.func (.func 13) #[] ⟨[]⟩) [t198_41, t199_42]) fun t201_43 =>
     Or2 (
      Do P (V (Instr.alloc 33 true (.tuple #[]))) fun a202 =>
      With C199 <|
      With C198 <|
      With C197 <|
      With C196 <|
      Do P (V (Instr.alloc 33 true (.tuple #[]))) fun b203 =>
      With C199 <|
      With C198 <|
      With C197 <|
      With C196 <|
      Do P (U (Instr.storeAt 33 a202 t200_40)) fun t204_x =>
      Do P (U (Instr.storeAt 33 b203 t201_43)) fun t205_x =>
      k19 (a202, b203)
     ) (
      Do P (V (Instr.alloc 33 true (.tuple #[]))) fun b206 =>
      With C199 <|
      With C198 <|
      With C197 <|
      With C196 <|
      Do P (V (Instr.alloc 33 true (.tuple #[]))) fun a207 =>
      With C199 <|
      With C198 <|
      With C197 <|
      With C196 <|
      Do P (U (Instr.storeAt 33 a207 t200_40)) fun t208_x =>
      Do P (U (Instr.storeAt 33 b206 t201_43)) fun t209_x =>
      k19 (a207, b206)
     )
    ) (
     Or2 (
      Do P (V (Instr.alloc 33 true (.tuple #[]))) fun a210 =>
      With C199 <|
      With C198 <|
      With C197 <|
      With C196 <|
      Or2 (
       Do P (vCall (.func (.func 13) #[] ⟨[]⟩) [t198_41, t199_42]) fun t211_43 =>
       Do P (V (Instr.alloc 33 true (.tuple #[]))) fun b212 =>
       With C199 <|
       With C198 <|
       With C197 <|
       With C196 <|
       Do P (U (Instr.storeAt 33 a210 t200_40)) fun t213_x =>
       Do P (U (Instr.storeAt 33 b212 t211_43)) fun t214_x =>
       k19 (a210, b212)
      ) (
       Do P (V (Instr.alloc 33 true (.tuple #[]))) fun b215 =>
       With C199 <|
       With C198 <|
       With C197 <|
       With C196 <|
       Do P (vCall (.func (.func 13) #[] ⟨[]⟩) [t198_41, t199_42]) fun t216_43 =>
       Do P (U (Instr.storeAt 33 a210 t200_40)) fun t217_x =>
       Do P (U (Instr.storeAt 33 b215 t216_43)) fun t218_x =>
       k19 (a210, b215)
      )
     ) (
      Do P (V (Instr.alloc 33 true (.tuple #[]))) fun b219 =>
      With C199 <|
      With C198 <|
      With C197 <|
      With C196 <|
      Or2 (
       Do P (vCall (.func (.func 13) #[] ⟨[]⟩) [t198_41, t199_42]) fun t220_43 =>
       Do P (V (Instr.alloc 33 true (.tuple #[]))) fun a221 =>
       With C199 <|
       With C198 <|
       With C197 <|
       With C196 <|
       Do P (U (Instr.storeAt 33 a221 t200_40)) fun t222_x =>
       Do P (U (Instr.storeAt 33 b219 t220_43)) fun t223_x =>
       k19 (a221, b219)
      ) (
       Do P (V (Instr.alloc 33 true (.tuple #[]))) fun a224 =>
       With C199 <|
       With C198 <|
       With C197 <|
       With C196 <|
       Do P (vCall (.func (.func 13) #[] ⟨[]⟩) [t198_41, t199_42]) fun t225_43 =>
       Do P (U (Instr.storeAt 33 a224 t200_40)) fun t226_x =>
       Do P (U (Instr.storeAt 33 b219 t225_43)) fun t227_x =>
       k19 (a224, b219)
      )
     )
    )
   ) (
    Or2 (
     Do P (V (Instr.alloc 33 true (.tuple #[]))) fun a228 =>
     With C199 <|
     With C198 <|
     With C197 <|
     With C196 <|
     Or2 (
      Do P (vCall (.func (.func 13) #[] ⟨[]⟩) [t196_38, t197_39]) fun t229_40 =>
      With C199 <|
      With C198 <|
      Or2 (
       Do P (vCall (.func (.func 13) #[] ⟨[]⟩) [t198_41, t199_42]) fun t230_43 =>
       Do P (V (Instr.alloc 33 true (.tuple #[]))) fun b231 =>
       With C199 <|
       With C198 <|
       With C197 <|
       With C196 <|
       Do P (U (Instr.storeAt 33 a228 t229_40)) fun t232_x =>
       Do P (U (Instr.storeAt 33 b231 t230_43)) fun t233_x =>
       k19 (a228, b231)
      ) (
       Do P (V (Instr.alloc 33 true (.tuple #[]))) fun b234 =>
       With C199 <|
       With C198 <|
       With C197 <|
       With C196 <|
       Do P (vCall (.func (.func 13) #[] ⟨[]⟩) [t198_41, t199_42]) fun t235_43 =>
       Do P (U (Instr.storeAt 33 a228 t229_40)) fun t236_x =>
       Do P (U (Instr.storeAt 33 b234 t235_43)) fun t237_x =>
       k19 (a228, b234)
      )
     ) (
      Do P (V (Instr.alloc 33 true (.tuple #[]))) fun b238 =>
      With C199 <|
      With C198 <|
      With C197 <|
      With C196 <|
      Do P (vCall (.func (.func 13) #[] ⟨[]⟩) [t196_38, t197_39]) fun t239_40 =>
      With C199 <|
      With C198 <|
      Do P (vCall (.func (.func 13) #[] ⟨[]⟩) [t198_41, t199_42]) fun t240_43 =>
      Do P (U (Instr.storeAt 33 a228 t239_40)) fun t241_x =>
      Do P (U (Instr.storeAt 33 b238 t240_43)) fun t242_x =>
      k19 (a228, b238)
     )
    ) (
     Do P (V (Instr.alloc 33 true (.tuple #[]))) fun b243 =>
     With C199 <|
     With C198 <|
     With C197 <|
     With C196 <|
     Or2 (
      Do P (vCall (.func (.func 13) #[] ⟨[]⟩) [t196_38, t197_39]) fun t244_40 =>
      With C199 <|
      With C198 <|
      Or2 (
       Do P (vCall (.func (.func 13) #[] ⟨[]⟩) [t198_41, t199_42]) fun t245_43 =>
       Do P (V (Instr.alloc 33 true (.tuple #[]))) fun a246 =>
       With C199 <|
       With C198 <|
       With C197 <|
       With C196 <|
       Do P (U (Instr.storeAt 33 a246 t244_40)) fun t247_x =>
       Do P (U (Instr.storeAt 33 b243 t245_43)) fun t248_x =>
       k19 (a246, b243)
      ) (
       Do P (V (Instr.alloc 33 true (.tuple #[]))) fun a249 =>
       With C199 <|
       With C198 <|
       With C197 <|
       With C196 <|
       Do P (vCall (.func (.func 13) #[] ⟨[]⟩) [t198_41, t199_42]) fun t250_43 =>
       Do P (U (Instr.storeAt 33 a249 t244_40)) fun t251_x =>
       Do P (U (Instr.storeAt 33 b243 t250_43)) fun t252_x =>
       k19 (a249, b243)
      )
     ) (
      Do P (V (Instr.alloc 33 true (.tuple #[]))) fun a253 =>
      With C199 <|
      With C198 <|
      With C197 <|
      With C196 <|
      Do P (vCall (.func (.func 13) #[] ⟨[]⟩) [t196_38, t197_39]) fun t254_40 =>
      With C199 <|
      With C198 <|
      Do P (vCall (.func (.func 13) #[] ⟨[]⟩) [t198_41, t199_42]) fun t255_43 =>
      Do P (U (Instr.storeAt 33 a253 t254_40)) fun t256_x =>
      Do P (U (Instr.storeAt 33 b243 t255_43)) fun t257_x =>
      k19 (a253, b243)
     )
    )
   )
  ) fun k7 =>
  Dr <|
  Qk P (V (Instr.loadAt 27 x5)) fun C258 t258_24 =>
  Qk P (V (Instr.loadAt 27 x5)) fun C259 t259_26 =>
  Qk P (V (Instr.loadAt 51 w1)) fun C260 t260_27 =>
  Or2 (
   Do P (vCall (.func (.func 27) #[] ⟨[]⟩) [t258_24]) fun t261_25 =>
   With C260 <|
   With C259 <|
   Or2 (
    Do P (vCall (.func (.func 24) #[] ⟨[]⟩) [t259_26, t260_27]) fun t262_28 =>
    Or2 (
     Do P (V (Instr.alloc 27 true (.tuple #[]))) fun y263 =>
     With C260 <|
     With C259 <|
     With C258 <|
     Do P (V (Instr.alloc 30 true (.tuple #[]))) fun s264 =>
     With C260 <|
     With C259 <|
     With C258 <|
     Do P (U (Instr.storeAt 27 y263 t261_25)) fun t265_x =>
     Do P (U (Instr.storeAt 30 s264 t262_28)) fun t266_x =>
     k7 (y263, s264)
    ) (
     Do P (V (Instr.alloc 30 true (.tuple #[]))) fun s267 =>
     With C260 <|
     With C259 <|
     With C258 <|
     Do P (V (Instr.alloc 27 true (.tuple #[]))) fun y268 =>
     With C260 <|
     With C259 <|
     With C258 <|
     Do P (U (Instr.storeAt 27 y268 t261_25)) fun t269_x =>
     Do P (U (Instr.storeAt 30 s267 t262_28)) fun t270_x =>
     k7 (y268, s267)
    )
   ) (
    Or2 (
     Do P (V (Instr.alloc 27 true (.tuple #[]))) fun y271 =>
     With C260 <|
     With C259 <|
     With C258 <|
     Or2 (
      Do P (vCall (.func (.func 24) #[] ⟨[]⟩) [t259_26, t260_27]) fun t272_28 =>
      Do P (V (Instr.alloc 30 true (.tuple #[]))) fun s273 =>
      With C260 <|
      With C259 <|
      With C258 <|
      Do P (U (Instr.storeAt 27 y271 t261_25)) fun t274_x =>
      Do P (U (Instr.storeAt 30 s273 t272_28)) fun t275_x =>
      k7 (y271, s273)
     ) (
      Do P (V (Instr.alloc 30 true (.tuple #[]))) fun s276 =>
      With C260 <|
      With C259 <|
      With C258 <|
      Do P (vCall (.func (.func 24) #[] ⟨[]⟩) [t259_26, t260_27]) fun t277_28 =>
      Do P (U (Instr.storeAt 27 y271 t261_25)) fun t278_x =>
      Do P (U (Instr.storeAt 30 s276 t277_28)) fun t279_x =>
      k7 (y271, s276)
     )
    ) (
     Do P (V (Instr.alloc 30 true (.tuple #[]))) fun s280 =>
     With C260 <|
     With C259 <|
     With C258 <|
     Or2 (
      Do P (vCall (.func (.func 24) #[] ⟨[]⟩) [t259_26, t260_27]) fun t281_28 =>
      Do P (V (Instr.alloc 27 true (.tuple #[]))) fun y282 =>
      With C260 <|
      With C259 <|
      With C258 <|
      Do P (U (Instr.storeAt 27 y282 t261_25)) fun t283_x =>
      Do P (U (Instr.storeAt 30 s280 t281_28)) fun t284_x =>
      k7 (y282, s280)
     ) (
      Do P (V (Instr.alloc 27 true (.tuple #[]))) fun y285 =>
      With C260 <|
      With C259 <|
      With C258 <|
      Do P (vCall (.func (.func 24) #[] ⟨[]⟩) [t259_26, t260_27]) fun t286_28 =>
      Do P (U (Instr.storeAt 27 y285 t261_25)) fun t287_x =>
      Do P (U (Instr.storeAt 30 s280 t286_28)) fun t288_x =>
      k7 (y285, s280)
     )
    )
   )
  ) (
   Or2 (
    Do P (V (Instr.alloc 27 true (.tuple #[]))) fun y289 =>
    With C260 <|
    With C259 <|
    With C258 <|
    Or2 (
     Do P (vCall (.func (.func 27) #[] ⟨[]⟩) [t258_24]) fun t290_25 =>
     With C260 <|
     With C259 <|
     Or2 (
      Do P (vCall (.func (.func 24) #[] ⟨[]⟩) [t259_26, t260_27]) fun t291_28 =>
      Do P (V (Instr.alloc 30 true (.tuple #[]))) fun s292 =>
      With C260 <|
      With C259 <|
      With C258 <|
      Do P (U (Instr.storeAt 27 y289 t290_25)) fun t293_x =>
      Do P (U (Instr.storeAt 30 s292 t291_28)) fun t294_x =>
      k7 (y289, s292)
     ) (
      Do P (V (Instr.alloc 30 true (.tuple #[]))) fun s295 =>
      With C260 <|
      With C259 <|
      With C258 <|
      Do P (vCall (.func (.func 24) #[] ⟨[]⟩) [t259_26, t260_27]) fun t296_28 =>
      Do P (U (Instr.storeAt 27 y289 t290_25)) fun t297_x =>
      Do P (U (Instr.storeAt 30 s295 t296_28)) fun t298_x =>
      k7 (y289, s295)
     )
    ) (
     Do P (V (Instr.alloc 30 true (.tuple #[]))) fun s299 =>
     With C260 <|
     With C259 <|
     With C258 <|
     Do P (vCall (.func (.func 27) #[] ⟨[]⟩) [t258_24]) fun t300_25 =>
     With C260 <|
     With C259 <|
     Do P (vCall (.func (.func 24) #[] ⟨[]⟩) [t259_26, t260_27]) fun t301_28 =>
     Do P (U (Instr.storeAt 27 y289 t300_25)) fun t302_x =>
     Do P (U (Instr.storeAt 30 s299 t301_28)) fun t303_x =>
     k7 (y289, s299)
    )
   ) (
    Do P (V (Instr.alloc 30 true (.tuple #[]))) fun s304 =>
    With C260 <|
    With C259 <|
    With C258 <|
    Or2 (
     Do P (vCall (.func (.func 27) #[] ⟨[]⟩) [t258_24]) fun t305_25 =>
     With C260 <|
     With C259 <|
     Or2 (
      Do P (vCall (.func (.func 24) #[] ⟨[]⟩) [t259_26, t260_27]) fun t306_28 =>
      Do P (V (Instr.alloc 27 true (.tuple #[]))) fun y307 =>
      With C260 <|
      With C259 <|
      With C258 <|
      Do P (U (Instr.storeAt 27 y307 t305_25)) fun t308_x =>
      Do P (U (Instr.storeAt 30 s304 t306_28)) fun t309_x =>
      k7 (y307, s304)
     ) (
      Do P (V (Instr.alloc 27 true (.tuple #[]))) fun y310 =>
      With C260 <|
      With C259 <|
      With C258 <|
      Do P (vCall (.func (.func 24) #[] ⟨[]⟩) [t259_26, t260_27]) fun t311_28 =>
      Do P (U (Instr.storeAt 27 y310 t305_25)) fun t312_x =>
      Do P (U (Instr.storeAt 30 s304 t311_28)) fun t313_x =>
      k7 (y310, s304)
     )
    ) (
     Do P (V (Instr.alloc 27 true (.tuple #[]))) fun y314 =>
     With C260 <|
     With C259 <|
     With C258 <|
     Do P (vCall (.func (.func 27) #[] ⟨[]⟩) [t258_24]) fun t315_25 =>
     With C260 <|
     With C259 <|
     Do P (vCall (.func (.func 24) #[] ⟨[]⟩) [t259_26, t260_27]) fun t316_28 =>
     Do P (U (Instr.storeAt 27 y314 t315_25)) fun t317_x =>
     Do P (U (Instr.storeAt 30 s304 t316_28)) fun t318_x =>
     k7 (y314, s304)
    )
   )
  )
def A8 : Ann := .s (.n) (.s (.n) (.s (.n) (.j [9, 10] 520095232 (.plan [(0, 256, 16777216), (1, 16777216, 33554432), (0, 256, 67108864), (0, 32, 134217728), (14, 201326592, 268435456), (0, 0, 512), (0, 0, 1024), (115, 33554944, 0), (255, 268436480, 0)] (.q 0 (.q 2 (.q 3 (.or (.l 1 (.or (.l 4 (.or (.l 5 (.l 6 (.l 7 (.l 8 .done)))) (.l 6 (.l 5 (.l 7 (.l 8 .done)))))) (.or (.l 5 (.or (.l 4 (.l 6 (.l 7 (.l 8 .done)))) (.l 6 (.l 4 (.l 7 (.l 8 .done)))))) (.l 6 (.or (.l 4 (.l 5 (.l 7 (.l 8 .done)))) (.l 5 (.l 4 (.l 7 (.l 8 .done))))))))) (.or (.l 5 (.or (.l 1 (.or (.l 4 (.l 6 (.l 7 (.l 8 .done)))) (.l 6 (.l 4 (.l 7 (.l 8 .done)))))) (.l 6 (.l 1 (.l 4 (.l 7 (.l 8 .done))))))) (.l 6 (.or (.l 1 (.or (.l 4 (.l 5 (.l 7 (.l 8 .done)))) (.l 5 (.l 4 (.l 7 (.l 8 .done)))))) (.l 5 (.l 1 (.l 4 (.l 7 (.l 8 .done))))))))))))) (.s (.n) (.j [12, 13] 17317308149760 (.plan [(0, 256, 274877906944), (0, 1024, 549755813888), (3, 824633720832, 1099511627776), (0, 512, 2199023255552), (0, 2048, 4398046511104), (28, 6597069766656, 8796093022208), (0, 0, 4096), (0, 0, 8192), (231, 1099511631872, 0), (511, 8796093030400, 0)] (.q 0 (.q 1 (.q 3 (.q 4 (.or (.l 2 (.or (.l 5 (.or (.l 6 (.l 7 (.l 8 (.l 9 .done)))) (.l 7 (.l 6 (.l 8 (.l 9 .done)))))) (.or (.l 6 (.or (.l 5 (.l 7 (.l 8 (.l 9 .done)))) (.l 7 (.l 5 (.l 8 (.l 9 .done)))))) (.l 7 (.or (.l 5 (.l 6 (.l 8 (.l 9 .done)))) (.l 6 (.l 5 (.l 8 (.l 9 .done))))))))) (.or (.l 6 (.or (.l 2 (.or (.l 5 (.l 7 (.l 8 (.l 9 .done)))) (.l 7 (.l 5 (.l 8 (.l 9 .done)))))) (.l 7 (.l 2 (.l 5 (.l 8 (.l 9 .done))))))) (.l 7 (.or (.l 2 (.or (.l 5 (.l 6 (.l 8 (.l 9 .done)))) (.l 6 (.l 5 (.l 8 (.l 9 .done)))))) (.l 6 (.l 2 (.l 5 (.l 8 (.l 9 .done)))))))))))))) (.s (.j [59] 1152903912420802560 (.n) (.s (.s (.n) (.n)) (.n))) (.j [14, 15] 293994983674746028032 (.plan [(0, 256, 1152921504606846976), (0, 1024, 2305843009213693952), (2, 2305843009213693952, 4611686018427387904), (5, 5764607523034234880, 9223372036854775808), (0, 512, 18446744073709551616), (0, 1024, 36893488147419103232), (32, 36893488147419103232, 73786976294838206464), (88, 92233720368547758080, 147573952589676412928), (0, 0, 16384), (0, 0, 32768), (911, 9223372036854792192, 0), (2047, 147573952589676445696, 0)] (.q 0 (.q 1 (.q 2 (.q 4 (.q 5 (.q 6 (.or (.l 3 (.or (.l 7 (.or (.l 8 (.l 9 (.l 10 (.l 11 .done)))) (.l 9 (.l 8 (.l 10 (.l 11 .done)))))) (.or (.l 8 (.or (.l 7 (.l 9 (.l 10 (.l 11 .done)))) (.l 9 (.l 7 (.l 10 (.l 11 .done)))))) (.l 9 (.or (.l 7 (.l 8 (.l 10 (.l 11 .done)))) (.l 8 (.l 7 (.l 10 (.l 11 .done))))))))) (.or (.l 8 (.or (.l 3 (.or (.l 7 (.l 9 (.l 10 (.l 11 .done)))) (.l 9 (.l 7 (.l 10 (.l 11 .done)))))) (.l 9 (.l 3 (.l 7 (.l 10 (.l 11 .done))))))) (.l 9 (.or (.l 3 (.or (.l 7 (.l 8 (.l 10 (.l 11 .done)))) (.l 8 (.l 7 (.l 10 (.l 11 .done)))))) (.l 8 (.l 3 (.l 7 (.l 10 (.l 11 .done)))))))))))))))) (.s (.j [95] 79228162219116432414191124480 (.n) (.s (.s (.n) (.n)) (.n))) (.j [16, 17] 4991374238398653268393269067776 (.plan [(0, 256, 79228162514264337593543950336), (0, 1024, 158456325028528675187087900672), (3, 237684487542793012780631851008, 316912650057057350374175801344), (0, 512, 633825300114114700748351602688), (0, 2048, 1267650600228229401496703205376), (28, 1901475900342344102245054808064, 2535301200456458802993406410752), (0, 0, 65536), (0, 0, 131072), (231, 316912650057057350374175866880, 0), (511, 2535301200456458802993406541824, 0)] (.q 0 (.q 1 (.q 3 (.q 4 (.or (.l 2 (.or (.l 5 (.or (.l 6 (.l 7 (.l 8 (.l 9 .done)))) (.l 7 (.l 6 (.l 8 (.l 9 .done)))))) (.or (.l 6 (.or (.l 5 (.l 7 (.l 8 (.l 9 .done)))) (.l 7 (.l 5 (.l 8 (.l 9 .done)))))) (.l 7 (.or (.l 5 (.l 6 (.l 8 (.l 9 .done)))) (.l 6 (.l 5 (.l 8 (.l 9 .done))))))))) (.or (.l 6 (.or (.l 2 (.or (.l 5 (.l 7 (.l 8 (.l 9 .done)))) (.l 7 (.l 5 (.l 8 (.l 9 .done)))))) (.l 7 (.l 2 (.l 5 (.l 8 (.l 9 .done))))))) (.l 7 (.or (.l 2 (.or (.l 5 (.l 6 (.l 8 (.l 9 .done)))) (.l 6 (.l 5 (.l 8 (.l 9 .done)))))) (.l 6 (.l 2 (.l 5 (.l 8 (.l 9 .done)))))))))))))) (.s (.n) (.n)))))))))))
set_option maxRecDepth 100000 in
theorem c8 (arg0 arg1 arg2 : Value) (K : Value → WP) (w : World) (h : s8 Try.prog arg0 arg1 arg2 K w) : Runs Try.prog 8 [arg0, arg1, arg2] K w :=
  runs_of_E wide (fn := Try.f8) (c := Try.f8.body.getD .skip) 119 A8 [arg0, arg1, arg2] w K Try.func8 (by kernel_rfl) (by kernel_rfl) (by kernel_rfl) (by kernel_rfl)
    (Eq.mp (by kernel_rfl : s8 Try.prog arg0 arg1 arg2 K w = E Try.prog (Try.f8.body.getD .skip) A8 (topK Try.prog K Try.f8.results) (fun i => (([arg0, arg1, arg2] : List Value)[i]?).getD undef) w) h)
theorem ct8 {arg0 arg1 arg2 : Value} {h : Hp} {post : Hp → Value → Prop} (hg : ∀ w0, Gs w0 h h [] (s8 Try.prog arg0 arg1 arg2 (RetP w0 h post))) : Ct Try.prog 8 [arg0, arg1, arg2] h post := Ct.of (sf := s8 Try.prog arg0 arg1 arg2) (c8 arg0 arg1 arg2) hg
theorem in8 {arg0 arg1 arg2 : Value} {S : WP} {K : Value → WP} (hg : G S (s8 Try.prog arg0 arg1 arg2 K)) : G S (Do Try.prog (vCall (.func (.func 8) #[] ⟨[]⟩) [arg0, arg1, arg2]) K) := Gs.into (args := [arg0, arg1, arg2]) (caps := []) (sf := s8 Try.prog arg0 arg1 arg2) (c8 arg0 arg1 arg2) hg

/- skewer/skewerlaw21.LoopyFree : names 0 l, 1 n, 2 w, 3 l, 4 n, 5 w, 7 ok, 8 x, 9 s, 10 last, 11 k, 12 r, 13 b, 14 k, 15 left, 16 right -/
def s9 (P : Program) (arg0 arg1 arg2 : Value) (K : Value → WP) : WP :=
  Do P (V (Instr.box 51 arg2)) fun w1 =>
  Do P (vCall (.func (.func 11) #[] ⟨[]⟩) []) fun t2_17 =>
  Do P (V (binOp .lss 5 arg1 (.int .u8 200))) fun t3_21 =>
  Do P (vCall (.func (.func 12) #[] ⟨[]⟩) [arg0, arg1, t3_21]) fun t4_22 =>
  Do P (V (Instr.alloc 27 true (.tuple #[]))) fun x5 =>
  Do P (U (Instr.storeAt 27 x5 t4_22)) fun t6_x =>
  Do P (V (Instr.loadAt 27 x5)) fun t7_23 =>
  Do P (V (Instr.loadAt 51 w1)) fun t8_24 =>
  Do P (vCall (.func (.func 24) #[] ⟨[]⟩) [t7_23, t8_24]) fun t9_25 =>
  Do P (V (Instr.alloc 30 true (.tuple #[]))) fun s10 =>
  Do P (U (Instr.storeAt 30 s10 t9_25)) fun t11_x =>
  Lp (α := Value × Value) (fun c12 s12 => Jk fun _ => -- last k
   Do P (V (binOp .leq 3 s12.2 (.int .i64 8))) fun t13_27 =>
   If t13_27 (
    Do P (V (Instr.loadAt 27 x5)) fun t14_30 =>
    Do P (V (Instr.fieldAt 30 s10 0)) fun t15_31 =>
    Do P (V (Instr.loadAt 3 t15_31)) fun t16_32 =>
    Do P (V (Instr.fieldAt 30 s10 2)) fun t17_34 =>
    Do P (V (Instr.loadAt 3 t17_34)) fun t18_35 =>
    Do P (vBuild 30 [(0, t16_32), (1, s12.2), (2, t18_35)]) fun t19_36 =>
    Do P (vCall (.func (.func 13) #[] ⟨[]⟩) [t14_30, t19_36]) fun t20_37 =>
    Do P (V (Instr.alloc 33 true (.tuple #[]))) fun r21 =>
    Do P (U (Instr.storeAt 33 r21 t20_37)) fun t22_x =>
    Jn (α := Value) (fun j23 => Jk fun _ => -- t46
     If j23 (
      K (.bool false)
     ) (
      Do P (V (Instr.fieldAt 33 r21 0)) fun t24_47 =>
      Do P (V (Instr.loadAt 3 t24_47)) fun t25_48 =>
      Do P (V (binOp .add 3 s12.2 (.int .i64 1))) fun t26_29 =>
      c12 (t25_48, t26_29)
     )
    ) fun k23 =>
    Do P (V (Instr.fieldAt 33 r21 1)) fun t27_38 =>
    Do P (V (Instr.loadAt 31 t27_38)) fun t28_39 =>
    Do P (V (EqG .neq 31 (.tmp 39) (.const (.int .i64 0)) t28_39 (.int .i64 0))) fun t29_40 =>
    Gd t29_40 false (
     Do P (V (Instr.fieldAt 33 r21 0)) fun t30_42 =>
     Do P (V (Instr.loadAt 3 t30_42)) fun t31_43 =>
     Do P (V (binOp .gtr 3 t31_43 s12.1)) fun t32_45 =>
     k23 t32_45
    ) (
     k23 (.bool true)
    )
   ) (
    Do P (V (Instr.loadAt 27 x5)) fun t33_49 =>
    Do P (V (Instr.fieldAt 30 s10 0)) fun t34_50 =>
    Do P (V (Instr.loadAt 3 t34_50)) fun t35_51 =>
    Do P (vCall (.func (.func 20) #[] ⟨[]⟩) [t33_49, t35_51]) fun t36_52 =>
    Do P (V (Instr.alloc 46 true (.tuple #[]))) fun b37 =>
    Do P (U (Instr.storeAt 46 b37 t36_52)) fun t38_x =>
    Jn (α := Value) (fun j39 => Jk fun _ => -- t79
     If j39 (
      K (.bool false)
     ) (
      Lp (α := Value) (fun c40 s40 => Jk fun _ => -- k
       Do P (V (binOp .leq 3 s40 (.int .i64 8))) fun t41_81 =>
       If t41_81 (
        Jn (α := Value × Value) (fun j42 => Jk fun _ => -- left right
         Jn (α := Value) (fun j43 => Jk fun _ => -- t117
          If j43 (
           K (.bool false)
          ) (
           Do P (V (binOp .add 3 s40 (.int .i64 1))) fun t44_83 =>
           c40 t44_83
          )
         ) fun k43 =>
         Do P (V (Instr.fieldAt 33 j42.1 0)) fun t45_98 =>
         Do P (V (Instr.loadAt 3 t45_98)) fun t46_99 =>
         Do P (V (EqG .neq 3 (.tmp 99) (.const (.int .i64 3)) t46_99 (.int .i64 3))) fun t47_100 =>
         Do P (V (Instr.fieldAt 46 b37 0)) fun t48_102 =>
         Do P (V (Instr.fieldAt 44 t48_102 0)) fun t49_103 =>
         Do P (V (Instr.loadAt 3 t49_103)) fun t50_104 =>
         Do P (V (binOp .leq 3 s40 t50_104)) fun t51_105 =>
         Do P (V (EqG .neq 4 (.tmp 100) (.tmp 105) t47_100 t51_105)) fun t52_106 =>
         Gd t52_106 false (
          Do P (V (Instr.fieldAt 33 j42.2 0)) fun t53_108 =>
          Do P (V (Instr.loadAt 3 t53_108)) fun t54_109 =>
          Do P (V (EqG .neq 3 (.tmp 109) (.const (.int .i64 1)) t54_109 (.int .i64 1))) fun t55_110 =>
          Do P (V (Instr.fieldAt 46 b37 0)) fun t56_112 =>
          Do P (V (Instr.fieldAt 44 t56_112 1)) fun t57_113 =>
          Do P (V (Instr.loadAt 3 t57_113)) fun t58_114 =>
          Do P (V (binOp .geq 3 s40 t58_114)) fun t59_115 =>
          Do P (V (EqG .neq 4 (.tmp 110) (.tmp 115) t55_110 t59_115)) fun t60_116 =>
          k43 t60_116
         ) (
          k43 (.bool true)
         )
        ) fun k42 =>
        Dr <|
        Qk P (V (Instr.loadAt 27 x5)) fun C61 t61_84 =>
        Qk P (V (Instr.fieldAt 30 s10 0)) fun C62 t62_85 =>
        Qk P (V (Instr.loadAt 3 t62_85)) fun C63 t63_86 =>
        Qk P (V (Op.unary .neg s40)) fun C64 t64_88 =>
        Qk P (vBuild 30 [(0, t63_86), (1, t64_88), (2, (.int .i64 1))]) fun C65 t65_89 =>
        Qk P (V (Instr.loadAt 27 x5)) fun C66 t66_91 =>
        Qk P (V (Instr.fieldAt 30 s10 0)) fun C67 t67_92 =>
        Qk P (V (Instr.loadAt 3 t67_92)) fun C68 t68_93 =>
        Qk P (V (Op.unary .neg s40)) fun C69 t69_95 =>
        Qk P (vBuild 30 [(0, t68_93), (1, t69_95)]) fun C70 t70_96 =>
        Or2 (
         Do P (vCall (.func (.func 13) #[] ⟨[]⟩) [t61_84, t65_89]) fun t71_90 =>
         With C70 <|
         With C69 <|
         With C68 <|
         With C67 <|
         With C66 <|
         Or2 (
          Do P (vCall (.func (.func 13) #[] ⟨[]⟩) [t66_91, t70_96]) fun t72_97 =>
          Or2 (
           Do P (V (Instr.alloc 33 true (.tuple #[]))) fun left73 =>
           With C70 <|
           With C69 <|
           With C68 <|
           With C67 <|
           With C66 <|
           With C65 <|
           With C64 <|
           With C63 <|
           With C62 <|
           With C61 <|
           Do P (V (Instr.alloc 33 true (.tuple #[]))) fun right74 =>
           With C70 <|
           With C69 <|
           With C68 <|
           With C67 <|
           With C66 <|
           With C65 <|
           With C64 <|
           With C63 <|
           With C62 <|
           With C61 <|
           Do P (U (Instr.storeAt 33 left73 t71_90)) fun t75_x =>
           Do P (U (Instr.storeAt 33 right74 t72_97)) fun t76_x =>
           k42 (left73, right74)
          ) (
           Do P (V (Instr.alloc 33 true (.tuple #[]))) fun right77 =>
           With C70 <|
           With C69 <|
           With C68 <|
           With C67 <|
           With C66 <|
           With C65 <|
           With C64 <|
           With C63 <|
           With C62 <|
           With C61 <|
           Do P (V (Instr.alloc 33 true (.tuple #[]))) fun left78 =>
           With C70 <|
           With C69 <|
           With C68 <|
           With C67 <|
           With C66 <|
           With C65 <|
           With C64 <|
           With C63 <|
           With C62 <|
           With C61 <|
           Do P (U (Instr.storeAt 33 left78 t71_90)) fun t79_x =>
           Do P (U (Instr.storeAt 33 right77 t72_97)) fun t80_x =>
           k42 (left78, right77)
          )
         ) (
          Or2 (
           Do P (V (Instr.alloc 33 true (.tuple #[]))) fun left81 =>
           With C70 <|
           With C69 <|
           With C68 <|
           With C67 <|
           With C66 <|
           With C65 <|
           With C64 <|
           With C63 <|
           With C62 <|
           With C61 <|
           Or2 (
            Do P (vCall (.func (.func 13) #[] ⟨[]⟩) [t66_91, t70_96]) fun t82_97 =>
            Do P (V (Instr.alloc 33 true (.tuple #[]))) fun right83 =>
            With C70 <|
            With C69 <|
            With C68 <|
            With C67 <|
            With C66 <|
            With C65 <|
            With C64 <|
            With C63 <|
            With C62 <|
            With C61 <|
            Do P (U (Instr.storeAt 33 left81 t71_90)) fun t84_x =>
            Do P (U (Instr.storeAt 33 right83 t82_97)) fun t85_x =>
            k42 (left81, right83)
           ) (
            Do P (V (Instr.alloc 33 true (.tuple #[]))) fun right86 =>
            With C70 <|
            With C69 <|
            With C68 <|
            With C67 <|
            With C66 <|
            With C65 <|
            With C64 <|
            With C63 <|
            With C62 <|
            With C61 <|
            Do P (vCall (.func (.func 13) #[] ⟨[]⟩) [t66_91, t70_96]) fun t87_97 =>
            Do P (U (Instr.storeAt 33 left81 t71_90)) fun t88_x =>
            Do P (U (Instr.storeAt 33 right86 t87_97)) fun t89_x =>
            k42 (left81, right86)
           )
          ) (
           Do P (V (Instr.alloc 33 true (.tuple #[]))) fun right90 =>
           With C70 <|
           With C69 <|
           With C68 <|
           With C67 <|
           With C66 <|
           With C65 <|
           With C64 <|
           With C63 <|
           With C62 <|
           With C61 <|
           Or2 (
            Do P (vCall (.func (.func 13) #[] ⟨[]⟩) [t66_91, t70_96]) fun t91_97 =>
            Do P (V (Instr.alloc 33 true (.tuple #[]))) fun left92 =>
            With C70 <|
            With C69 <|
            With C68 <|
            With C67 <|
            With C66 <|
            With C65 <|
            With C64 <|
            With C63 <|
            With C62 <|
            With C61 <|
            Do P (U (Instr.storeAt 33 left92 t71_90)) fun t93_x =>
            Do P (U (Instr.storeAt 33 right90 t91_97)) fun t94_x =>
            k42 (left92, right90)
           ) (
            Do P (V (Instr.alloc 33 true (.tuple #[]))) fun left95 =>
            With C70 <|
            With C69 <|
            With C68 <|
            With C67 <|
            With C66 <|
            With C65 <|
            With C64 <|
            With C63 <|
            With C62 <|
            With C61 <|
            Do P (vCall (.func (.func 13) #[] ⟨[]⟩) [t66_91, t70_96]) fun t96_97 =>
            Do P (U (Instr.storeAt 33 left95 t71_90)) fun t97_x =>
            Do P (U (Instr.storeAt 33 right90 t96_97)) fun t98_x =>
            k42 (left95, right90)
           )
          )
         )
        ) (
         Or2 (
          Do P (V (Instr.alloc 33 true (.tuple #[]))) fun left99 =>
          With C70 <|
          With C69 <|
          With C68 <|
          With C67 <|
          With C66 <|
          With C65 <|
          With C64 <|
          With C63 <|
          With C62 <|
          With C61 <|
          Or2 (
           Do P (vCall (.func (.func 13) #[] ⟨[]⟩) [t61_84, t65_89]) fun t100_90 =>
           With C70 <|
           With C69 <|
           With C68 <|
           With C67 <|
           With C66 <|
           Or2 (
            Do P (vCall (.func (.func 13) #[] ⟨[]⟩) [t66_91, t70_96]) fun t101_97 =>
            Do P (V (Instr.alloc 33 true (.tuple #[]))) fun right102 =>
            With C70 <|
            With C69 <|
            With C68 <|
            With C67 <|
            With C66 <|
            With C65 <|
            With C64 <|
            With C63 <|
            With C62 <|
            With C61 <|
            Do P (U (Instr.storeAt 33 left99 t100_90)) fun t103_x =>
            Do P (U (Instr.storeAt 33 right102 t101_97)) fun t104_x =>
            k42 (left99, right102)
           ) (
            Do P (V (Instr.alloc 33 true (.tuple #[]))) fun right105 =>
            With C70 <|
            With C69 <|
            With C68 <|
            With C67 <|
            With C66 <|
            With C65 <|
            With C64 <|
            With C63 <|
            With C62 <|
            With C61 <|
            Do P (vCall (.func (.func 13) #[] ⟨[]⟩) [t66_91, t70_96]) fun t106_97 =>
            Do P (U (Instr.storeAt 33 left99 t100_90)) fun t107_x =>
            Do P (U (Instr.storeAt 33 right105 t106_97)) fun t108_x =>
            k42 (left99, right105)
           )
          ) (
           Do P (V (Instr.alloc 33 true (.tuple #[]))) fun right109 =>
           With C70 <|
           With C69 <|
           With C68 <|
           With C67 <|
           With C66 <|
           With C65 <|
           With C64 <|
           With C63 <|
           With C62 <|
           With C61 <|
           Do P (vCall (.func (.func 13) #[] ⟨[]⟩) [t61_84, t65_89]) fun t110_90 =>
           With C70 <|
           With C69 <|
           With C68 <|
           With C67 <|
           With C66 <|
           Do P (vCall (.func (.func 13) #[] ⟨[]⟩) [t66_91, t70_96]) fun t111_97 =>
           Do P (U (Instr.storeAt 33 left99 t110_90)) fun t112_x =>
           Do P (U (Instr.storeAt 33 right109 t111_97)) fun t113_x =>
           k42 (left99, right109)
          )
         ) (
          Do P (V (Instr.alloc 33 true (.tuple #[]))) fun right114 =>
          With C70 <|
          With C69 <|
          With C68 <|
          With C67 <|
          With C66 <|
          With C65 <|
          With C64 <|
          With C63 <|
          With C62 <|
          With C61 <|
          Or2 (
           Do P (vCall (.func (.func 13) #[] ⟨[]⟩) [t61_84, t65_89]) fun t115_90 =>
           With C70 <|
           With C69 <|
           With C68 <|
           With C67 <|
           With C66 <|
           Or2 (
            Do P (vCall (.func (.func 13) #[] ⟨[]⟩) [t66_91, t70_96]) fun t116_97 =>
            Do P (V (Instr.alloc 33 true (.tuple #[]))) fun left117 =>
            With C70 <|
            With C69 <|
            With C68 <|
            With C67 <|
            With C66 <|
            With C65 <|
            With C64 <|
            With C63 <|
            With C62 <|
            With C61 <|
            Do P (U (Instr.storeAt 33 left117 t115_90)) fun t118_x =>
            Do P (U (Instr.storeAt 33 right114 t116_97)) fun t119_x =>
            k42 (left117, right114)
           ) (
            Do P (V (Instr.alloc 33 true (.tuple #[]))) fun left120 =>
            With C70 <|
            With C69 <|
            With C68 <|
            With C67 <|
            With C66 <|
            With C65 <|
            With C64 <|
            With C63 <|
            With C62 <|
            With C61 <|
            Do P (vCall (.func (.func 13) #[] ⟨[]⟩) [t66_91, t70_96]) fun t121_97 =>
            Do P (U (Instr.storeAt 33 left120 t115_90)) fun t122_x =>
            Do P (U (Instr.storeAt 33 right114 t121_97)) fun t123_x =>
            k42 (left120, right114)
           )
          ) (
           Do P (V (Instr.alloc 33 true (.tuple #[]))) fun left124 =>
           With C70 <|
           With C69 <|
           With C68 <|
           With C67 <|
           With C66 <|
           With C65 <|
           With C64 <|
           With C63 <|
           With C62 <|
           With C61 <|
           Do P (vCall (.func (.func 13) #[] ⟨[]⟩) [t61_84, t65_89]) fun t125_90 =>
           With C70 <|
           With C69 <|
           With C68 <|
           With C67 <|
           With C66 <|
           Do P (vCall (.func (.func 13) #[] ⟨[]⟩) [t66_91, t70_96]) fun t126_97 =>
           Do P (U (Instr.storeAt 33 left124 t125_90)) fun t127_x =>
           Do P (U (Instr.storeAt 33 right114 t126_97)) fun t128_x =>
           k42 (left124, right114)
          )
         )
        )
       ) (
        K t2_17
       )
      ) (.int .i64 (-8))
     )
    ) fun k39 =>
    Do P (V (Instr.fieldAt 46 b37 1)) fun t129_53 =>
    Do P (V (Instr.loadAt 31 t129_53)) fun t130_54 =>
    Do P (V (EqG .neq 31 (.tmp 54) (.const (.int .i64 0)) t130_54 (.int .i64 0))) fun t131_55 =>
    Gd t131_55 false (
     Do P (V (Instr.fieldAt 46 b37 0)) fun t132_57 =>
     Do P (V (Instr.fieldAt 44 t132_57 0)) fun t133_58 =>
     Do P (V (Instr.loadAt 3 t133_58)) fun t134_59 =>
     Do P (V (binOp .lss 3 t134_59 (.int .i64 (-9)))) fun t135_60 =>
     Gd t135_60 false (
      Do P (V (Instr.fieldAt 46 b37 0)) fun t136_63 =>
      Do P (V (Instr.fieldAt 44 t136_63 0)) fun t137_64 =>
      Do P (V (Instr.loadAt 3 t137_64)) fun t138_65 =>
      Do P (V (binOp .gtr 3 t138_65 (.int .i64 8))) fun t139_66 =>
      Gd t139_66 false (
       Do P (V (Instr.fieldAt 46 b37 0)) fun t140_69 =>
       Do P (V (Instr.fieldAt 44 t140_69 1)) fun t141_70 =>
       Do P (V (Instr.loadAt 3 t141_70)) fun t142_71 =>
       Do P (V (binOp .lss 3 t142_71 (.int .i64 (-8)))) fun t143_72 =>
       Gd t143_72 false (
        Do P (V (Instr.fieldAt 46 b37 0)) fun t144_75 =>
        Do P (V (Instr.fieldAt 44 t144_75 1)) fun t145_76 =>
        Do P (V (Instr.loadAt 3 t145_76)) fun t146_77 =>
        Do P (V (binOp .gtr 3 t146_77 (.int .i64 9))) fun t147_78 =>
        k39 t147_78
       ) (
        k39 (.bool true)
       )
      ) (
       k39 (.bool true)
      )
     ) (
      k39 (.bool true)
     )
    ) (
     k39 (.bool true)
    )
   )
  ) ((.int .i64 3), (.int .i64 (-8)))
def A9 : Ann := .s (.n) (.s (.n) (.s (.n) (.s (.n) (.s (.n) (.s (.s (.n) (.lp [10, 11] 562949886319680 (.s (.s (.n) (.s (.n) (.n))) (.s (.s (.n) (.s (.j [46] 140462610448384 (.n) (.s (.s (.n) (.n)) (.n))) (.n))) (.n))))) (.s (.n) (.s (.j [79] 1208925810607429919965184 (.n) (.s (.s (.n) (.n)) (.n))) (.s (.s (.n) (.lp [14] 332306998945020042406337135895494720 (.s (.s (.n) (.s (.n) (.n))) (.s (.j [15, 16] 316893307243943516307380600832 (.plan [(0, 256, 19342813113834066795298816), (0, 512, 38685626227668133590597632), (2, 38685626227668133590597632, 77371252455336267181195264), (0, 16384, 154742504910672534362390528), (8, 154742504910672534362390528, 309485009821345068724781056), (20, 386856262276681335905976320, 618970019642690137449562112), (33, 638312832756524204244860928, 1237940039285380274899124224), (0, 256, 2475880078570760549798248448), (0, 512, 4951760157141521099596496896), (256, 4951760157141521099596496896, 9903520314283042199192993792), (0, 16384, 19807040628566084398385987584), (1024, 19807040628566084398385987584, 39614081257132168796771975168), (2560, 49517601571415210995964968960, 79228162514264337593543950336), (4288, 81704042592835098143342198784, 158456325028528675187087900672), (0, 0, 32768), (0, 0, 65536), (57471, 1237940039285380274899156992, 0), (131071, 158456325028528675187087966208, 0)] (.q 0 (.q 1 (.q 2 (.q 3 (.q 4 (.q 5 (.q 7 (.q 8 (.q 9 (.q 10 (.q 11 (.q 12 (.or (.l 6 (.or (.l 13 (.or (.l 14 (.l 15 (.l 16 (.l 17 .done)))) (.l 15 (.l 14 (.l 16 (.l 17 .done)))))) (.or (.l 14 (.or (.l 13 (.l 15 (.l 16 (.l 17 .done)))) (.l 15 (.l 13 (.l 16 (.l 17 .done)))))) (.l 15 (.or (.l 13 (.l 14 (.l 16 (.l 17 .done)))) (.l 14 (.l 13 (.l 16 (.l 17 .done))))))))) (.or (.l 14 (.or (.l 6 (.or (.l 13 (.l 15 (.l 16 (.l 17 .done)))) (.l 15 (.l 13 (.l 16 (.l 17 .done)))))) (.l 15 (.l 6 (.l 13 (.l 16 (.l 17 .done))))))) (.l 15 (.or (.l 6 (.or (.l 13 (.l 14 (.l 16 (.l 17 .done)))) (.l 14 (.l 13 (.l 16 (.l 17 .done)))))) (.l 14 (.l 6 (.l 13 (.l 16 (.l 17 .done)))))))))))))))))))))) (.j [117] 332306682033578911168601390894284800 (.n) (.s (.s (.n) (.n)) (.n)))) (.n))))) (.s (.n) (.n))))))))))
set_option maxRecDepth 100000 in
theorem c9 (arg0 arg1 arg2 : Value) (K : Value → WP) (w : World) (h : s9 Try.prog arg0 arg1 arg2 K w) : Runs Try.prog 9 [arg0, arg1, arg2] K w :=
  runs_of_E wide (fn := Try.f9) (c := Try.f9.body.getD .skip) 119 A9 [arg0, arg1, arg2] w K Try.func9 (by kernel_rfl) (by kernel_rfl) (by kernel_rfl) (by kernel_rfl)
    (Eq.mp (by kernel_rfl : s9 Try.prog arg0 arg1 arg2 K w = E Try.prog (Try.f9.body.getD .skip) A9 (topK Try.prog K Try.f9.results) (fun i => (([arg0, arg1, arg2] : List Value)[i]?).getD undef) w) h)
theorem ct9 {arg0 arg1 arg2 : Value} {h : Hp} {post : Hp → Value → Prop} (hg : ∀ w0, Gs w0 h h [] (s9 Try.prog arg0 arg1 arg2 (RetP w0 h post))) : Ct Try.prog 9 [arg0, arg1, arg2] h post := Ct.of (sf := s9 Try.prog arg0 arg1 arg2) (c9 arg0 arg1 arg2) hg
theorem in9 {arg0 arg1 arg2 : Value} {S : WP} {K : Value → WP} (hg : G S (s9 Try.prog arg0 arg1 arg2 K)) : G S (Do Try.prog (vCall (.func (.func 9) #[] ⟨[]⟩) [arg0, arg1, arg2]) K) := Gs.into (args := [arg0, arg1, arg2]) (caps := []) (sf := s9 Try.prog arg0 arg1 arg2) (c9 arg0 arg1 arg2) hg

end Go.Proofs.Ytnepdmnkhjpnhaa
