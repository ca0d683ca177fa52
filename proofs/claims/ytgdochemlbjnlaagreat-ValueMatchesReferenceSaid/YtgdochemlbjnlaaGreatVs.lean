/-
  The shallow forms of functions of the program, printed by a program of the prover; and what the types are.
-/
import Derived.Test.YtgdochemlbjnlaaGreatVa
set_option linter.unusedVariables false
set_option maxRecDepth 100000
namespace Go.Proofs.YtgdochemlbjnlaaGreat
open Go Go.Sk
variable {M : Go.Sk.Mode}
/- skewer/skewerref20.best : names 0 l, 1 l, 3 out, 4 i, 5 keep, 6 k, 7 at, 8 next -/
def s35 (P : Program) (arg0 : Value) (K : Value → WP) : WP :=
  Do P (vBuildSlice 26 0 []) fun t1_9 =>
  Lp (α := Value × Value) (fun c2 s2 => Jk fun _ => -- out i
   Do P (vBuiltin .len #[26] 3 [arg0]) fun t3_12 =>
   Do P (V (binOp .lss 3 s2.2 t3_12)) fun t4_13 =>
   If t4_13 (
    Jn (α := Value) (fun j5 => Jk fun _ => -- out
     Do P (V (binOp .add 3 s2.2 (.int .i64 1))) fun t6_15 =>
     c2 (j5, t6_15)
    ) fun k5 =>
    Lp (α := Value × Value) (fun c7 s7 => Jk fun _ => -- keep k
     Do P (vBuiltin .len #[26] 3 [arg0]) fun t8_18 =>
     Do P (V (binOp .lss 3 s7.2 t8_18)) fun t9_19 =>
     If t9_19 (
      Jn (α := Value) (fun j10 => Jk fun _ => -- keep
       Do P (V (binOp .add 3 s7.2 (.int .i64 1))) fun t11_21 =>
       c7 (j10, t11_21)
      ) fun k10 =>
      Jn (α := Value) (fun j12 => Jk fun _ => -- t52
       If j12 (
        k10 (.bool false)
       ) (
        k10 s7.1
       )
      ) fun k12 =>
      Dr <|
      Qk P (V (EqG .neq 3 (.tmp 22) (.tmp 23) s7.2 s2.2)) fun C13 t13_24 =>
      Gd t13_24 true (
       Qk P (V (Instr.indexAt 26 arg0 s2.2)) fun C14 t14_28 =>
       Qk P (V (Instr.loadAt 28 t14_28)) fun C15 t15_29 =>
       Qk P (V (Instr.indexAt 26 arg0 s7.2)) fun C16 t16_32 =>
       Qk P (V (Instr.loadAt 28 t16_32)) fun C17 t17_33 =>
       Do P (vCall (.func (.func 9) #[] ⟨[]⟩) [t15_29, t17_33]) fun t18_34 =>
       Gd t18_34 true (
        Qk P (V (binOp .lss 3 s7.2 s2.2)) fun C19 t19_39 =>
        Gd t19_39 false (
         Qk P (V (Instr.indexAt 26 arg0 s7.2)) fun C20 t20_43 =>
         Qk P (V (Instr.loadAt 28 t20_43)) fun C21 t21_44 =>
         Qk P (V (Instr.indexAt 26 arg0 s2.2)) fun C22 t22_47 =>
         Qk P (V (Instr.loadAt 28 t22_47)) fun C23 t23_48 =>
         Do P (vCall (.func (.func 9) #[] ⟨[]⟩) [t21_44, t23_48]) fun t24_49 =>
         Qk P (V (Op.unary .not t24_49)) fun C25 t25_50 =>
         k12 t25_50
        ) (
         k12 (.bool true)
        )
       ) (
        k12 (.bool false)
       )
      ) (
       k12 (.bool false)
      )
     ) (
      Do P (V (Op.unary .not s7.1)) fun t26_54 =>
      If t26_54 (
       k5 s2.1
      ) (
       Lp (α := Value) (fun c27 s27 => Jk fun _ => -- at
        Jn (α := Value) (fun j28 => Jk fun _ => -- t71
         If j28 (
          Do P (V (binOp .add 3 s27 (.int .i64 1))) fun t29_73 =>
          c27 t29_73
         ) (
          Jn (α := Value) (fun j30 => Jk fun _ => -- next
           Do P (V (Instr.sliceAt 26 s2.1 (some s27) none none)) fun t31_88 =>
           Do P (vBuiltin .append #[26, 26] 26 [j30, t31_88]) fun t32_89 =>
           k5 t32_89
          ) fun k30 =>
          Dr <|
          Qk P (V (Instr.sliceAt 26 s2.1 none (some s27) none)) fun C33 t33_77 =>
          Qk P (V (Instr.indexAt 26 arg0 s2.2)) fun C34 t34_81 =>
          Qk P (V (Instr.loadAt 28 t34_81)) fun C35 t35_82 =>
          Or2 (
           Do P (vBuildSlice 26 0 []) fun t36_74 =>
           With C35 <|
           With C34 <|
           With C33 <|
           Or2 (
            Do P (vBuiltin .append #[26, 26] 26 [t36_74, t33_77]) fun t37_78 =>
            With C35 <|
            With C34 <|
            Do P (vBuildSlice 26 1 [(0, t35_82)]) fun t38_83 =>
            With C33 <|
            Do P (vBuiltin .append #[26, 26] 26 [t37_78, t38_83]) fun t39_84 =>
            k30 t39_84
           ) (
            Do P (vBuildSlice 26 1 [(0, t35_82)]) fun t40_83 =>
            With C33 <|
            Do P (vBuiltin .append #[26, 26] 26 [t36_74, t33_77]) fun t41_78 =>
            With C35 <|
            With C34 <|
            Do P (vBuiltin .append #[26, 26] 26 [t41_78, t40_83]) fun t42_84 =>
            k30 t42_84
           )
          ) (
           Do P (vBuildSlice 26 1 [(0, t35_82)]) fun t43_83 =>
           With C33 <|
           Do P (vBuildSlice 26 0 []) fun t44_74 =>
           With C35 <|
           With C34 <|
           With C33 <|
           Do P (vBuiltin .append #[26, 26] 26 [t44_74, t33_77]) fun t45_78 =>
           With C35 <|
           With C34 <|
           Do P (vBuiltin .append #[26, 26] 26 [t45_78, t43_83]) fun t46_84 =>
           k30 t46_84
          )
         )
        ) fun k28 =>
        Dr <|
        Qk P (vBuiltin .len #[26] 3 [s2.1]) fun C47 t47_57 =>
        Qk P (V (binOp .lss 3 s27 t47_57)) fun C48 t48_58 =>
        Gd t48_58 true (
         Qk P (V (Instr.indexAt 26 s2.1 s27)) fun C49 t49_62 =>
         Qk P (V (Instr.loadAt 28 t49_62)) fun C50 t50_63 =>
         Qk P (V (Instr.indexAt 26 arg0 s2.2)) fun C51 t51_67 =>
         Qk P (V (Instr.loadAt 28 t51_67)) fun C52 t52_68 =>
         Do P (vCall (.func (.func 11) #[] ⟨[]⟩) [t50_63]) fun t53_64 =>
         With C52 <|
         With C51 <|
         Do P (vCall (.func (.func 11) #[] ⟨[]⟩) [t52_68]) fun t54_69 =>
         Qk P (V (binOp .lss 9 t53_64 t54_69)) fun C55 t55_70 =>
         k28 t55_70
        ) (
         k28 (.bool false)
        )
       ) (.int .i64 0)
      )
     )
    ) ((.bool true), (.int .i64 0))
   ) (
    K s2.1
   )
  ) (t1_9, (.int .i64 0))
def A35 : Ann := .s (.n) (.s (.n) (.s (.s (.n) (.lp [3, 4] 1237940039285380274899123704 (.s (.s (.n) (.s (.n) (.n))) (.j [3] 1237940039285380274899059176 (.s (.n) (.s (.s (.n) (.lp [5, 6] 9007199254675552 (.s (.s (.n) (.s (.n) (.n))) (.j [5] 9007199250546720 (.j [52] 9007199250546688 (.plan [(0, 64, 4194304), (0, 16, 8388608), (3, 12582912, 16777216), (4, 16777216, 33554432), (8, 33554433, 67108864), (8, 33554448, 134217728), (56, 234881024, 268435456), (72, 301989888, 536870912), (8, 33554433, 1073741824), (8, 33554496, 2147483648), (776, 3254779904, 4294967296), (1032, 4328521728, 8589934592), (2184, 9160359936, 17179869184), (4104, 17213423616, 34359738368), (12288, 34359738368, 68719476736), (16384, 68719476800, 137438953472), (16384, 68719476752, 274877906944), (114688, 481036337152, 549755813888), (147456, 618475290624, 1099511627776), (262144, 1099511627777, 2199023255552), (262144, 1099511627840, 4398046511104), (1835008, 7696581394432, 8796093022208), (2359296, 9895604649984, 17592186044416), (262144, 1099511627777, 35184372088832), (262144, 1099511627792, 70368744177664), (25427968, 106652627894272, 140737488355328), (33816576, 141836999983104, 281474976710656), (71565312, 300166674382848, 562949953421312), (134479872, 564049465049088, 1125899906842624), (268713984, 1127068137947136, 2251799813685248), (536887296, 2251868533161984, 4503599627370496)] (.q 0 (.q 1 (.q 2 (.q 3 (.q 4 (.q 5 (.q 6 (.q 7 (.q 8 (.q 9 (.q 10 (.q 11 (.l 12 (.q 13 (.q 14 (.q 15 (.q 16 (.q 17 (.q 18 (.q 19 (.q 20 (.q 21 (.q 22 (.q 23 (.q 24 (.q 25 (.q 26 (.l 27 (.q 28 (.q 29 (.q 30 .done)))))))))))))))))))))))))))))))) (.s (.n) (.n))) (.n))))) (.s (.s (.n) (.s (.n) (.n))) (.s (.n) (.s (.lp [7] 18889429902681561890944 (.s (.j [71] 4722330454072626249728 (.plan [(0, 128, 36028797018963968), (0, 8, 72057594037927936), (2, 72057594037927936, 144115188075855872), (5, 180143985094819840, 288230376151711744), (8, 288230376151711744, 576460752303423488), (16, 576460752303423496, 1152921504606846976), (16, 576460752303423616, 2305843009213693952), (112, 4035225266123964416, 4611686018427387904), (144, 5188146770730811392, 9223372036854775808), (272, 9799832789158199296, 18446744073709551616), (16, 576460752303423489, 36893488147419103232), (16, 576460752303423504, 73786976294838206464), (3088, 111256925194560733184, 147573952589676412928), (4112, 148150413341979836416, 295147905179352825856), (8720, 295724365931656249344, 590295810358705651712), (16912, 609319015184718626816, 1180591620717411303424), (32784, 1181168081469714726912, 2361183241434822606848)] (.q 0 (.q 1 (.q 2 (.q 3 (.q 4 (.q 5 (.q 6 (.q 7 (.q 8 (.q 10 (.q 11 (.q 12 (.q 13 (.l 9 (.l 14 (.q 15 (.q 16 .done)))))))))))))))))) (.s (.n) (.n))) (.n))) (.j [8] 38666736761736655009743104 (.plan [(0, 0, 18889465931478580854784), (0, 8, 37778931862957161709568), (0, 128, 75557863725914323419136), (6, 113336795588871485128704, 151115727451828646838272), (9, 170005193383307227693056, 302231454903657293676544), (0, 1, 604462909807314587353088), (0, 16, 1208925819614629174706176), (96, 1813388729421943762059264, 2417851639229258349412352), (128, 2417851639229258349412352, 4835703278458516698824704), (256, 4835703278458516698824704, 9671406556917033397649408), (528, 9973638011820690691325952, 19342813113834066795298816), (2047, 19342813113834066795298816, 256)] (.q 1 (.q 2 (.q 3 (.q 5 (.q 6 (.q 7 (.q 8 (.or (.l 0 (.or (.l 4 (.l 9 (.l 10 (.q 11 .done)))) (.l 9 (.l 4 (.l 10 (.q 11 .done)))))) (.l 9 (.l 0 (.l 4 (.l 10 (.q 11 .done)))))))))))))) (.n))))))) (.n))))) (.s (.n) (.n))))
set_option maxRecDepth 100000 in
theorem c35 (arg0 : Value) (K : Value → WP) (w : World) (h : s35 Tryz.prog arg0 K w) : Runs Tryz.prog 35 [arg0] K w :=
  runs_of_E wide (fn := Tryz.f35) (c := Tryz.f35.body.getD .skip) 91 A35 [arg0] w K Tryz.func35 (by kernel_rfl) (by kernel_rfl) (by kernel_rfl) (by kernel_rfl)
    (Eq.mp (by kernel_rfl : s35 Tryz.prog arg0 K w = E Tryz.prog (Tryz.f35.body.getD .skip) A35 (topK Tryz.prog K Tryz.f35.results) (fun i => (([arg0] : List Value)[i]?).getD undef) w) h)
theorem ct35 {arg0 : Value} {h : Hp} {post : Hp → Value → Prop} (hg : ∀ w0, Gs w0 h h [] (s35 Tryz.prog arg0 (RetP w0 h post))) : Ct Tryz.prog 35 [arg0] h post := Ct.of (sf := s35 Tryz.prog arg0) (c35 arg0) hg
theorem in35 {arg0 : Value} {S : WP} {K : Value → WP} (hg : G S (s35 Tryz.prog arg0 K)) : G S (Do Tryz.prog (vCall (.func (.func 35) #[] ⟨[]⟩) [arg0]) K) := Gs.into (args := [arg0]) (caps := []) (sf := s35 Tryz.prog arg0) (c35 arg0) hg

/- skewer/skewerref20.sorted : names 0 l, 1 l, 3 out, 4 i, 5 at, 6 next -/
def s36 (P : Program) (arg0 : Value) (K : Value → WP) : WP :=
  Do P (vBuildSlice 26 0 []) fun t1_7 =>
  Lp (α := Value × Value) (fun c2 s2 => Jk fun _ => -- out i
   Do P (vBuiltin .len #[26] 3 [arg0]) fun t3_10 =>
   Do P (V (binOp .lss 3 s2.2 t3_10)) fun t4_11 =>
   If t4_11 (
    Lp (α := Value) (fun c5 s5 => Jk fun _ => -- at
     Jn (α := Value) (fun j6 => Jk fun _ => -- t30
      If j6 (
       Do P (V (binOp .add 3 s5 (.int .i64 1))) fun t7_32 =>
       c5 t7_32
      ) (
       Jn (α := Value) (fun j8 => Jk fun _ => -- next
        Do P (V (Instr.sliceAt 26 s2.1 (some s5) none none)) fun t9_47 =>
        Do P (vBuiltin .append #[26, 26] 26 [j8, t9_47]) fun t10_48 =>
        Do P (V (binOp .add 3 s2.2 (.int .i64 1))) fun t11_13 =>
        c2 (t10_48, t11_13)
       ) fun k8 =>
       Dr <|
       Qk P (V (Instr.sliceAt 26 s2.1 none (some s5) none)) fun C12 t12_36 =>
       Qk P (V (Instr.indexAt 26 arg0 s2.2)) fun C13 t13_40 =>
       Qk P (V (Instr.loadAt 28 t13_40)) fun C14 t14_41 =>
       Or2 (
        Do P (vBuildSlice 26 0 []) fun t15_33 =>
        With C14 <|
        With C13 <|
        With C12 <|
        Or2 (
         Do P (vBuiltin .append #[26, 26] 26 [t15_33, t12_36]) fun t16_37 =>
         With C14 <|
         With C13 <|
         Do P (vBuildSlice 26 1 [(0, t14_41)]) fun t17_42 =>
         With C12 <|
         Do P (vBuiltin .append #[26, 26] 26 [t16_37, t17_42]) fun t18_43 =>
         k8 t18_43
        ) (
         Do P (vBuildSlice 26 1 [(0, t14_41)]) fun t19_42 =>
         With C12 <|
         Do P (vBuiltin .append #[26, 26] 26 [t15_33, t12_36]) fun t20_37 =>
         With C14 <|
         With C13 <|
         Do P (vBuiltin .append #[26, 26] 26 [t20_37, t19_42]) fun t21_43 =>
         k8 t21_43
        )
       ) (
        Do P (vBuildSlice 26 1 [(0, t14_41)]) fun t22_42 =>
        With C12 <|
        Do P (vBuildSlice 26 0 []) fun t23_33 =>
        With C14 <|
        With C13 <|
        With C12 <|
        Do P (vBuiltin .append #[26, 26] 26 [t23_33, t12_36]) fun t24_37 =>
        With C14 <|
        With C13 <|
        Do P (vBuiltin .append #[26, 26] 26 [t24_37, t22_42]) fun t25_43 =>
        k8 t25_43
       )
      )
     ) fun k6 =>
     Dr <|
     Qk P (vBuiltin .len #[26] 3 [s2.1]) fun C26 t26_16 =>
     Qk P (V (binOp .lss 3 s5 t26_16)) fun C27 t27_17 =>
     Gd t27_17 true (
      Qk P (V (Instr.indexAt 26 s2.1 s5)) fun C28 t28_21 =>
      Qk P (V (Instr.loadAt 28 t28_21)) fun C29 t29_22 =>
      Qk P (V (Instr.indexAt 26 arg0 s2.2)) fun C30 t30_26 =>
      Qk P (V (Instr.loadAt 28 t30_26)) fun C31 t31_27 =>
      Do P (vCall (.func (.func 11) #[] ⟨[]⟩) [t29_22]) fun t32_23 =>
      With C31 <|
      With C30 <|
      Do P (vCall (.func (.func 11) #[] ⟨[]⟩) [t31_27]) fun t33_28 =>
      Qk P (V (binOp .lss 9 t32_23 t33_28)) fun C34 t34_29 =>
      k6 t34_29
     ) (
      k6 (.bool false)
     )
    ) (.int .i64 0)
   ) (
    K s2.1
   )
  ) (t1_7, (.int .i64 0))
def A36 : Ann := .s (.n) (.s (.n) (.s (.s (.n) (.lp [3, 4] 562949953421176 (.s (.s (.n) (.s (.n) (.n))) (.s (.s (.n) (.s (.lp [5] 8589918240 (.s (.j [30] 2147467264 (.plan [(0, 32, 16384), (0, 8, 32768), (2, 32768, 65536), (5, 81920, 131072), (8, 131072, 262144), (16, 262152, 524288), (16, 262176, 1048576), (112, 1835008, 2097152), (144, 2359296, 4194304), (272, 4456448, 8388608), (16, 262145, 16777216), (16, 262160, 33554432), (3088, 50593792, 67108864), (4112, 67371008, 134217728), (8720, 134479872, 268435456), (16912, 277086208, 536870912), (32784, 537133056, 1073741824)] (.q 0 (.q 1 (.q 2 (.q 3 (.q 4 (.q 5 (.q 6 (.q 7 (.q 8 (.q 10 (.q 11 (.q 12 (.q 13 (.l 9 (.l 14 (.q 15 (.q 16 .done)))))))))))))))))) (.s (.n) (.n))) (.n))) (.j [6] 17583596109888 (.plan [(0, 0, 8589934592), (0, 8, 17179869184), (0, 32, 34359738368), (6, 51539607552, 68719476736), (9, 77309411328, 137438953472), (0, 1, 274877906944), (0, 16, 549755813888), (96, 824633720832, 1099511627776), (128, 1099511627776, 2199023255552), (256, 2199023255552, 4398046511104), (528, 4535485464576, 8796093022208), (2047, 8796093022208, 64)] (.q 1 (.q 2 (.q 3 (.q 5 (.q 6 (.q 7 (.q 8 (.or (.l 0 (.or (.l 4 (.l 9 (.l 10 (.q 11 .done)))) (.l 9 (.l 4 (.l 10 (.q 11 .done)))))) (.l 9 (.l 0 (.l 4 (.l 10 (.q 11 .done)))))))))))))) (.n)))) (.n))))) (.s (.n) (.n))))
set_option maxRecDepth 100000 in
theorem c36 (arg0 : Value) (K : Value → WP) (w : World) (h : s36 Tryz.prog arg0 K w) : Runs Tryz.prog 36 [arg0] K w :=
  runs_of_E wide (fn := Tryz.f36) (c := Tryz.f36.body.getD .skip) 50 A36 [arg0] w K Tryz.func36 (by kernel_rfl) (by kernel_rfl) (by kernel_rfl) (by kernel_rfl)
    (Eq.mp (by kernel_rfl : s36 Tryz.prog arg0 K w = E Tryz.prog (Tryz.f36.body.getD .skip) A36 (topK Tryz.prog K Tryz.f36.results) (fun i => (([arg0] : List Value)[i]?).getD undef) w) h)
theorem ct36 {arg0 : Value} {h : Hp} {post : Hp → Value → Prop} (hg : ∀ w0, Gs w0 h h [] (s36 Tryz.prog arg0 (RetP w0 h post))) : Ct Tryz.prog 36 [arg0] h post := Ct.of (sf := s36 Tryz.prog arg0) (c36 arg0) hg
theorem in36 {arg0 : Value} {S : WP} {K : Value → WP} (hg : G S (s36 Tryz.prog arg0 K)) : G S (Do Tryz.prog (vCall (.func (.func 36) #[] ⟨[]⟩) [arg0]) K) := Gs.into (args := [arg0]) (caps := []) (sf := s36 Tryz.prog arg0) (c36 arg0) hg

/- (*skewer/value.node).number : names 0 n, 1 n, 4 ends, 5 i, 6 l, 7 _, 8 x, 9 y, 10 ok, 11 x, 12 e -/
def s37 (P : Program) (arg0 : Value) (K : Value → WP) : WP :=
  Do P (V (Instr.alloc 36 true (.tuple #[]))) fun t1_2 =>
  Do P (V (Instr.alloc 86 true (.tuple #[]))) fun ends2 =>
  Dr <|
  Qk P (vNil arg0) fun C3 t3_14 =>
  Qk P (V (Instr.fieldAt 53 t3_14 1)) fun C4 t4_15 =>
  Qk P (V (Instr.loadAt 51 t4_15)) fun C5 t5_16 =>
  Qk P (vNil arg0) fun C6 t6_18 =>
  Qk P (V (Instr.fieldAt 53 t6_18 2)) fun C7 t7_19 =>
  Qk P (V (Instr.loadAt 51 t7_19)) fun C8 t8_20 =>
  Qk P (vBuild 87 [(0, t5_16), (1, t8_20)]) fun C9 t9_21 =>
  Lp (α := Value) (fun c10 s10 => Jk fun _ => -- t22
   Do P (V (binOp .lss 3 s10 (.int .i64 2))) fun t11_23 =>
   If t11_23 (
    Do P (V (Instr.index 87 t9_21 s10)) fun t12_25 =>
    Do P (vBuiltin .len #[51] 3 [t12_25]) fun t13_27 =>
    Do P (V (binOp .gtr 3 t13_27 (.int .i64 1))) fun t14_28 =>
    If t14_28 (
     Do P (vBuild 36 []) fun t15_29 =>
     Do P (U (Instr.storeAt 36 t1_2 t15_29)) fun t16_x =>
     RetC P 36 t1_2 fun r => K (.tuple #[r, (.bool false)])
    ) (
     Do P (vBuiltin .len #[51] 3 [t12_25]) fun t17_31 =>
     Lp (α := Value) (fun c18 s18 => Jk fun _ => -- t32
      Do P (V (binOp .lss 3 s18 t17_31)) fun t19_33 =>
      If t19_33 (
       Do P (V (Instr.indexAt 51 t12_25 s18)) fun t20_34 =>
       Do P (V (Instr.loadAt 49 t20_34)) fun t21_35 =>
       Do P (vCall (.func (.func 37) #[] ⟨[]⟩) [t21_35]) fun t22_38 =>
       Do P (V (Instr.extract t22_38 0)) fun t23_39 =>
       Do P (V (Instr.extract t22_38 1)) fun t24_40 =>
       Do P (V (Instr.alloc 36 true (.tuple #[]))) fun y25 =>
       Do P (U (Instr.storeAt 36 y25 t23_39)) fun t26_x =>
       Do P (V (Op.unary .not t24_40)) fun t27_42 =>
       If t27_42 (
        Do P (vBuild 36 []) fun t28_43 =>
        Do P (U (Instr.storeAt 36 t1_2 t28_43)) fun t29_x =>
        RetC P 36 t1_2 fun r => K (.tuple #[r, (.bool false)])
       ) (
        Do P (V (Instr.loadAt 36 y25)) fun t30_45 =>
        Do P (V (Instr.indexAt 86 ends2 s10)) fun t31_46 =>
        Do P (U (Instr.storeAt 36 t31_46 t30_45)) fun t32_x =>
        Do P (V (binOp .add 3 s18 (.int .i64 1))) fun t33_47 =>
        c18 t33_47
       )
      ) (
       Do P (V (binOp .add 3 s10 (.int .i64 1))) fun t34_48 =>
       c10 t34_48
      )
     ) (.int .i64 0)
    )
   ) (
    Dr <|
    Qk P (vNil arg0) fun C35 t35_51 =>
    Qk P (V (Instr.fieldAt 53 t35_51 1)) fun C36 t36_52 =>
    Qk P (V (Instr.loadAt 51 t36_52)) fun C37 t37_53 =>
    Qk P (vBuiltin .len #[51] 3 [t37_53]) fun C38 t38_54 =>
    Qk P (vNil arg0) fun C39 t39_56 =>
    Qk P (V (Instr.fieldAt 53 t39_56 2)) fun C40 t40_57 =>
    Qk P (V (Instr.loadAt 51 t40_57)) fun C41 t41_58 =>
    Qk P (vBuiltin .len #[51] 3 [t41_58]) fun C42 t42_59 =>
    Qk P (V (binOp .add 3 t38_54 t42_59)) fun C43 t43_60 =>
    Qk P (V (EqG .eql 3 (.tmp 60) (.const (.int .i64 0)) t43_60 (.int .i64 0))) fun C44 t44_61 =>
    If t44_61 (
     Do P (vBuild 36 []) fun t45_62 =>
     Do P (U (Instr.storeAt 36 t1_2 t45_62)) fun t46_x =>
     RetC P 36 t1_2 fun r => K (.tuple #[r, (.bool true)])
    ) (
     Do P (vNil arg0) fun t47_65 =>
     Do P (V (Instr.fieldAt 53 t47_65 2)) fun t48_66 =>
     Do P (V (Instr.loadAt 51 t48_66)) fun t49_67 =>
     Do P (vBuiltin .len #[51] 3 [t49_67]) fun t50_68 =>
     Do P (V (EqG .eql 3 (.tmp 68) (.const (.int .i64 0)) t50_68 (.int .i64 0))) fun t51_69 =>
     If t51_69 (
      Do P (V (Instr.indexAt 86 ends2 (.int .i64 0))) fun t52_70 =>
      Do P (V (Instr.fieldAt 36 t52_70 0)) fun t53_71 =>
      Do P (V (Instr.loadAt 3 t53_71)) fun t54_72 =>
      Do P (V (binOp .add 3 t54_72 (.int .i64 1))) fun t55_73 =>
      Do P (vBuild 36 [(0, t55_73)]) fun t56_74 =>
      Do P (U (Instr.storeAt 36 t1_2 t56_74)) fun t57_x =>
      RetC P 36 t1_2 fun r => K (.tuple #[r, (.bool true)])
     ) (
      Do P (vNil arg0) fun t58_77 =>
      Do P (V (Instr.fieldAt 53 t58_77 1)) fun t59_78 =>
      Do P (V (Instr.loadAt 51 t59_78)) fun t60_79 =>
      Do P (vBuiltin .len #[51] 3 [t60_79]) fun t61_80 =>
      Do P (V (EqG .eql 3 (.tmp 80) (.const (.int .i64 0)) t61_80 (.int .i64 0))) fun t62_81 =>
      If t62_81 (
       Do P (V (Instr.indexAt 86 ends2 (.int .i64 1))) fun t63_82 =>
       Do P (V (Instr.fieldAt 36 t63_82 0)) fun t64_83 =>
       Do P (V (Instr.loadAt 3 t64_83)) fun t65_84 =>
       Do P (V (binOp .sub 3 t65_84 (.int .i64 1))) fun t66_85 =>
       Do P (vBuild 36 [(0, t66_85)]) fun t67_86 =>
       Do P (U (Instr.storeAt 36 t1_2 t67_86)) fun t68_x =>
       RetC P 36 t1_2 fun r => K (.tuple #[r, (.bool true)])
      ) (
       Do P (V (Instr.indexAt 86 ends2 (.int .i64 0))) fun t69_88 =>
       Do P (V (Instr.loadAt 36 t69_88)) fun t70_89 =>
       Do P (V (Instr.indexAt 86 ends2 (.int .i64 1))) fun t71_90 =>
       Do P (V (Instr.loadAt 36 t71_90)) fun t72_91 =>
       Do P (vCall (.func (.func 54) #[] ⟨[]⟩) [t70_89, t72_91]) fun t73_92 =>
       Do P (V (binOp .geq 3 t73_92 (.int .i64 0))) fun t74_93 =>
       If t74_93 (
        Do P (vBuild 36 []) fun t75_94 =>
        Do P (U (Instr.storeAt 36 t1_2 t75_94)) fun t76_x =>
        RetC P 36 t1_2 fun r => K (.tuple #[r, (.bool false)])
       ) (
        Do P (V (Instr.indexAt 86 ends2 (.int .i64 0))) fun t77_96 =>
        Do P (V (Instr.loadAt 36 t77_96)) fun t78_97 =>
        Do P (V (Instr.indexAt 86 ends2 (.int .i64 1))) fun t79_98 =>
        Do P (V (Instr.loadAt 36 t79_98)) fun t80_99 =>
        Do P (vCall (.func (.func 55) #[] ⟨[]⟩) [t78_97, t80_99]) fun t81_100 =>
        Do P (V (Instr.extract t81_100 0)) fun t82_101 =>
        Do P (V (Instr.extract t81_100 1)) fun t83_102 =>
        Do P (V (Instr.alloc 36 true (.tuple #[]))) fun x84 =>
        Do P (U (Instr.storeAt 36 x84 t82_101)) fun t85_x =>
        Do P (V (Instr.loadAt 36 x84)) fun t86_103 =>
        Do P (V (EqG .eql 39 (.tmp 104) (.const (.int .i64 0)) t83_102 (.int .i64 0))) fun t87_105 =>
        Do P (U (Instr.storeAt 36 t1_2 t86_103)) fun t88_x =>
        RetC P 36 t1_2 fun r => K (.tuple #[r, t87_105])
       )
      )
     )
    )
   )
  ) (.int .i64 0)
def A37 : Ann := .s (.n) (.s (.n) (.s (.s (.plan [(0, 1, 8192), (1, 8192, 16384), (2, 16384, 32768), (4, 32768, 65536), (0, 1, 131072), (16, 131072, 262144), (32, 262144, 524288), (64, 524288, 1048576), (136, 1114112, 2097152), (0, 0, 4194304)] (.q 0 (.q 1 (.q 2 (.q 3 (.q 4 (.q 5 (.q 6 (.q 7 (.q 8 (.q 9 .done))))))))))) (.lp [22] 562949949228904 (.s (.n) (.s (.s (.n) (.n)) (.s (.s (.n) (.s (.s (.n) (.s (.s (.n) (.n)) (.n))) (.s (.n) (.lp [32] 281470681745160 (.s (.n) (.s (.s (.n) (.n)) (.s (.s (.n) (.s (.n) (.s (.s (.n) (.s (.s (.n) (.n)) (.n))) (.n)))) (.n)))))))) (.n)))))) (.s (.s (.plan [(0, 1, 1125899906842624), (1, 1125899906842624, 2251799813685248), (2, 2251799813685248, 4503599627370496), (4, 4503599627370496, 9007199254740992), (8, 9007199254740992, 18014398509481984), (0, 1, 36028797018963968), (32, 36028797018963968, 72057594037927936), (64, 72057594037927936, 144115188075855872), (128, 144115188075855872, 288230376151711744), (256, 288230376151711744, 576460752303423488), (528, 594475150812905472, 1152921504606846976), (1024, 1152921504606846976, 2305843009213693952), (2048, 2305843009213693952, 562949953421312)] (.q 0 (.q 1 (.q 2 (.q 3 (.q 4 (.q 5 (.q 6 (.q 7 (.q 8 (.q 9 (.q 10 (.q 11 (.q 12 .done)))))))))))))) (.s (.s (.n) (.n)) (.s (.n) (.s (.s (.n) (.n)) (.s (.n) (.s (.s (.n) (.n)) (.s (.n) (.s (.s (.n) (.n)) (.n))))))))) (.s (.n) (.s (.n) (.n))))))
set_option maxRecDepth 100000 in
theorem c37 (arg0 : Value) (K : Value → WP) (w : World) (h : s37 Tryz.prog arg0 K w) : Runs Tryz.prog 37 [arg0] K w :=
  runs_of_E wide (fn := Tryz.f37) (c := Tryz.f37.body.getD .skip) 106 A37 [arg0] w K Tryz.func37 (by kernel_rfl) (by kernel_rfl) (by kernel_rfl) (by kernel_rfl)
    (Eq.mp (by kernel_rfl : s37 Tryz.prog arg0 K w = E Tryz.prog (Tryz.f37.body.getD .skip) A37 (topK Tryz.prog K Tryz.f37.results) (fun i => (([arg0] : List Value)[i]?).getD undef) w) h)
theorem ct37 {arg0 : Value} {h : Hp} {post : Hp → Value → Prop} (hg : ∀ w0, Gs w0 h h [] (s37 Tryz.prog arg0 (RetP w0 h post))) : Ct Tryz.prog 37 [arg0] h post := Ct.of (sf := s37 Tryz.prog arg0) (c37 arg0) hg
theorem in37 {arg0 : Value} {S : WP} {K : Value → WP} (hg : G S (s37 Tryz.prog arg0 K)) : G S (Do Tryz.prog (vCall (.func (.func 37) #[] ⟨[]⟩) [arg0]) K) := Gs.into (args := [arg0]) (caps := []) (sf := s37 Tryz.prog arg0) (c37 arg0) hg

/- skewer/skewerref20.read : names 0 f, 1 f, 3 a, 4 b, 5 x, 6 e -/
def s38 (P : Program) (arg0 : Value) (K : Value → WP) : WP :=
  Do P (V (Instr.box 28 arg0)) fun f1 =>
  Do P (V (Instr.alloc 63 true (.tuple #[]))) fun t2_2 =>
  Jn (α := Value) (fun j3 => Jk fun _ => -- t16
   If j3 (
    Do P (vBuild 63 []) fun t4_17 =>
    Do P (U (Instr.storeAt 63 t2_2 t4_17)) fun t5_x =>
    RetC P 63 t2_2 K
   ) (
    Do P (V (Instr.loadAt 28 f1)) fun t6_18 =>
    Do P (vCall (.func (.func 56) #[] ⟨[]⟩) [t6_18]) fun t7_19 =>
    If t7_19 (
     Do P (vCall (.func (.func 57) #[] ⟨[]⟩) [(.int .i64 0)]) fun t8_20 =>
     Do P (U (Instr.storeAt 63 t2_2 t8_20)) fun t9_x =>
     RetC P 63 t2_2 K
    ) (
     Do P (vBuild 63 []) fun t10_21 =>
     Do P (vBuild 63 []) fun t11_22 =>
     Do P (V (Instr.alloc 63 true (.tuple #[]))) fun a12 =>
     Do P (V (Instr.alloc 63 true (.tuple #[]))) fun b13 =>
     Do P (U (Instr.storeAt 63 a12 t10_21)) fun t14_x =>
     Do P (U (Instr.storeAt 63 b13 t11_22)) fun t15_x =>
     Jn (α := Unit) (fun j16 => Jk fun _ => -- 
      Jn (α := Unit) (fun j17 => Jk fun _ => -- 
       Jn (α := Value) (fun j18 => Jk fun _ => -- t60
        If j18 (
         Do P (vBuild 63 []) fun t19_61 =>
         Do P (U (Instr.storeAt 63 t2_2 t19_61)) fun t20_x =>
         RetC P 63 t2_2 K
        ) (
         Do P (V (Instr.fieldAt 28 f1 1)) fun t21_62 =>
         Do P (V (Instr.loadAt 26 t21_62)) fun t22_63 =>
         Do P (vBuiltin .len #[26] 3 [t22_63]) fun t23_64 =>
         Do P (V (EqG .eql 3 (.tmp 64) (.const (.int .i64 0)) t23_64 (.int .i64 0))) fun t24_65 =>
         If t24_65 (
          Do P (V (Instr.fieldAt 63 a12 0)) fun t25_66 =>
          Do P (V (Instr.fieldAt 36 t25_66 0)) fun t26_67 =>
          Do P (V (Instr.loadAt 3 t26_67)) fun t27_68 =>
          Do P (V (binOp .add 3 t27_68 (.int .i64 1))) fun t28_69 =>
          Do P (vCall (.func (.func 57) #[] ⟨[]⟩) [t28_69]) fun t29_70 =>
          Do P (U (Instr.storeAt 63 t2_2 t29_70)) fun t30_x =>
          RetC P 63 t2_2 K
         ) (
          Do P (V (Instr.fieldAt 28 f1 0)) fun t31_71 =>
          Do P (V (Instr.loadAt 26 t31_71)) fun t32_72 =>
          Do P (vBuiltin .len #[26] 3 [t32_72]) fun t33_73 =>
          Do P (V (EqG .eql 3 (.tmp 73) (.const (.int .i64 0)) t33_73 (.int .i64 0))) fun t34_74 =>
          If t34_74 (
           Do P (V (Instr.fieldAt 63 b13 0)) fun t35_75 =>
           Do P (V (Instr.fieldAt 36 t35_75 0)) fun t36_76 =>
           Do P (V (Instr.loadAt 3 t36_76)) fun t37_77 =>
           Do P (V (binOp .sub 3 t37_77 (.int .i64 1))) fun t38_78 =>
           Do P (vCall (.func (.func 57) #[] ⟨[]⟩) [t38_78]) fun t39_79 =>
           Do P (U (Instr.storeAt 63 t2_2 t39_79)) fun t40_x =>
           RetC P 63 t2_2 K
          ) (
           Do P (V (Instr.fieldAt 63 a12 0)) fun t41_80 =>
           Do P (V (Instr.loadAt 36 t41_80)) fun t42_81 =>
           Do P (V (Instr.fieldAt 63 b13 0)) fun t43_82 =>
           Do P (V (Instr.loadAt 36 t43_82)) fun t44_83 =>
           Do P (vCall (.func (.func 58) #[] ⟨[]⟩) [t42_81, t44_83]) fun t45_84 =>
           Do P (V (binOp .geq 3 t45_84 (.int .i64 0))) fun t46_85 =>
           If t46_85 (
            Do P (vBuild 63 []) fun t47_86 =>
            Do P (U (Instr.storeAt 63 t2_2 t47_86)) fun t48_x =>
            RetC P 63 t2_2 K
           ) (
            Do P (V (Instr.fieldAt 63 a12 0)) fun t49_88 =>
            Do P (V (Instr.loadAt 36 t49_88)) fun t50_89 =>
            Do P (V (Instr.fieldAt 63 b13 0)) fun t51_90 =>
            Do P (V (Instr.loadAt 36 t51_90)) fun t52_91 =>
            Do P (vCall (.func (.func 59) #[] ⟨[]⟩) [t50_89, t52_91]) fun t53_92 =>
            Do P (V (Instr.extract t53_92 0)) fun t54_93 =>
            Do P (V (Instr.extract t53_92 1)) fun t55_94 =>
            Do P (V (Instr.alloc 36 true (.tuple #[]))) fun x56 =>
            Do P (U (Instr.storeAt 36 x56 t54_93)) fun t57_x =>
            Do P (V (EqG .neq 39 (.tmp 95) (.const (.int .i64 0)) t55_94 (.int .i64 0))) fun t58_96 =>
            If t58_96 (
             Do P (vBuild 63 []) fun t59_97 =>
             Do P (U (Instr.storeAt 63 t2_2 t59_97)) fun t60_x =>
             RetC P 63 t2_2 K
            ) (
             Do P (V (Instr.loadAt 36 x56)) fun t61_98 =>
             Do P (vBuild 63 [(0, t61_98), (1, (.bool true))]) fun t62_99 =>
             Do P (U (Instr.storeAt 63 t2_2 t62_99)) fun t63_x =>
             RetC P 63 t2_2 K
            )
           )
          )
         )
        )
       ) fun k18 =>
       Do P (V (Instr.fieldAt 28 f1 0)) fun t64_41 =>
       Do P (V (Instr.loadAt 26 t64_41)) fun t65_42 =>
       Do P (vBuiltin .len #[26] 3 [t65_42]) fun t66_43 =>
       Do P (V (EqG .eql 3 (.tmp 43) (.const (.int .i64 1)) t66_43 (.int .i64 1))) fun t67_44 =>
       Gd t67_44 true (
        Do P (V (Instr.fieldAt 63 a12 1)) fun t68_46 =>
        Do P (V (Instr.loadAt 4 t68_46)) fun t69_47 =>
        Do P (V (Op.unary .not t69_47)) fun t70_48 =>
        Gd t70_48 false (
         Do P (V (Instr.fieldAt 28 f1 1)) fun t71_51 =>
         Do P (V (Instr.loadAt 26 t71_51)) fun t72_52 =>
         Do P (vBuiltin .len #[26] 3 [t72_52]) fun t73_53 =>
         Do P (V (EqG .eql 3 (.tmp 53) (.const (.int .i64 1)) t73_53 (.int .i64 1))) fun t74_54 =>
         Gd t74_54 true (
          Do P (V (Instr.fieldAt 63 b13 1)) fun t75_56 =>
          Do P (V (Instr.loadAt 4 t75_56)) fun t76_57 =>
          Do P (V (Op.unary .not t76_57)) fun t77_58 =>
          k18 t77_58
         ) (
          k18 (.bool false)
         )
        ) (
         k18 (.bool true)
        )
       ) (
        Do P (V (Instr.fieldAt 28 f1 1)) fun t78_51 =>
        Do P (V (Instr.loadAt 26 t78_51)) fun t79_52 =>
        Do P (vBuiltin .len #[26] 3 [t79_52]) fun t80_53 =>
        Do P (V (EqG .eql 3 (.tmp 53) (.const (.int .i64 1)) t80_53 (.int .i64 1))) fun t81_54 =>
        Gd t81_54 true (
         Do P (V (Instr.fieldAt 63 b13 1)) fun t82_56 =>
         Do P (V (Instr.loadAt 4 t82_56)) fun t83_57 =>
         Do P (V (Op.unary .not t83_57)) fun t84_58 =>
         k18 t84_58
        ) (
         k18 (.bool false)
        )
       )
      ) fun k17 =>
      Do P (V (Instr.fieldAt 28 f1 1)) fun t85_32 =>
      Do P (V (Instr.loadAt 26 t85_32)) fun t86_33 =>
      Do P (vBuiltin .len #[26] 3 [t86_33]) fun t87_34 =>
      Do P (V (EqG .eql 3 (.tmp 34) (.const (.int .i64 1)) t87_34 (.int .i64 1))) fun t88_35 =>
      If t88_35 (
       Do P (V (Instr.fieldAt 28 f1 1)) fun t89_36 =>
       Do P (V (Instr.loadAt 26 t89_36)) fun t90_37 =>
       Do P (V (Instr.indexAt 26 t90_37 (.int .i64 0))) fun t91_38 =>
       Do P (V (Instr.loadAt 28 t91_38)) fun t92_39 =>
       Do P (vCall (.func (.func 38) #[] ⟨[]⟩) [t92_39]) fun t93_40 =>
       Do P (U (Instr.storeAt 63 b13 t93_40)) fun t94_x =>
       k17 ()
      ) (
       k17 ()
      )
     ) fun k16 =>
     Do P (V (Instr.fieldAt 28 f1 0)) fun t95_23 =>
     Do P (V (Instr.loadAt 26 t95_23)) fun t96_24 =>
     Do P (vBuiltin .len #[26] 3 [t96_24]) fun t97_25 =>
     Do P (V (EqG .eql 3 (.tmp 25) (.const (.int .i64 1)) t97_25 (.int .i64 1))) fun t98_26 =>
     If t98_26 (
      Do P (V (Instr.fieldAt 28 f1 0)) fun t99_27 =>
      Do P (V (Instr.loadAt 26 t99_27)) fun t100_28 =>
      Do P (V (Instr.indexAt 26 t100_28 (.int .i64 0))) fun t101_29 =>
      Do P (V (Instr.loadAt 28 t101_29)) fun t102_30 =>
      Do P (vCall (.func (.func 38) #[] ⟨[]⟩) [t102_30]) fun t103_31 =>
      Do P (U (Instr.storeAt 63 a12 t103_31)) fun t104_x =>
      k16 ()
     ) (
      k16 ()
     )
    )
   )
  ) fun k3 =>
  Do P (V (Instr.fieldAt 28 f1 0)) fun t105_7 =>
  Do P (V (Instr.loadAt 26 t105_7)) fun t106_8 =>
  Do P (vBuiltin .len #[26] 3 [t106_8]) fun t107_9 =>
  Do P (V (binOp .gtr 3 t107_9 (.int .i64 1))) fun t108_10 =>
  Gd t108_10 false (
   Do P (V (Instr.fieldAt 28 f1 1)) fun t109_12 =>
   Do P (V (Instr.loadAt 26 t109_12)) fun t110_13 =>
   Do P (vBuiltin .len #[26] 3 [t110_13]) fun t111_14 =>
   Do P (V (binOp .gtr 3 t111_14 (.int .i64 1))) fun t112_15 =>
   k3 t112_15
  ) (
   k3 (.bool true)
  )
def A38 : Ann := .s (.n) (.s (.j [16] 130944 (.n) (.s (.s (.n) (.n)) (.n))) (.s (.s (.n) (.s (.s (.n) (.n)) (.n))) (.s (.n) (.j [] 4286578688 (.s (.n) (.s (.n) (.n))) (.j [] 2194728288256 (.s (.n) (.s (.n) (.n))) (.s (.j [60] 2305840810190438400 (.n) (.s (.s (.n) (.n)) (.n))) (.s (.s (.n) (.s (.s (.n) (.n)) (.n))) (.s (.s (.n) (.s (.s (.n) (.n)) (.n))) (.s (.s (.n) (.s (.s (.n) (.n)) (.n))) (.s (.n) (.s (.s (.n) (.s (.s (.n) (.n)) (.n))) (.s (.n) (.n)))))))))))))
set_option maxRecDepth 100000 in
theorem c38 (arg0 : Value) (K : Value → WP) (w : World) (h : s38 Tryz.prog arg0 K w) : Runs Tryz.prog 38 [arg0] K w :=
  runs_of_E wide (fn := Tryz.f38) (c := Tryz.f38.body.getD .skip) 100 A38 [arg0] w K Tryz.func38 (by kernel_rfl) (by kernel_rfl) (by kernel_rfl) (by kernel_rfl)
    (Eq.mp (by kernel_rfl : s38 Tryz.prog arg0 K w = E Tryz.prog (Tryz.f38.body.getD .skip) A38 (topK Tryz.prog K Tryz.f38.results) (fun i => (([arg0] : List Value)[i]?).getD undef) w) h)
theorem ct38 {arg0 : Value} {h : Hp} {post : Hp → Value → Prop} (hg : ∀ w0, Gs w0 h h [] (s38 Tryz.prog arg0 (RetP w0 h post))) : Ct Tryz.prog 38 [arg0] h post := Ct.of (sf := s38 Tryz.prog arg0) (c38 arg0) hg
theorem in38 {arg0 : Value} {S : WP} {K : Value → WP} (hg : G S (s38 Tryz.prog arg0 K)) : G S (Do Tryz.prog (vCall (.func (.func 38) #[] ⟨[]⟩) [arg0]) K) := Gs.into (args := [arg0]) (caps := []) (sf := s38 Tryz.prog arg0) (c38 arg0) hg

/- skewer/dyad.Valid : names 0 x, 1 x -/
def s39 (P : Program) (arg0 : Value) (K : Value → WP) : WP :=
  Do P (V (Instr.box 36 arg0)) fun x1 =>
  Do P (V (Instr.fieldAt 36 x1 1)) fun t2_3 =>
  Do P (V (Instr.loadAt 3 t2_3)) fun t3_4 =>
  Do P (V (binOp .leq 3 (.int .i64 0) t3_4)) fun t4_5 =>
  Gd t4_5 true (
   Do P (V (Instr.fieldAt 36 x1 1)) fun t5_7 =>
   Do P (V (Instr.loadAt 3 t5_7)) fun t6_8 =>
   Do P (V (binOp .leq 3 t6_8 (.int .i64 30))) fun t7_9 =>
   Gd t7_9 true (
    Do P (V (Instr.fieldAt 36 x1 0)) fun t8_12 =>
    Do P (V (Instr.loadAt 3 t8_12)) fun t9_13 =>
    Do P (V (binOp .leq 3 (.int .i64 (-1099511627776)) t9_13)) fun t10_14 =>
    Gd t10_14 true (
     Do P (V (Instr.fieldAt 36 x1 0)) fun t11_17 =>
     Do P (V (Instr.loadAt 3 t11_17)) fun t12_18 =>
     Do P (V (binOp .leq 3 t12_18 (.int .i64 1099511627776))) fun t13_19 =>
     Gd t13_19 true (
      Do P (V (Instr.fieldAt 36 x1 1)) fun t14_22 =>
      Do P (V (Instr.loadAt 3 t14_22)) fun t15_23 =>
      Do P (V (EqG .eql 3 (.tmp 23) (.const (.int .i64 0)) t15_23 (.int .i64 0))) fun t16_24 =>
      Gd t16_24 false (
       Do P (V (Instr.fieldAt 36 x1 0)) fun t17_26 =>
       Do P (V (Instr.loadAt 3 t17_26)) fun t18_27 =>
       Do P (V (binOp .and 3 t18_27 (.int .i64 1))) fun t19_28 =>
       Do P (V (EqG .eql 3 (.tmp 28) (.const (.int .i64 1)) t19_28 (.int .i64 1))) fun t20_29 =>
       K t20_29
      ) (
       K (.bool true)
      )
     ) (
      K (.bool false)
     )
    ) (
     K (.bool false)
    )
   ) (
    K (.bool false)
   )
  ) (
   K (.bool false)
  )
def A39 : Ann := .s (.n) (.s (.n) (.n))
set_option maxRecDepth 100000 in
theorem c39 (arg0 : Value) (K : Value → WP) (w : World) (h : s39 Tryz.prog arg0 K w) : Runs Tryz.prog 39 [arg0] K w :=
  runs_of_E wide (fn := Tryz.f39) (c := Tryz.f39.body.getD .skip) 32 A39 [arg0] w K Tryz.func39 (by kernel_rfl) (by kernel_rfl) (by kernel_rfl) (by kernel_rfl)
    (Eq.mp (by kernel_rfl : s39 Tryz.prog arg0 K w = E Tryz.prog (Tryz.f39.body.getD .skip) A39 (topK Tryz.prog K Tryz.f39.results) (fun i => (([arg0] : List Value)[i]?).getD undef) w) h)
theorem ct39 {arg0 : Value} {h : Hp} {post : Hp → Value → Prop} (hg : ∀ w0, Gs w0 h h [] (s39 Tryz.prog arg0 (RetP w0 h post))) : Ct Tryz.prog 39 [arg0] h post := Ct.of (sf := s39 Tryz.prog arg0) (c39 arg0) hg
theorem in39 {arg0 : Value} {S : WP} {K : Value → WP} (hg : G S (s39 Tryz.prog arg0 K)) : G S (Do Tryz.prog (vCall (.func (.func 39) #[] ⟨[]⟩) [arg0]) K) := Gs.into (args := [arg0]) (caps := []) (sf := s39 Tryz.prog arg0) (c39 arg0) hg

/- skewer/value.build : names 0 x, 1 room, 2 x, 3 room, 4 f, 5 l, 6 r, 7 _, 8 y, 9 _, 10 y -/
def s40 (P : Program) (arg0 arg1 : Value) (K : Value → WP) : WP :=
  Do P (V (Instr.box 36 arg0)) fun x1 =>
  Do P (V (Instr.alloc 28 true (.tuple #[]))) fun f2 =>
  Do P (vNil arg1) fun t3_12 =>
  Do P (V (Instr.loadAt 3 t3_12)) fun t4_13 =>
  Do P (V (binOp .sub 3 t4_13 (.int .i64 1))) fun t5_14 =>
  Do P (vNil arg1) fun t6_15 =>
  Do P (U (Instr.storeAt 3 t6_15 t5_14)) fun t7_x =>
  Do P (vNil arg1) fun t8_17 =>
  Do P (V (Instr.loadAt 3 t8_17)) fun t9_18 =>
  Do P (V (binOp .lss 3 t9_18 (.int .i64 0))) fun t10_19 =>
  If t10_19 (
   Do P (V (Instr.loadAt 28 f2)) fun t11_20 =>
   Do P (U (Instr.storeAt 28 f2 t11_20)) fun t12_x =>
   RetC P 28 f2 K
  ) (
   Do P (V (Instr.loadAt 36 x1)) fun t13_22 =>
   Do P (vCall (.func (.func 60) #[] ⟨[]⟩) [t13_22]) fun t14_23 =>
   Do P (V (Instr.extract t14_23 0)) fun t15_24 =>
   Do P (V (Instr.extract t14_23 1)) fun t16_25 =>
   Do P (vBuiltin .len #[93] 3 [t15_24]) fun t17_27 =>
   Lp (α := Value) (fun c18 s18 => Jk fun _ => -- t28
    Do P (V (binOp .lss 3 s18 t17_27)) fun t19_29 =>
    If t19_29 (
     Do P (V (Instr.indexAt 93 t15_24 s18)) fun t20_30 =>
     Do P (V (Instr.loadAt 36 t20_30)) fun t21_31 =>
     Do P (V (Instr.alloc 36 true (.tuple #[]))) fun y22 =>
     Do P (U (Instr.storeAt 36 y22 t21_31)) fun t23_x =>
     Dr <|
     Qk P (V (Instr.fieldAt 28 f2 0)) fun C24 t24_32 =>
     Qk P (V (Instr.loadAt 26 t24_32)) fun C25 t25_33 =>
     Qk P (V (Instr.loadAt 36 y22)) fun C26 t26_34 =>
     Do P (vCall (.func (.func 40) #[] ⟨[]⟩) [t26_34, arg1]) fun t27_36 =>
     With C25 <|
     With C24 <|
     Do P (vBuildSlice 26 1 [(0, t27_36)]) fun t28_37 =>
     With C25 <|
     With C24 <|
     Do P (vBuiltin .append #[26, 26] 26 [t25_33, t28_37]) fun t29_38 =>
     Qk P (V (Instr.fieldAt 28 f2 0)) fun C30 t30_39 =>
     Do P (U (Instr.storeAt 26 t30_39 t29_38)) fun t31_x =>
     Do P (V (binOp .add 3 s18 (.int .i64 1))) fun t32_40 =>
     c18 t32_40
    ) (
     Do P (vBuiltin .len #[93] 3 [t16_25]) fun t33_42 =>
     Lp (α := Value) (fun c34 s34 => Jk fun _ => -- t43
      Do P (V (binOp .lss 3 s34 t33_42)) fun t35_44 =>
      If t35_44 (
       Do P (V (Instr.indexAt 93 t16_25 s34)) fun t36_45 =>
       Do P (V (Instr.loadAt 36 t36_45)) fun t37_46 =>
       Do P (V (Instr.alloc 36 true (.tuple #[]))) fun y38 =>
       Do P (U (Instr.storeAt 36 y38 t37_46)) fun t39_x =>
       Dr <|
       Qk P (V (Instr.fieldAt 28 f2 1)) fun C40 t40_47 =>
       Qk P (V (Instr.loadAt 26 t40_47)) fun C41 t41_48 =>
       Qk P (V (Instr.loadAt 36 y38)) fun C42 t42_49 =>
       Do P (vCall (.func (.func 40) #[] ⟨[]⟩) [t42_49, arg1]) fun t43_51 =>
       With C41 <|
       With C40 <|
       Do P (vBuildSlice 26 1 [(0, t43_51)]) fun t44_52 =>
       With C41 <|
       With C40 <|
       Do P (vBuiltin .append #[26, 26] 26 [t41_48, t44_52]) fun t45_53 =>
       Qk P (V (Instr.fieldAt 28 f2 1)) fun C46 t46_54 =>
       Do P (U (Instr.storeAt 26 t46_54 t45_53)) fun t47_x =>
       Do P (V (binOp .add 3 s34 (.int .i64 1))) fun t48_55 =>
       c34 t48_55
      ) (
       Do P (V (Instr.loadAt 28 f2)) fun t49_56 =>
       Do P (U (Instr.storeAt 28 f2 t49_56)) fun t50_x =>
       RetC P 28 f2 K
      )
     ) (.int .i64 0)
    )
   ) (.int .i64 0)
  )
def A40 : Ann := .s (.n) (.s (.s (.n) (.s (.n) (.s (.s (.n) (.n)) (.n)))) (.s (.n) (.s (.s (.n) (.lp [28] 2198754820352 (.s (.n) (.s (.s (.n) (.n)) (.s (.s (.n) (.plan [(0, 16, 4294967296), (1, 4294967296, 8589934592), (0, 256, 17179869184), (0, 2, 34359738368), (12, 51539607552, 68719476736), (16, 68719476736, 137438953472), (50, 146028888064, 274877906944), (127, 16, 549755813888), (255, 824633720832, 0)] (.q 0 (.q 1 (.q 2 (.q 3 (.l 4 (.l 5 (.l 6 (.q 7 (.l 8 .done))))))))))) (.n)))))) (.s (.s (.n) (.lp [43] 72048797944906752 (.s (.n) (.s (.s (.n) (.n)) (.s (.s (.n) (.plan [(0, 16, 140737488355328), (1, 140737488355328, 281474976710656), (0, 1024, 562949953421312), (0, 2, 1125899906842624), (12, 1688849860263936, 2251799813685248), (16, 2251799813685248, 4503599627370496), (50, 4785074604081152, 9007199254740992), (127, 16, 18014398509481984), (255, 27021597764222976, 0)] (.q 0 (.q 1 (.q 2 (.q 3 (.l 4 (.l 5 (.l 6 (.q 7 (.l 8 .done))))))))))) (.n)))))) (.s (.n) (.n))))))
set_option maxRecDepth 100000 in
theorem c40 (arg0 arg1 : Value) (K : Value → WP) (w : World) (h : s40 Tryz.prog arg0 arg1 K w) : Runs Tryz.prog 40 [arg0, arg1] K w :=
  runs_of_E wide (fn := Tryz.f40) (c := Tryz.f40.body.getD .skip) 57 A40 [arg0, arg1] w K Tryz.func40 (by kernel_rfl) (by kernel_rfl) (by kernel_rfl) (by kernel_rfl)
    (Eq.mp (by kernel_rfl : s40 Tryz.prog arg0 arg1 K w = E Tryz.prog (Tryz.f40.body.getD .skip) A40 (topK Tryz.prog K Tryz.f40.results) (fun i => (([arg0, arg1] : List Value)[i]?).getD undef) w) h)
theorem ct40 {arg0 arg1 : Value} {h : Hp} {post : Hp → Value → Prop} (hg : ∀ w0, Gs w0 h h [] (s40 Tryz.prog arg0 arg1 (RetP w0 h post))) : Ct Tryz.prog 40 [arg0, arg1] h post := Ct.of (sf := s40 Tryz.prog arg0 arg1) (c40 arg0 arg1) hg
theorem in40 {arg0 arg1 : Value} {S : WP} {K : Value → WP} (hg : G S (s40 Tryz.prog arg0 arg1 K)) : G S (Do Tryz.prog (vCall (.func (.func 40) #[] ⟨[]⟩) [arg0, arg1]) K) := Gs.into (args := [arg0, arg1]) (caps := []) (sf := s40 Tryz.prog arg0 arg1) (c40 arg0 arg1) hg

/- skewer/skewerref19.Valid : names 0 x, 1 x -/
def s41 (P : Program) (arg0 : Value) (K : Value → WP) : WP :=
  Do P (V (Instr.box 36 arg0)) fun x1 =>
  Jn (α := Value) (fun j2 => Jk fun _ => -- t20
   If j2 (
    K (.bool false)
   ) (
    Do P (V (Instr.fieldAt 36 x1 1)) fun t3_21 =>
    Do P (V (Instr.loadAt 3 t3_21)) fun t4_22 =>
    Do P (V (EqG .eql 3 (.tmp 22) (.const (.int .i64 0)) t4_22 (.int .i64 0))) fun t5_23 =>
    Gd t5_23 false (
     Do P (V (Instr.fieldAt 36 x1 0)) fun t6_25 =>
     Do P (V (Instr.loadAt 3 t6_25)) fun t7_26 =>
     Do P (V (binOp .rem 3 t7_26 (.int .i64 2))) fun t8_27 =>
     Do P (V (EqG .neq 3 (.tmp 27) (.const (.int .i64 0)) t8_27 (.int .i64 0))) fun t9_28 =>
     K t9_28
    ) (
     K (.bool true)
    )
   )
  ) fun k2 =>
  Do P (V (Instr.fieldAt 36 x1 1)) fun t10_3 =>
  Do P (V (Instr.loadAt 3 t10_3)) fun t11_4 =>
  Do P (V (binOp .lss 3 t11_4 (.int .i64 0))) fun t12_5 =>
  Gd t12_5 false (
   Do P (V (Instr.fieldAt 36 x1 1)) fun t13_7 =>
   Do P (V (Instr.loadAt 3 t13_7)) fun t14_8 =>
   Do P (V (binOp .gtr 3 t14_8 (.int .i64 30))) fun t15_9 =>
   Gd t15_9 false (
    Do P (V (Instr.fieldAt 36 x1 0)) fun t16_12 =>
    Do P (V (Instr.loadAt 3 t16_12)) fun t17_13 =>
    Do P (V (binOp .lss 3 t17_13 (.int .i64 (-1099511627776)))) fun t18_14 =>
    Gd t18_14 false (
     Do P (V (Instr.fieldAt 36 x1 0)) fun t19_17 =>
     Do P (V (Instr.loadAt 3 t19_17)) fun t20_18 =>
     Do P (V (binOp .gtr 3 t20_18 (.int .i64 1099511627776))) fun t21_19 =>
     k2 t21_19
    ) (
     k2 (.bool true)
    )
   ) (
    k2 (.bool true)
   )
  ) (
   k2 (.bool true)
  )
def A41 : Ann := .s (.n) (.s (.j [20] 2097144 (.n) (.s (.s (.n) (.n)) (.n))) (.s (.n) (.n)))
set_option maxRecDepth 100000 in
theorem c41 (arg0 : Value) (K : Value → WP) (w : World) (h : s41 Tryz.prog arg0 K w) : Runs Tryz.prog 41 [arg0] K w :=
  runs_of_E wide (fn := Tryz.f41) (c := Tryz.f41.body.getD .skip) 30 A41 [arg0] w K Tryz.func41 (by kernel_rfl) (by kernel_rfl) (by kernel_rfl) (by kernel_rfl)
    (Eq.mp (by kernel_rfl : s41 Tryz.prog arg0 K w = E Tryz.prog (Tryz.f41.body.getD .skip) A41 (topK Tryz.prog K Tryz.f41.results) (fun i => (([arg0] : List Value)[i]?).getD undef) w) h)
theorem ct41 {arg0 : Value} {h : Hp} {post : Hp → Value → Prop} (hg : ∀ w0, Gs w0 h h [] (s41 Tryz.prog arg0 (RetP w0 h post))) : Ct Tryz.prog 41 [arg0] h post := Ct.of (sf := s41 Tryz.prog arg0) (c41 arg0) hg
theorem in41 {arg0 : Value} {S : WP} {K : Value → WP} (hg : G S (s41 Tryz.prog arg0 K)) : G S (Do Tryz.prog (vCall (.func (.func 41) #[] ⟨[]⟩) [arg0]) K) := Gs.into (args := [arg0]) (caps := []) (sf := s41 Tryz.prog arg0) (c41 arg0) hg

/- skewer/skewerref20.Long : names 0 x, 1 limit, 2 x, 3 limit, 5 n, 6 n -/
def s42 (P : Program) (arg0 arg1 : Value) (K : Value → WP) : WP :=
  Do P (V (Instr.box 36 arg0)) fun x1 =>
  Do P (V (binOp .leq 3 arg1 (.int .i64 0))) fun t2_8 =>
  If t2_8 (
   K (.int .i64 1)
  ) (
   Do P (V (Instr.fieldAt 36 x1 1)) fun t3_9 =>
   Do P (V (Instr.loadAt 3 t3_9)) fun t4_10 =>
   Do P (V (EqG .eql 3 (.tmp 10) (.const (.int .i64 0)) t4_10 (.int .i64 0))) fun t5_11 =>
   If t5_11 (
    Do P (V (Instr.fieldAt 36 x1 0)) fun t6_12 =>
    Do P (V (Instr.loadAt 3 t6_12)) fun t7_13 =>
    Do P (V (Instr.fieldAt 36 x1 0)) fun t8_14 =>
    Do P (V (Instr.loadAt 3 t8_14)) fun t9_15 =>
    Do P (V (binOp .sub 3 (.int .i64 0) t9_15)) fun t10_16 =>
    Do P (vBuiltin .max #[3, 3] 3 [t7_13, t10_16]) fun t11_17 =>
    Do P (vBuiltin .min #[3, 3] 3 [t11_17, (.int .i64 2000)]) fun t12_19 =>
    Do P (V (binOp .add 3 t12_19 (.int .i64 1))) fun t13_20 =>
    K t13_20
   ) (
    Do P (V (Instr.fieldAt 36 x1 0)) fun t14_21 =>
    Do P (V (Instr.loadAt 3 t14_21)) fun t15_22 =>
    Do P (V (binOp .sub 3 t15_22 (.int .i64 1))) fun t16_23 =>
    Do P (V (Instr.fieldAt 36 x1 1)) fun t17_24 =>
    Do P (V (Instr.loadAt 3 t17_24)) fun t18_25 =>
    Do P (vCall (.func (.func 61) #[] ⟨[]⟩) [t16_23, t18_25]) fun t19_26 =>
    Do P (V (binOp .sub 3 arg1 (.int .i64 1))) fun t20_28 =>
    Do P (vCall (.func (.func 42) #[] ⟨[]⟩) [t19_26, t20_28]) fun t21_29 =>
    Do P (V (binOp .gtr 3 t21_29 arg1)) fun t22_32 =>
    If t22_32 (
     K t21_29
    ) (
     Do P (V (binOp .add 3 (.int .i64 1) t21_29)) fun t23_35 =>
     Do P (V (Instr.fieldAt 36 x1 0)) fun t24_36 =>
     Do P (V (Instr.loadAt 3 t24_36)) fun t25_37 =>
     Do P (V (binOp .add 3 t25_37 (.int .i64 1))) fun t26_38 =>
     Do P (V (Instr.fieldAt 36 x1 1)) fun t27_39 =>
     Do P (V (Instr.loadAt 3 t27_39)) fun t28_40 =>
     Do P (vCall (.func (.func 61) #[] ⟨[]⟩) [t26_38, t28_40]) fun t29_41 =>
     Do P (V (binOp .sub 3 arg1 t21_29)) fun t30_44 =>
     Do P (vCall (.func (.func 42) #[] ⟨[]⟩) [t29_41, t30_44]) fun t31_45 =>
     Do P (V (binOp .add 3 t23_35 t31_45)) fun t32_46 =>
     K t32_46
    )
   )
  )
def A42 : Ann := .s (.n) (.s (.s (.n) (.s (.s (.n) (.n)) (.n))) (.s (.s (.n) (.s (.s (.n) (.s (.n) (.n))) (.n))) (.s (.n) (.s (.s (.n) (.s (.s (.n) (.n)) (.n))) (.s (.n) (.n))))))
set_option maxRecDepth 100000 in
theorem c42 (arg0 arg1 : Value) (K : Value → WP) (w : World) (h : s42 Tryz.prog arg0 arg1 K w) : Runs Tryz.prog 42 [arg0, arg1] K w :=
  runs_of_E wide (fn := Tryz.f42) (c := Tryz.f42.body.getD .skip) 47 A42 [arg0, arg1] w K Tryz.func42 (by kernel_rfl) (by kernel_rfl) (by kernel_rfl) (by kernel_rfl)
    (Eq.mp (by kernel_rfl : s42 Tryz.prog arg0 arg1 K w = E Tryz.prog (Tryz.f42.body.getD .skip) A42 (topK Tryz.prog K Tryz.f42.results) (fun i => (([arg0, arg1] : List Value)[i]?).getD undef) w) h)
theorem ct42 {arg0 arg1 : Value} {h : Hp} {post : Hp → Value → Prop} (hg : ∀ w0, Gs w0 h h [] (s42 Tryz.prog arg0 arg1 (RetP w0 h post))) : Ct Tryz.prog 42 [arg0, arg1] h post := Ct.of (sf := s42 Tryz.prog arg0 arg1) (c42 arg0 arg1) hg
theorem in42 {arg0 arg1 : Value} {S : WP} {K : Value → WP} (hg : G S (s42 Tryz.prog arg0 arg1 K)) : G S (Do Tryz.prog (vCall (.func (.func 42) #[] ⟨[]⟩) [arg0, arg1]) K) := Gs.into (args := [arg0, arg1]) (caps := []) (sf := s42 Tryz.prog arg0 arg1) (c42 arg0 arg1) hg

/- skewer/skewerref20.form : names 0 x, 1 x -/
def s43 (P : Program) (arg0 : Value) (K : Value → WP) : WP :=
  Do P (V (Instr.box 36 arg0)) fun x1 =>
  Do P (V (Instr.alloc 28 true (.tuple #[]))) fun t2_2 =>
  Do P (V (Instr.fieldAt 36 x1 1)) fun t3_3 =>
  Do P (V (Instr.loadAt 3 t3_3)) fun t4_4 =>
  Do P (V (binOp .gtr 3 t4_4 (.int .i64 0))) fun t5_5 =>
  If t5_5 (
   Dr <|
   Qk P (V (Instr.fieldAt 36 x1 0)) fun C6 t6_6 =>
   Qk P (V (Instr.loadAt 3 t6_6)) fun C7 t7_7 =>
   Qk P (V (binOp .sub 3 t7_7 (.int .i64 1))) fun C8 t8_8 =>
   Qk P (V (Instr.fieldAt 36 x1 1)) fun C9 t9_9 =>
   Qk P (V (Instr.loadAt 3 t9_9)) fun C10 t10_10 =>
   Qk P (V (Instr.fieldAt 36 x1 0)) fun C11 t11_14 =>
   Qk P (V (Instr.loadAt 3 t11_14)) fun C12 t12_15 =>
   Qk P (V (binOp .add 3 t12_15 (.int .i64 1))) fun C13 t13_16 =>
   Qk P (V (Instr.fieldAt 36 x1 1)) fun C14 t14_17 =>
   Qk P (V (Instr.loadAt 3 t14_17)) fun C15 t15_18 =>
   Do P (vCall (.func (.func 61) #[] ⟨[]⟩) [t8_8, t10_10]) fun t16_11 =>
   With C15 <|
   With C14 <|
   With C13 <|
   With C12 <|
   With C11 <|
   Do P (vCall (.func (.func 43) #[] ⟨[]⟩) [t16_11]) fun t17_12 =>
   With C15 <|
   With C14 <|
   With C13 <|
   With C12 <|
   With C11 <|
   Or2 (
    Do P (vBuildSlice 26 1 [(0, t17_12)]) fun t18_13 =>
    With C15 <|
    With C14 <|
    With C13 <|
    With C12 <|
    With C11 <|
    Do P (vCall (.func (.func 61) #[] ⟨[]⟩) [t13_16, t15_18]) fun t19_19 =>
    Do P (vCall (.func (.func 43) #[] ⟨[]⟩) [t19_19]) fun t20_20 =>
    Do P (vBuildSlice 26 1 [(0, t20_20)]) fun t21_21 =>
    Qk P (vBuild 28 [(0, t18_13), (1, t21_21)]) fun C22 t22_22 =>
    Do P (U (Instr.storeAt 28 t2_2 t22_22)) fun t23_x =>
    RetC P 28 t2_2 K
   ) (
    Do P (vCall (.func (.func 61) #[] ⟨[]⟩) [t13_16, t15_18]) fun t24_19 =>
    Or2 (
     Do P (vBuildSlice 26 1 [(0, t17_12)]) fun t25_13 =>
     With C15 <|
     With C14 <|
     With C13 <|
     With C12 <|
     With C11 <|
     Do P (vCall (.func (.func 43) #[] ⟨[]⟩) [t24_19]) fun t26_20 =>
     Do P (vBuildSlice 26 1 [(0, t26_20)]) fun t27_21 =>
     Qk P (vBuild 28 [(0, t25_13), (1, t27_21)]) fun C28 t28_22 =>
     Do P (U (Instr.storeAt 28 t2_2 t28_22)) fun t29_x =>
     RetC P 28 t2_2 K
    ) (
     Do P (vCall (.func (.func 43) #[] ⟨[]⟩) [t24_19]) fun t30_20 =>
     Or2 (
      Do P (vBuildSlice 26 1 [(0, t17_12)]) fun t31_13 =>
      With C15 <|
      With C14 <|
      With C13 <|
      With C12 <|
      With C11 <|
      Do P (vBuildSlice 26 1 [(0, t30_20)]) fun t32_21 =>
      Qk P (vBuild 28 [(0, t31_13), (1, t32_21)]) fun C33 t33_22 =>
      Do P (U (Instr.storeAt 28 t2_2 t33_22)) fun t34_x =>
      RetC P 28 t2_2 K
     ) (
      Do P (vBuildSlice 26 1 [(0, t30_20)]) fun t35_21 =>
      Do P (vBuildSlice 26 1 [(0, t17_12)]) fun t36_13 =>
      With C15 <|
      With C14 <|
      With C13 <|
      With C12 <|
      With C11 <|
      Qk P (vBuild 28 [(0, t36_13), (1, t35_21)]) fun C37 t37_22 =>
      Do P (U (Instr.storeAt 28 t2_2 t37_22)) fun t38_x =>
      RetC P 28 t2_2 K
     )
    )
   )
  ) (
   Do P (V (Instr.fieldAt 36 x1 0)) fun t39_23 =>
   Do P (V (Instr.loadAt 3 t39_23)) fun t40_24 =>
   Do P (V (binOp .gtr 3 t40_24 (.int .i64 0))) fun t41_25 =>
   If t41_25 (
    Do P (V (Instr.fieldAt 36 x1 0)) fun t42_26 =>
    Do P (V (Instr.loadAt 3 t42_26)) fun t43_27 =>
    Do P (V (binOp .sub 3 t43_27 (.int .i64 1))) fun t44_28 =>
    Do P (vBuild 36 [(0, t44_28)]) fun t45_29 =>
    Do P (vCall (.func (.func 43) #[] ⟨[]⟩) [t45_29]) fun t46_30 =>
    Do P (vBuildSlice 26 1 [(0, t46_30)]) fun t47_31 =>
    Do P (vBuild 28 [(0, t47_31)]) fun t48_32 =>
    Do P (U (Instr.storeAt 28 t2_2 t48_32)) fun t49_x =>
    RetC P 28 t2_2 K
   ) (
    Do P (V (Instr.fieldAt 36 x1 0)) fun t50_33 =>
    Do P (V (Instr.loadAt 3 t50_33)) fun t51_34 =>
    Do P (V (binOp .lss 3 t51_34 (.int .i64 0))) fun t52_35 =>
    If t52_35 (
     Do P (V (Instr.fieldAt 36 x1 0)) fun t53_36 =>
     Do P (V (Instr.loadAt 3 t53_36)) fun t54_37 =>
     Do P (V (binOp .add 3 t54_37 (.int .i64 1))) fun t55_38 =>
     Do P (vBuild 36 [(0, t55_38)]) fun t56_39 =>
     Do P (vCall (.func (.func 43) #[] ⟨[]⟩) [t56_39]) fun t57_40 =>
     Do P (vBuildSlice 26 1 [(0, t57_40)]) fun t58_41 =>
     Do P (vBuild 28 [(1, t58_41)]) fun t59_42 =>
     Do P (U (Instr.storeAt 28 t2_2 t59_42)) fun t60_x =>
     RetC P 28 t2_2 K
    ) (
     Do P (vBuild 28 []) fun t61_43 =>
     Do P (U (Instr.storeAt 28 t2_2 t61_43)) fun t62_x =>
     RetC P 28 t2_2 K
    )
   )
  )
def A43 : Ann := .s (.n) (.s (.s (.n) (.s (.s (.plan [(0, 2, 64), (1, 64, 128), (2, 128, 256), (0, 2, 512), (8, 512, 1024), (20, 1280, 2048), (32, 2048, 4096), (64, 4096, 8192), (0, 2, 16384), (256, 16384, 32768), (512, 32768, 65536), (0, 2, 131072), (2048, 131072, 262144), (5184, 327680, 524288), (8192, 524288, 1048576), (16384, 1048576, 2097152), (32896, 2105344, 4194304), (131071, 4194308, 0)] (.q 0 (.q 1 (.q 2 (.q 3 (.q 4 (.q 8 (.q 9 (.q 10 (.q 11 (.q 12 (.l 5 (.l 6 (.or (.l 7 (.l 13 (.l 14 (.l 15 (.q 16 (.l 17 .done)))))) (.l 13 (.or (.l 7 (.l 14 (.l 15 (.q 16 (.l 17 .done))))) (.l 14 (.or (.l 7 (.l 15 (.q 16 (.l 17 .done)))) (.l 15 (.l 7 (.q 16 (.l 17 .done)))))))))))))))))))))) (.n)) (.n))) (.s (.s (.n) (.s (.s (.n) (.n)) (.n))) (.s (.s (.n) (.s (.s (.n) (.n)) (.n))) (.s (.n) (.n)))))
set_option maxRecDepth 100000 in
theorem c43 (arg0 : Value) (K : Value → WP) (w : World) (h : s43 Tryz.prog arg0 K w) : Runs Tryz.prog 43 [arg0] K w :=
  runs_of_E wide (fn := Tryz.f43) (c := Tryz.f43.body.getD .skip) 44 A43 [arg0] w K Tryz.func43 (by kernel_rfl) (by kernel_rfl) (by kernel_rfl) (by kernel_rfl)
    (Eq.mp (by kernel_rfl : s43 Tryz.prog arg0 K w = E Tryz.prog (Tryz.f43.body.getD .skip) A43 (topK Tryz.prog K Tryz.f43.results) (fun i => (([arg0] : List Value)[i]?).getD undef) w) h)
theorem ct43 {arg0 : Value} {h : Hp} {post : Hp → Value → Prop} (hg : ∀ w0, Gs w0 h h [] (s43 Tryz.prog arg0 (RetP w0 h post))) : Ct Tryz.prog 43 [arg0] h post := Ct.of (sf := s43 Tryz.prog arg0) (c43 arg0) hg
theorem in43 {arg0 : Value} {S : WP} {K : Value → WP} (hg : G S (s43 Tryz.prog arg0 K)) : G S (Do Tryz.prog (vCall (.func (.func 43) #[] ⟨[]⟩) [arg0]) K) := Gs.into (args := [arg0]) (caps := []) (sf := s43 Tryz.prog arg0) (c43 arg0) hg

/- (*skewer/value.book).make : names 0 b, 1 l, 2 r, 3 b, 4 l, 5 r, 7 w, 8 write, 9 text, 10 n, 11 known, 12 n -/
def s44 (P : Program) (arg0 arg1 arg2 : Value) (K : Value → WP) : WP :=
  Do P (V (Instr.alloc 99 true (.tuple #[]))) fun w1 =>
  Do P (vCall (.func (.func 63) #[] ⟨[]⟩) [w1, (.int .u8 123)]) fun t2_14 =>
  Do P (vCall (.func (.func 62) #[] ⟨[w1]⟩) [arg1]) fun t3_17 =>
  Do P (vCall (.func (.func 63) #[] ⟨[]⟩) [w1, (.int .u8 124)]) fun t4_18 =>
  Do P (vCall (.func (.func 62) #[] ⟨[w1]⟩) [arg2]) fun t5_21 =>
  Do P (vCall (.func (.func 63) #[] ⟨[]⟩) [w1, (.int .u8 125)]) fun t6_22 =>
  Do P (vCall (.func (.func 65) #[] ⟨[]⟩) [w1]) fun t7_23 =>
  Do P (vNil arg0) fun t8_26 =>
  Do P (V (Instr.fieldAt 74 t8_26 0)) fun t9_27 =>
  Do P (V (Instr.loadAt 71 t9_27)) fun t10_28 =>
  Do P (V (Instr.lookup 71 t10_28 t7_23 true)) fun t11_30 =>
  Do P (V (Instr.extract t11_30 0)) fun t12_31 =>
  Do P (V (Instr.extract t11_30 1)) fun t13_32 =>
  If t13_32 (
   K t12_31
  ) (
   Do P (vBuild 53 [(0, t7_23), (1, arg1), (2, arg2)]) fun t14_38 =>
   Do P (V (Instr.box 53 t14_38)) fun t15_39 =>
   Do P (vNil arg0) fun t16_41 =>
   Do P (V (Instr.fieldAt 74 t16_41 0)) fun t17_42 =>
   Do P (V (Instr.loadAt 71 t17_42)) fun t18_43 =>
   Do P (U (Instr.mapUpdate 71 t18_43 t7_23 t15_39)) fun t19_x =>
   K t15_39
  )
def A44 : Ann := .s (.n) (.s (.n) (.s (.n) (.s (.n) (.s (.n) (.s (.n) (.s (.n) (.s (.n) (.s (.n) (.s (.s (.n) (.s (.n) (.s (.s (.n) (.n)) (.n)))) (.s (.n) (.s (.n) (.s (.n) (.n)))))))))))))
set_option maxRecDepth 100000 in
theorem c44 (arg0 arg1 arg2 : Value) (K : Value → WP) (w : World) (h : s44 Tryz.prog arg0 arg1 arg2 K w) : Runs Tryz.prog 44 [arg0, arg1, arg2] K w :=
  runs_of_E wide (fn := Tryz.f44) (c := Tryz.f44.body.getD .skip) 47 A44 [arg0, arg1, arg2] w K Tryz.func44 (by kernel_rfl) (by kernel_rfl) (by kernel_rfl) (by kernel_rfl)
    (Eq.mp (by kernel_rfl : s44 Tryz.prog arg0 arg1 arg2 K w = E Tryz.prog (Tryz.f44.body.getD .skip) A44 (topK Tryz.prog K Tryz.f44.results) (fun i => (([arg0, arg1, arg2] : List Value)[i]?).getD undef) w) h)
theorem ct44 {arg0 arg1 arg2 : Value} {h : Hp} {post : Hp → Value → Prop} (hg : ∀ w0, Gs w0 h h [] (s44 Tryz.prog arg0 arg1 arg2 (RetP w0 h post))) : Ct Tryz.prog 44 [arg0, arg1, arg2] h post := Ct.of (sf := s44 Tryz.prog arg0 arg1 arg2) (c44 arg0 arg1 arg2) hg
theorem in44 {arg0 arg1 arg2 : Value} {S : WP} {K : Value → WP} (hg : G S (s44 Tryz.prog arg0 arg1 arg2 K)) : G S (Do Tryz.prog (vCall (.func (.func 44) #[] ⟨[]⟩) [arg0, arg1, arg2]) K) := Gs.into (args := [arg0, arg1, arg2]) (caps := []) (sf := s44 Tryz.prog arg0 arg1 arg2) (c44 arg0 arg1 arg2) hg

/- (*skewer/value.book).most$1 : names 0 z, 3 z -/
def s45 (P : Program) (arg0 arg1 arg2 : Value) (K : Value → WP) : WP :=
  Do P (V (Instr.loadAt 46 arg1)) fun t1_5 =>
  Do P (V (Instr.loadAt 49 arg2)) fun t2_6 =>
  Do P (vCall (.func (.func 27) #[] ⟨[]⟩) [t1_5, t2_6, arg0]) fun t3_8 =>
  K t3_8
def A45 : Ann := .s (.n) (.s (.n) (.n))
set_option maxRecDepth 100000 in
theorem c45 (arg0 arg1 arg2 : Value) (K : Value → WP) (w : World) (h : s45 Tryz.prog arg0 arg1 arg2 K w) : Runs Tryz.prog 45 [arg0, arg1, arg2] K w :=
  runs_of_E wide (fn := Tryz.f45) (c := Tryz.f45.body.getD .skip) 9 A45 [arg0, arg1, arg2] w K Tryz.func45 (by kernel_rfl) (by kernel_rfl) (by kernel_rfl) (by kernel_rfl)
    (Eq.mp (by kernel_rfl : s45 Tryz.prog arg0 arg1 arg2 K w = E Tryz.prog (Tryz.f45.body.getD .skip) A45 (topK Tryz.prog K Tryz.f45.results) (fun i => (([arg0, arg1, arg2] : List Value)[i]?).getD undef) w) h)
theorem ct45 {arg0 arg1 arg2 : Value} {h : Hp} {post : Hp → Value → Prop} (hg : ∀ w0, Gs w0 h h [] (s45 Tryz.prog arg0 arg1 arg2 (RetP w0 h post))) : Ct Tryz.prog 45 [arg0, arg1, arg2] h post := Ct.of (sf := s45 Tryz.prog arg0 arg1 arg2) (c45 arg0 arg1 arg2) hg
theorem in45 {arg0 arg1 arg2 : Value} {S : WP} {K : Value → WP} (hg : G S (s45 Tryz.prog arg0 arg1 arg2 K)) : G S (Do Tryz.prog (vCall (.func (.func 45) #[] ⟨[arg1, arg2]⟩) [arg0]) K) := Gs.into (args := [arg0]) (caps := [arg1, arg2]) (sf := s45 Tryz.prog arg0 arg1 arg2) (c45 arg0 arg1 arg2) hg

/- (*skewer/value.book).most$2 : names 0 z, 3 z -/
def s46 (P : Program) (arg0 arg1 arg2 : Value) (K : Value → WP) : WP :=
  Do P (V (Instr.loadAt 46 arg1)) fun t1_5 =>
  Do P (V (Instr.loadAt 49 arg2)) fun t2_7 =>
  Do P (vCall (.func (.func 27) #[] ⟨[]⟩) [t1_5, arg0, t2_7]) fun t3_8 =>
  K t3_8
def A46 : Ann := .s (.n) (.s (.n) (.n))
set_option maxRecDepth 100000 in
theorem c46 (arg0 arg1 arg2 : Value) (K : Value → WP) (w : World) (h : s46 Tryz.prog arg0 arg1 arg2 K w) : Runs Tryz.prog 46 [arg0, arg1, arg2] K w :=
  runs_of_E wide (fn := Tryz.f46) (c := Tryz.f46.body.getD .skip) 9 A46 [arg0, arg1, arg2] w K Tryz.func46 (by kernel_rfl) (by kernel_rfl) (by kernel_rfl) (by kernel_rfl)
    (Eq.mp (by kernel_rfl : s46 Tryz.prog arg0 arg1 arg2 K w = E Tryz.prog (Tryz.f46.body.getD .skip) A46 (topK Tryz.prog K Tryz.f46.results) (fun i => (([arg0, arg1, arg2] : List Value)[i]?).getD undef) w) h)
theorem ct46 {arg0 arg1 arg2 : Value} {h : Hp} {post : Hp → Value → Prop} (hg : ∀ w0, Gs w0 h h [] (s46 Tryz.prog arg0 arg1 arg2 (RetP w0 h post))) : Ct Tryz.prog 46 [arg0, arg1, arg2] h post := Ct.of (sf := s46 Tryz.prog arg0 arg1 arg2) (c46 arg0 arg1 arg2) hg
theorem in46 {arg0 arg1 arg2 : Value} {S : WP} {K : Value → WP} (hg : G S (s46 Tryz.prog arg0 arg1 arg2 K)) : G S (Do Tryz.prog (vCall (.func (.func 46) #[] ⟨[arg1, arg2]⟩) [arg0]) K) := Gs.into (args := [arg0]) (caps := [arg1, arg2]) (sf := s46 Tryz.prog arg0 arg1 arg2) (c46 arg0 arg1 arg2) hg

/- slices.ContainsFunc[[]*skewer/value.node,*skewer/value.node] : names 0 s, 1 f, 2 s, 3 f -/
def s47 (P : Program) (arg0 arg1 : Value) (K : Value → WP) : WP :=
  Do P (vCall (.func (.func 66) #[] ⟨[]⟩) [arg0, arg1]) fun t1_7 =>
  Do P (V (binOp .geq 3 t1_7 (.int .i64 0))) fun t2_8 =>
  K t2_8
def A47 : Ann := .s (.n) (.s (.n) (.n))
set_option maxRecDepth 100000 in
theorem c47 (arg0 arg1 : Value) (K : Value → WP) (w : World) (h : s47 Tryz.prog arg0 arg1 K w) : Runs Tryz.prog 47 [arg0, arg1] K w :=
  runs_of_E wide (fn := Tryz.f47) (c := Tryz.f47.body.getD .skip) 9 A47 [arg0, arg1] w K Tryz.func47 (by kernel_rfl) (by kernel_rfl) (by kernel_rfl) (by kernel_rfl)
    (Eq.mp (by kernel_rfl : s47 Tryz.prog arg0 arg1 K w = E Tryz.prog (Tryz.f47.body.getD .skip) A47 (topK Tryz.prog K Tryz.f47.results) (fun i => (([arg0, arg1] : List Value)[i]?).getD undef) w) h)
theorem ct47 {arg0 arg1 : Value} {h : Hp} {post : Hp → Value → Prop} (hg : ∀ w0, Gs w0 h h [] (s47 Tryz.prog arg0 arg1 (RetP w0 h post))) : Ct Tryz.prog 47 [arg0, arg1] h post := Ct.of (sf := s47 Tryz.prog arg0 arg1) (c47 arg0 arg1) hg
theorem in47 {arg0 arg1 : Value} {S : WP} {K : Value → WP} (hg : G S (s47 Tryz.prog arg0 arg1 K)) : G S (Do Tryz.prog (vCall (.func (.func 47) #[] ⟨[]⟩) [arg0, arg1]) K) := Gs.into (args := [arg0, arg1]) (caps := []) (sf := s47 Tryz.prog arg0 arg1) (c47 arg0 arg1) hg

/- (*skewer/value.book).all : names 0 b, 1 l, 2 b, 3 l, 5 out, 6 _, 7 f -/
def s48 (P : Program) (arg0 arg1 : Value) (K : Value → WP) : WP :=
  Do P (vBuiltin .len #[26] 3 [arg1]) fun t1_9 =>
  Lp (α := Value × Value) (fun c2 s2 => Jk fun _ => -- out t10
   Do P (V (binOp .lss 3 s2.2 t1_9)) fun t3_11 =>
   If t3_11 (
    Do P (V (Instr.indexAt 26 arg1 s2.2)) fun t4_12 =>
    Do P (V (Instr.loadAt 28 t4_12)) fun t5_13 =>
    Do P (V (Instr.alloc 28 true (.tuple #[]))) fun f6 =>
    Do P (U (Instr.storeAt 28 f6 t5_13)) fun t7_x =>
    Do P (V (Instr.loadAt 28 f6)) fun t8_16 =>
    Do P (vCall (.func (.func 28) #[] ⟨[]⟩) [arg0, t8_16]) fun t9_17 =>
    Do P (vBuildSlice 51 1 [(0, t9_17)]) fun t10_18 =>
    Do P (vBuiltin .append #[51, 51] 51 [s2.1, t10_18]) fun t11_19 =>
    Do P (V (binOp .add 3 s2.2 (.int .i64 1))) fun t12_20 =>
    c2 (t11_19, t12_20)
   ) (
    K s2.1
   )
  ) ((.slice none 0 0), (.int .i64 0))
def A48 : Ann := .s (.n) (.s (.n) (.s (.s (.n) (.lp [5, 10] 2096288 (.s (.n) (.s (.s (.n) (.n)) (.s (.s (.n) (.n)) (.n)))))) (.s (.n) (.n))))
set_option maxRecDepth 100000 in
theorem c48 (arg0 arg1 : Value) (K : Value → WP) (w : World) (h : s48 Tryz.prog arg0 arg1 K w) : Runs Tryz.prog 48 [arg0, arg1] K w :=
  runs_of_E wide (fn := Tryz.f48) (c := Tryz.f48.body.getD .skip) 22 A48 [arg0, arg1] w K Tryz.func48 (by kernel_rfl) (by kernel_rfl) (by kernel_rfl) (by kernel_rfl)
    (Eq.mp (by kernel_rfl : s48 Tryz.prog arg0 arg1 K w = E Tryz.prog (Tryz.f48.body.getD .skip) A48 (topK Tryz.prog K Tryz.f48.results) (fun i => (([arg0, arg1] : List Value)[i]?).getD undef) w) h)
theorem ct48 {arg0 arg1 : Value} {h : Hp} {post : Hp → Value → Prop} (hg : ∀ w0, Gs w0 h h [] (s48 Tryz.prog arg0 arg1 (RetP w0 h post))) : Ct Tryz.prog 48 [arg0, arg1] h post := Ct.of (sf := s48 Tryz.prog arg0 arg1) (c48 arg0 arg1) hg
theorem in48 {arg0 arg1 : Value} {S : WP} {K : Value → WP} (hg : G S (s48 Tryz.prog arg0 arg1 K)) : G S (Do Tryz.prog (vCall (.func (.func 48) #[] ⟨[]⟩) [arg0, arg1]) K) := Gs.into (args := [arg0, arg1]) (caps := []) (sf := s48 Tryz.prog arg0 arg1) (c48 arg0 arg1) hg

/- (*skewer/value.book).bypass : names 0 b, 1 l, 2 r, 3 b, 4 l, 5 r, 8 whole, 9 i, 10 x, 11 back, 12 k -/
def s49 (P : Program) (arg0 arg1 arg2 : Value) (K : Value → WP) : WP :=
  Do P (V (Instr.box 46 arg0)) fun b1 =>
  Do P (V (Instr.loadAt 46 b1)) fun t2_13 =>
  Do P (vCall (.func (.func 44) #[] ⟨[]⟩) [t2_13, arg1, arg2]) fun t3_16 =>
  Do P (V (Instr.alloc 49 true (.tuple #[]))) fun whole4 =>
  Do P (U (Instr.storeAt 49 whole4 t3_16)) fun t5_x =>
  Do P (vBuiltin .len #[51] 3 [arg1]) fun t6_18 =>
  Lp (α := Value) (fun c7 s7 => Jk fun _ => -- t19
   Do P (V (binOp .lss 3 s7 t6_18)) fun t8_20 =>
   If t8_20 (
    Do P (V (Instr.indexAt 51 arg1 s7)) fun t9_22 =>
    Do P (V (Instr.loadAt 49 t9_22)) fun t10_23 =>
    Do P (vNil t10_23) fun t11_26 =>
    Do P (V (Instr.fieldAt 53 t11_26 2)) fun t12_27 =>
    Do P (V (Instr.loadAt 51 t12_27)) fun t13_28 =>
    Do P (vCall (.func (.func 66) #[] ⟨[]⟩) [t13_28, (.func (.func 67) #[] ⟨[b1, whole4]⟩)]) fun t14_30 =>
    Do P (V (binOp .geq 3 t14_30 (.int .i64 0))) fun t15_32 =>
    If t15_32 (
     Dr <|
     Qk P (V (Instr.sliceAt 51 arg1 none (some s7) none)) fun C16 t16_35 =>
     Qk P (vNil t10_23) fun C17 t17_37 =>
     Qk P (V (Instr.fieldAt 53 t17_37 2)) fun C18 t18_38 =>
     Qk P (V (Instr.loadAt 51 t18_38)) fun C19 t19_39 =>
     Qk P (V (Instr.indexAt 51 t19_39 t14_30)) fun C20 t20_41 =>
     Qk P (V (Instr.loadAt 49 t20_41)) fun C21 t21_42 =>
     Qk P (vNil t21_42) fun C22 t22_43 =>
     Qk P (V (Instr.fieldAt 53 t22_43 1)) fun C23 t23_44 =>
     Qk P (V (Instr.loadAt 51 t23_44)) fun C24 t24_45 =>
     Qk P (V (binOp .add 3 s7 (.int .i64 1))) fun C25 t25_48 =>
     Qk P (V (Instr.sliceAt 51 arg1 (some t25_48) none none)) fun C26 t26_49 =>
     Do P (vBuildSlice 125 3 [(0, t16_35), (1, t24_45), (2, t26_49)]) fun t27_50 =>
     Do P (vCall (.func (.func 68) #[] ⟨[]⟩) [t27_50]) fun t28_51 =>
     K (.tuple #[t28_51, (.bool true)])
    ) (
     Do P (V (binOp .add 3 s7 (.int .i64 1))) fun t29_52 =>
     c7 t29_52
    )
   ) (
    K (.tuple #[arg1, (.bool false)])
   )
  ) (.int .i64 0)
def A49 : Ann := .s (.n) (.s (.n) (.s (.s (.n) (.lp [19] 9007199254224576 (.s (.n) (.s (.s (.n) (.n)) (.s (.s (.n) (.s (.n) (.s (.n) (.s (.n) (.s (.s (.plan [(0, 2, 8589934592), (0, 512, 17179869184), (3, 25769803776, 34359738368), (0, 1024, 68719476736), (8, 68719476736, 137438953472), (16, 137438953472, 274877906944), (32, 274877906944, 549755813888), (0, 4096, 1099511627776), (192, 1649267441664, 2199023255552), (256, 2199023255552, 4398046511104), (512, 4398046511104, 8796093022208), (1024, 8796093022208, 17592186044416), (2048, 17592186044416, 35184372088832), (0, 2, 70368744177664), (0, 512, 140737488355328), (16384, 140737488355328, 281474976710656), (40960, 351843720888320, 562949953421312), (69636, 598168685248512, 1125899906842624), (131072, 1125899906842624, 2251799813685248), (524287, 2251799813685248, 64), (1048575, 0, 128)] (.q 0 (.q 1 (.q 2 (.q 3 (.q 4 (.q 5 (.q 6 (.q 7 (.q 8 (.q 9 (.q 10 (.q 11 (.q 12 (.q 13 (.q 14 (.q 15 (.q 16 (.l 17 (.l 18 (.q 19 (.q 20 .done)))))))))))))))))))))) (.n)) (.n)))))) (.n)))))) (.s (.n) (.n))))
set_option maxRecDepth 100000 in
theorem c49 (arg0 arg1 arg2 : Value) (K : Value → WP) (w : World) (h : s49 Tryz.prog arg0 arg1 arg2 K w) : Runs Tryz.prog 49 [arg0, arg1, arg2] K w :=
  runs_of_E wide (fn := Tryz.f49) (c := Tryz.f49.body.getD .skip) 54 A49 [arg0, arg1, arg2] w K Tryz.func49 (by kernel_rfl) (by kernel_rfl) (by kernel_rfl) (by kernel_rfl)
    (Eq.mp (by kernel_rfl : s49 Tryz.prog arg0 arg1 arg2 K w = E Tryz.prog (Tryz.f49.body.getD .skip) A49 (topK Tryz.prog K Tryz.f49.results) (fun i => (([arg0, arg1, arg2] : List Value)[i]?).getD undef) w) h)
theorem ct49 {arg0 arg1 arg2 : Value} {h : Hp} {post : Hp → Value → Prop} (hg : ∀ w0, Gs w0 h h [] (s49 Tryz.prog arg0 arg1 arg2 (RetP w0 h post))) : Ct Tryz.prog 49 [arg0, arg1, arg2] h post := Ct.of (sf := s49 Tryz.prog arg0 arg1 arg2) (c49 arg0 arg1 arg2) hg
theorem in49 {arg0 arg1 arg2 : Value} {S : WP} {K : Value → WP} (hg : G S (s49 Tryz.prog arg0 arg1 arg2 K)) : G S (Do Tryz.prog (vCall (.func (.func 49) #[] ⟨[]⟩) [arg0, arg1, arg2]) K) := Gs.into (args := [arg0, arg1, arg2]) (caps := []) (sf := s49 Tryz.prog arg0 arg1 arg2) (c49 arg0 arg1 arg2) hg

/- (*skewer/value.book).turn : names 0 b, 1 l, 2 r, 3 b, 4 l, 5 r, 8 whole, 9 i, 10 x, 11 back, 12 k -/
def s50 (P : Program) (arg0 arg1 arg2 : Value) (K : Value → WP) : WP :=
  Do P (V (Instr.box 46 arg0)) fun b1 =>
  Do P (V (Instr.loadAt 46 b1)) fun t2_13 =>
  Do P (vCall (.func (.func 44) #[] ⟨[]⟩) [t2_13, arg1, arg2]) fun t3_16 =>
  Do P (V (Instr.alloc 49 true (.tuple #[]))) fun whole4 =>
  Do P (U (Instr.storeAt 49 whole4 t3_16)) fun t5_x =>
  Do P (vBuiltin .len #[51] 3 [arg2]) fun t6_18 =>
  Lp (α := Value) (fun c7 s7 => Jk fun _ => -- t19
   Do P (V (binOp .lss 3 s7 t6_18)) fun t8_20 =>
   If t8_20 (
    Do P (V (Instr.indexAt 51 arg2 s7)) fun t9_22 =>
    Do P (V (Instr.loadAt 49 t9_22)) fun t10_23 =>
    Do P (vNil t10_23) fun t11_26 =>
    Do P (V (Instr.fieldAt 53 t11_26 1)) fun t12_27 =>
    Do P (V (Instr.loadAt 51 t12_27)) fun t13_28 =>
    Do P (vCall (.func (.func 66) #[] ⟨[]⟩) [t13_28, (.func (.func 69) #[] ⟨[b1, whole4]⟩)]) fun t14_30 =>
    Do P (V (binOp .geq 3 t14_30 (.int .i64 0))) fun t15_32 =>
    If t15_32 (
     Dr <|
     Qk P (V (Instr.sliceAt 51 arg2 none (some s7) none)) fun C16 t16_35 =>
     Qk P (vNil t10_23) fun C17 t17_37 =>
     Qk P (V (Instr.fieldAt 53 t17_37 1)) fun C18 t18_38 =>
     Qk P (V (Instr.loadAt 51 t18_38)) fun C19 t19_39 =>
     Qk P (V (Instr.indexAt 51 t19_39 t14_30)) fun C20 t20_41 =>
     Qk P (V (Instr.loadAt 49 t20_41)) fun C21 t21_42 =>
     Qk P (vNil t21_42) fun C22 t22_43 =>
     Qk P (V (Instr.fieldAt 53 t22_43 2)) fun C23 t23_44 =>
     Qk P (V (Instr.loadAt 51 t23_44)) fun C24 t24_45 =>
     Qk P (V (binOp .add 3 s7 (.int .i64 1))) fun C25 t25_48 =>
     Qk P (V (Instr.sliceAt 51 arg2 (some t25_48) none none)) fun C26 t26_49 =>
     Do P (vBuildSlice 125 3 [(0, t16_35), (1, t24_45), (2, t26_49)]) fun t27_50 =>
     Do P (vCall (.func (.func 68) #[] ⟨[]⟩) [t27_50]) fun t28_51 =>
     K (.tuple #[t28_51, (.bool true)])
    ) (
     Do P (V (binOp .add 3 s7 (.int .i64 1))) fun t29_52 =>
     c7 t29_52
    )
   ) (
    K (.tuple #[arg2, (.bool false)])
   )
  ) (.int .i64 0)
def A50 : Ann := .s (.n) (.s (.n) (.s (.s (.n) (.lp [19] 9007199254224576 (.s (.n) (.s (.s (.n) (.n)) (.s (.s (.n) (.s (.n) (.s (.n) (.s (.n) (.s (.s (.plan [(0, 4, 8589934592), (0, 512, 17179869184), (3, 25769803776, 34359738368), (0, 1024, 68719476736), (8, 68719476736, 137438953472), (16, 137438953472, 274877906944), (32, 274877906944, 549755813888), (0, 4096, 1099511627776), (192, 1649267441664, 2199023255552), (256, 2199023255552, 4398046511104), (512, 4398046511104, 8796093022208), (1024, 8796093022208, 17592186044416), (2048, 17592186044416, 35184372088832), (0, 4, 70368744177664), (0, 512, 140737488355328), (16384, 140737488355328, 281474976710656), (40960, 351843720888320, 562949953421312), (69636, 598168685248512, 1125899906842624), (131072, 1125899906842624, 2251799813685248), (524287, 2251799813685248, 64), (1048575, 0, 128)] (.q 0 (.q 1 (.q 2 (.q 3 (.q 4 (.q 5 (.q 6 (.q 7 (.q 8 (.q 9 (.q 10 (.q 11 (.q 12 (.q 13 (.q 14 (.q 15 (.q 16 (.l 17 (.l 18 (.q 19 (.q 20 .done)))))))))))))))))))))) (.n)) (.n)))))) (.n)))))) (.s (.n) (.n))))
set_option maxRecDepth 100000 in
theorem c50 (arg0 arg1 arg2 : Value) (K : Value → WP) (w : World) (h : s50 Tryz.prog arg0 arg1 arg2 K w) : Runs Tryz.prog 50 [arg0, arg1, arg2] K w :=
  runs_of_E wide (fn := Tryz.f50) (c := Tryz.f50.body.getD .skip) 54 A50 [arg0, arg1, arg2] w K Tryz.func50 (by kernel_rfl) (by kernel_rfl) (by kernel_rfl) (by kernel_rfl)
    (Eq.mp (by kernel_rfl : s50 Tryz.prog arg0 arg1 arg2 K w = E Tryz.prog (Tryz.f50.body.getD .skip) A50 (topK Tryz.prog K Tryz.f50.results) (fun i => (([arg0, arg1, arg2] : List Value)[i]?).getD undef) w) h)
theorem ct50 {arg0 arg1 arg2 : Value} {h : Hp} {post : Hp → Value → Prop} (hg : ∀ w0, Gs w0 h h [] (s50 Tryz.prog arg0 arg1 arg2 (RetP w0 h post))) : Ct Tryz.prog 50 [arg0, arg1, arg2] h post := Ct.of (sf := s50 Tryz.prog arg0 arg1 arg2) (c50 arg0 arg1 arg2) hg
theorem in50 {arg0 arg1 arg2 : Value} {S : WP} {K : Value → WP} (hg : G S (s50 Tryz.prog arg0 arg1 arg2 K)) : G S (Do Tryz.prog (vCall (.func (.func 50) #[] ⟨[]⟩) [arg0, arg1, arg2]) K) := Gs.into (args := [arg0, arg1, arg2]) (caps := []) (sf := s50 Tryz.prog arg0 arg1 arg2) (c50 arg0 arg1 arg2) hg

/- (*skewer/value.book).reduce$1 : names 0 x, 1 y, 3 x, 4 y -/
def s51 (P : Program) (arg0 arg1 arg2 : Value) (K : Value → WP) : WP :=
  Do P (V (Instr.loadAt 46 arg2)) fun t1_6 =>
  Do P (vCall (.func (.func 27) #[] ⟨[]⟩) [t1_6, arg1, arg0]) fun t2_9 =>
  K t2_9
def A51 : Ann := .s (.n) (.s (.n) (.n))
set_option maxRecDepth 100000 in
theorem c51 (arg0 arg1 arg2 : Value) (K : Value → WP) (w : World) (h : s51 Tryz.prog arg0 arg1 arg2 K w) : Runs Tryz.prog 51 [arg0, arg1, arg2] K w :=
  runs_of_E wide (fn := Tryz.f51) (c := Tryz.f51.body.getD .skip) 10 A51 [arg0, arg1, arg2] w K Tryz.func51 (by kernel_rfl) (by kernel_rfl) (by kernel_rfl) (by kernel_rfl)
    (Eq.mp (by kernel_rfl : s51 Tryz.prog arg0 arg1 arg2 K w = E Tryz.prog (Tryz.f51.body.getD .skip) A51 (topK Tryz.prog K Tryz.f51.results) (fun i => (([arg0, arg1, arg2] : List Value)[i]?).getD undef) w) h)
theorem ct51 {arg0 arg1 arg2 : Value} {h : Hp} {post : Hp → Value → Prop} (hg : ∀ w0, Gs w0 h h [] (s51 Tryz.prog arg0 arg1 arg2 (RetP w0 h post))) : Ct Tryz.prog 51 [arg0, arg1, arg2] h post := Ct.of (sf := s51 Tryz.prog arg0 arg1 arg2) (c51 arg0 arg1 arg2) hg
theorem in51 {arg0 arg1 arg2 : Value} {S : WP} {K : Value → WP} (hg : G S (s51 Tryz.prog arg0 arg1 arg2 K)) : G S (Do Tryz.prog (vCall (.func (.func 51) #[] ⟨[arg2]⟩) [arg0, arg1]) K) := Gs.into (args := [arg0, arg1]) (caps := [arg2]) (sf := s51 Tryz.prog arg0 arg1 arg2) (c51 arg0 arg1 arg2) hg

/- skewer/value.best : names 0 l, 1 worse, 2 l, 3 worse, 5 out, 6 i, 7 x, 8 keep, 9 k, 10 y -/
def s52 (P : Program) (arg0 arg1 : Value) (K : Value → WP) : WP :=
  Do P (vBuiltin .len #[51] 3 [arg0]) fun t1_12 =>
  Lp (α := Value × Value) (fun c2 s2 => Jk fun _ => -- out t13
   Do P (V (binOp .lss 3 s2.2 t1_12)) fun t3_14 =>
   If t3_14 (
    Jn (α := Value) (fun j4 => Jk fun _ => -- out
     Do P (V (binOp .add 3 s2.2 (.int .i64 1))) fun t5_52 =>
     c2 (j4, t5_52)
    ) fun k4 =>
    Do P (V (Instr.indexAt 51 arg0 s2.2)) fun t6_16 =>
    Do P (V (Instr.loadAt 49 t6_16)) fun t7_17 =>
    Do P (vBuiltin .len #[51] 3 [arg0]) fun t8_19 =>
    Lp (α := Value × Value) (fun c9 s9 => Jk fun _ => -- keep t20
     Do P (V (binOp .lss 3 s9.2 t8_19)) fun t10_21 =>
     If t10_21 (
      Jn (α := Value) (fun j11 => Jk fun _ => -- keep
       Do P (V (binOp .add 3 s9.2 (.int .i64 1))) fun t12_46 =>
       c9 (j11, t12_46)
      ) fun k11 =>
      Do P (V (Instr.indexAt 51 arg0 s9.2)) fun t13_23 =>
      Do P (V (Instr.loadAt 49 t13_23)) fun t14_24 =>
      Jn (α := Value) (fun j15 => Jk fun _ => -- t45
       If j15 (
        k11 (.bool false)
       ) (
        k11 s9.1
       )
      ) fun k15 =>
      Do P (V (EqG .neq 3 (.tmp 25) (.tmp 26) s2.2 s9.2)) fun t16_27 =>
      Gd t16_27 true (
       Do P (vCall arg1 [t7_17, t14_24]) fun t17_32 =>
       Gd t17_32 true (
        Do P (V (binOp .lss 3 s9.2 s2.2)) fun t18_37 =>
        Gd t18_37 false (
         Do P (vCall arg1 [t14_24, t7_17]) fun t19_42 =>
         Do P (V (Op.unary .not t19_42)) fun t20_43 =>
         k15 t20_43
        ) (
         k15 (.bool true)
        )
       ) (
        k15 (.bool false)
       )
      ) (
       k15 (.bool false)
      )
     ) (
      If s9.1 (
       Do P (vBuildSlice 51 1 [(0, t7_17)]) fun t21_50 =>
       Do P (vBuiltin .append #[51, 51] 51 [s2.1, t21_50]) fun t22_51 =>
       k4 t22_51
      ) (
       k4 s2.1
      )
     )
    ) ((.bool true), (.int .i64 0))
   ) (
    Do P (vCall (.func (.func 70) #[] ⟨[]⟩) [s2.1, (.func (.func 71) #[] ⟨[]⟩)]) fun t23_54 =>
    K s2.1
   )
  ) ((.slice none 0 0), (.int .i64 0))
def A52 : Ann := .s (.n) (.s (.n) (.s (.s (.n) (.lp [5, 13] 9007199254734816 (.s (.n) (.s (.s (.n) (.n)) (.j [5] 4503599627339744 (.s (.n) (.s (.n) (.s (.s (.n) (.lp [8, 20] 140737487308544 (.s (.n) (.s (.s (.n) (.n)) (.j [8] 70368739985152 (.s (.n) (.j [45] 70368710623232 (.n) (.s (.n) (.n)))) (.n)))))) (.s (.n) (.s (.n) (.n)))))) (.n)))))) (.s (.n) (.s (.n) (.n)))))
set_option maxRecDepth 100000 in
theorem c52 (arg0 arg1 : Value) (K : Value → WP) (w : World) (h : s52 Tryz.prog arg0 arg1 K w) : Runs Tryz.prog 52 [arg0, arg1] K w :=
  runs_of_E wide (fn := Tryz.f52) (c := Tryz.f52.body.getD .skip) 56 A52 [arg0, arg1] w K Tryz.func52 (by kernel_rfl) (by kernel_rfl) (by kernel_rfl) (by kernel_rfl)
    (Eq.mp (by kernel_rfl : s52 Tryz.prog arg0 arg1 K w = E Tryz.prog (Tryz.f52.body.getD .skip) A52 (topK Tryz.prog K Tryz.f52.results) (fun i => (([arg0, arg1] : List Value)[i]?).getD undef) w) h)
theorem ct52 {arg0 arg1 : Value} {h : Hp} {post : Hp → Value → Prop} (hg : ∀ w0, Gs w0 h h [] (s52 Tryz.prog arg0 arg1 (RetP w0 h post))) : Ct Tryz.prog 52 [arg0, arg1] h post := Ct.of (sf := s52 Tryz.prog arg0 arg1) (c52 arg0 arg1) hg
theorem in52 {arg0 arg1 : Value} {S : WP} {K : Value → WP} (hg : G S (s52 Tryz.prog arg0 arg1 K)) : G S (Do Tryz.prog (vCall (.func (.func 52) #[] ⟨[]⟩) [arg0, arg1]) K) := Gs.into (args := [arg0, arg1]) (caps := []) (sf := s52 Tryz.prog arg0 arg1) (c52 arg0 arg1) hg

/- skewer/skewerref20.without : names 0 l, 1 i, 2 more, 3 l, 4 i, 5 more, 7 out -/
def s53 (P : Program) (arg0 arg1 arg2 : Value) (K : Value → WP) : WP :=
  Do P (vBuildSlice 26 0 []) fun t1_8 =>
  Do P (V (Instr.sliceAt 26 arg0 none (some arg1) none)) fun t2_11 =>
  Do P (vBuiltin .append #[26, 26] 26 [t1_8, t2_11]) fun t3_12 =>
  Do P (vBuiltin .append #[26, 26] 26 [t3_12, arg2]) fun t4_15 =>
  Do P (V (binOp .add 3 arg1 (.int .i64 1))) fun t5_19 =>
  Do P (V (Instr.sliceAt 26 arg0 (some t5_19) none none)) fun t6_20 =>
  Do P (vBuiltin .append #[26, 26] 26 [t4_15, t6_20]) fun t7_21 =>
  K t7_21
def A53 : Ann := .s (.n) (.s (.n) (.s (.n) (.s (.n) (.n))))
set_option maxRecDepth 100000 in
theorem c53 (arg0 arg1 arg2 : Value) (K : Value → WP) (w : World) (h : s53 Tryz.prog arg0 arg1 arg2 K w) : Runs Tryz.prog 53 [arg0, arg1, arg2] K w :=
  runs_of_E wide (fn := Tryz.f53) (c := Tryz.f53.body.getD .skip) 22 A53 [arg0, arg1, arg2] w K Tryz.func53 (by kernel_rfl) (by kernel_rfl) (by kernel_rfl) (by kernel_rfl)
    (Eq.mp (by kernel_rfl : s53 Tryz.prog arg0 arg1 arg2 K w = E Tryz.prog (Tryz.f53.body.getD .skip) A53 (topK Tryz.prog K Tryz.f53.results) (fun i => (([arg0, arg1, arg2] : List Value)[i]?).getD undef) w) h)
theorem ct53 {arg0 arg1 arg2 : Value} {h : Hp} {post : Hp → Value → Prop} (hg : ∀ w0, Gs w0 h h [] (s53 Tryz.prog arg0 arg1 arg2 (RetP w0 h post))) : Ct Tryz.prog 53 [arg0, arg1, arg2] h post := Ct.of (sf := s53 Tryz.prog arg0 arg1 arg2) (c53 arg0 arg1 arg2) hg
theorem in53 {arg0 arg1 arg2 : Value} {S : WP} {K : Value → WP} (hg : G S (s53 Tryz.prog arg0 arg1 arg2 K)) : G S (Do Tryz.prog (vCall (.func (.func 53) #[] ⟨[]⟩) [arg0, arg1, arg2]) K) := Gs.into (args := [arg0, arg1, arg2]) (caps := []) (sf := s53 Tryz.prog arg0 arg1 arg2) (c53 arg0 arg1 arg2) hg

/- skewer/dyad.Compare : names 0 a, 1 b, 2 a, 3 b, 5 x, 6 y -/
def s54 (P : Program) (arg0 arg1 : Value) (K : Value → WP) : WP :=
  Do P (V (Instr.box 36 arg0)) fun a1 =>
  Do P (V (Instr.box 36 arg1)) fun b2 =>
  Jn (α := Value × Value) (fun j3 => Jk fun _ => -- x y
   Dr <|
   Qk P (V (Instr.loadAt 112 j3.1)) fun C4 t4_9 =>
   Qk P (V (Instr.loadAt 112 j3.2)) fun C5 t5_11 =>
   Qk P (V (Instr.loadAt 112 j3.1)) fun C6 t6_14 =>
   Qk P (V (Instr.loadAt 112 j3.2)) fun C7 t7_16 =>
   Do P (vCall (.func (.func 75) #[] ⟨[]⟩) [t4_9, (.int .i64 0)]) fun t8_10 =>
   With C7 <|
   With C6 <|
   With C5 <|
   Do P (vCall (.func (.func 75) #[] ⟨[]⟩) [t5_11, (.int .i64 0)]) fun t9_12 =>
   With C7 <|
   With C6 <|
   Do P (vCall (.func (.func 74) #[] ⟨[]⟩) [t8_10, t9_12]) fun t10_13 =>
   With C7 <|
   With C6 <|
   Do P (vCall (.func (.func 76) #[] ⟨[]⟩) [t6_14]) fun t11_15 =>
   With C7 <|
   Do P (vCall (.func (.func 76) #[] ⟨[]⟩) [t7_16]) fun t12_17 =>
   Do P (vCall (.func (.func 74) #[] ⟨[]⟩) [t11_15, t12_17]) fun t13_18 =>
   Do P (vBuildSlice 130 2 [(0, t10_13), (1, t13_18)]) fun t14_19 =>
   Do P (vCall (.func (.func 73) #[] ⟨[]⟩) [t14_19]) fun t15_20 =>
   K t15_20
  ) fun k3 =>
  Dr <|
  Qk P (V (Instr.loadAt 36 a1)) fun C16 t16_7 =>
  Qk P (V (Instr.loadAt 36 b2)) fun C17 t17_8 =>
  Or2 (
   Do P (V (Instr.alloc 112 true (.tuple #[]))) fun x18 =>
   With C17 <|
   With C16 <|
   Do P (V (Instr.alloc 112 true (.tuple #[]))) fun y19 =>
   With C17 <|
   With C16 <|
   Do P (U (Instr.storeAt 112 x18 t16_7)) fun t20_x =>
   With C17 <|
   Do P (U (Instr.storeAt 112 y19 t17_8)) fun t21_x =>
   k3 (x18, y19)
  ) (
   Do P (V (Instr.alloc 112 true (.tuple #[]))) fun y22 =>
   With C17 <|
   With C16 <|
   Do P (V (Instr.alloc 112 true (.tuple #[]))) fun x23 =>
   With C17 <|
   With C16 <|
   Do P (U (Instr.storeAt 112 x23 t16_7)) fun t24_x =>
   With C17 <|
   Do P (U (Instr.storeAt 112 y22 t17_8)) fun t25_x =>
   k3 (x23, y22)
  )
def A54 : Ann := .s (.n) (.j [5, 6] 480 (.plan [(0, 4, 128), (0, 8, 256), (0, 0, 32), (0, 0, 64), (13, 160, 0), (31, 320, 0)] (.q 0 (.q 1 (.or (.l 2 (.l 3 (.l 4 (.l 5 .done)))) (.l 3 (.l 2 (.l 4 (.l 5 .done)))))))) (.s (.plan [(0, 32, 512), (1, 512, 1024), (0, 64, 2048), (6, 2048, 4096), (10, 5120, 8192), (0, 32, 16384), (48, 16384, 32768), (0, 64, 65536), (192, 65536, 131072), (320, 163840, 262144), (528, 270336, 524288), (1536, 524288, 1048576), (4095, 1048576, 16)] (.q 0 (.q 2 (.q 5 (.q 7 (.l 1 (.l 3 (.l 4 (.l 6 (.l 8 (.l 9 (.l 10 (.l 11 (.q 12 .done)))))))))))))) (.n)))
set_option maxRecDepth 100000 in
theorem c54 (arg0 arg1 : Value) (K : Value → WP) (w : World) (h : s54 Tryz.prog arg0 arg1 K w) : Runs Tryz.prog 54 [arg0, arg1] K w :=
  runs_of_E wide (fn := Tryz.f54) (c := Tryz.f54.body.getD .skip) 21 A54 [arg0, arg1] w K Tryz.func54 (by kernel_rfl) (by kernel_rfl) (by kernel_rfl) (by kernel_rfl)
    (Eq.mp (by kernel_rfl : s54 Tryz.prog arg0 arg1 K w = E Tryz.prog (Tryz.f54.body.getD .skip) A54 (topK Tryz.prog K Tryz.f54.results) (fun i => (([arg0, arg1] : List Value)[i]?).getD undef) w) h)
theorem ct54 {arg0 arg1 : Value} {h : Hp} {post : Hp → Value → Prop} (hg : ∀ w0, Gs w0 h h [] (s54 Tryz.prog arg0 arg1 (RetP w0 h post))) : Ct Tryz.prog 54 [arg0, arg1] h post := Ct.of (sf := s54 Tryz.prog arg0 arg1) (c54 arg0 arg1) hg
theorem in54 {arg0 arg1 : Value} {S : WP} {K : Value → WP} (hg : G S (s54 Tryz.prog arg0 arg1 K)) : G S (Do Tryz.prog (vCall (.func (.func 54) #[] ⟨[]⟩) [arg0, arg1]) K) := Gs.into (args := [arg0, arg1]) (caps := []) (sf := s54 Tryz.prog arg0 arg1) (c54 arg0 arg1) hg

/- skewer/dyad.Between : names 0 a, 1 b, 2 a, 3 b, 6 out, 7 found, 8 exp, 9 low, 10 high, 11 _, 12 n, 13 x -/
def s55 (P : Program) (arg0 arg1 : Value) (K : Value → WP) : WP :=
  Do P (V (Instr.box 36 arg0)) fun a1 =>
  Do P (V (Instr.box 36 arg1)) fun b2 =>
  Do P (V (Instr.alloc 36 true (.tuple #[]))) fun t3_4 =>
  Do P (V (Instr.alloc 36 true (.tuple #[]))) fun out4 =>
  Jn (α := Value) (fun j5 => Jk fun _ => -- found
   Do P (V (Op.unary .not j5)) fun t6_70 =>
   If t6_70 (
    Do P (vBuild 36 []) fun t7_71 =>
    Do P (U (Instr.storeAt 36 t3_4 t7_71)) fun t8_x =>
    RetC P 36 t3_4 fun r => K (.tuple #[r, (.int .i64 190)])
   ) (
    Do P (V (Instr.loadAt 36 out4)) fun t9_72 =>
    Do P (U (Instr.storeAt 36 t3_4 t9_72)) fun t10_x =>
    RetC P 36 t3_4 fun r => K (.tuple #[r, (.int .i64 0)])
   )
  ) fun k5 =>
  Lp (α := Value × Value) (fun c11 s11 => Jk fun _ => -- found t14
   Do P (V (binOp .lss 3 s11.2 (.int .i64 31))) fun t12_15 =>
   If t12_15 (
    Jn (α := Value) (fun j13 => Jk fun _ => -- found
     Do P (V (binOp .add 3 s11.2 (.int .i64 1))) fun t14_68 =>
     c11 (j13, t14_68)
    ) fun k13 =>
    Do P (V (Instr.loadAt 36 a1)) fun t15_17 =>
    Do P (vCall (.func (.func 75) #[] ⟨[]⟩) [t15_17, s11.2]) fun t16_19 =>
    Do P (V (binOp .add 3 t16_19 (.int .i64 1))) fun t17_20 =>
    Do P (vBuiltin .max #[3, 3] 3 [t17_20, (.int .i64 (-1099511627776))]) fun t18_21 =>
    Do P (V (Instr.loadAt 36 b2)) fun t19_22 =>
    Do P (vCall (.func (.func 77) #[] ⟨[]⟩) [t19_22]) fun t20_23 =>
    Do P (vCall (.func (.func 75) #[] ⟨[]⟩) [t20_23, s11.2]) fun t21_25 =>
    Do P (V (Op.unary .neg t21_25)) fun t22_26 =>
    Do P (V (binOp .sub 3 t22_26 (.int .i64 1))) fun t23_27 =>
    Do P (vBuiltin .min #[3, 3] 3 [t23_27, (.int .i64 1099511627776)]) fun t24_28 =>
    Do P (V (binOp .gtr 3 t18_21 t24_28)) fun t25_31 =>
    If t25_31 (
     k13 s11.1
    ) (
     Do P (vBuild 118 [(0, (.int .i64 0)), (1, t18_21), (2, t24_28)]) fun t26_34 =>
     Lp (α := Value × Value) (fun c27 s27 => Jk fun _ => -- found t35
      Do P (V (binOp .lss 3 s27.2 (.int .i64 3))) fun t28_36 =>
      If t28_36 (
       Jn (α := Value) (fun j29 => Jk fun _ => -- found
        Do P (V (binOp .add 3 s27.2 (.int .i64 1))) fun t30_66 =>
        c27 (j29, t30_66)
       ) fun k29 =>
       Do P (V (Instr.index 118 t26_34 s27.2)) fun t31_37 =>
       Do P (vBuild 36 [(0, t31_37), (1, s11.2)]) fun t32_40 =>
       Do P (V (Instr.alloc 36 true (.tuple #[]))) fun x33 =>
       Do P (U (Instr.storeAt 36 x33 t32_40)) fun t34_x =>
       Jn (α := Value) (fun j35 => Jk fun _ => -- t64
        If j35 (
         Do P (V (Instr.loadAt 36 x33)) fun t36_65 =>
         Do P (U (Instr.storeAt 36 out4 t36_65)) fun t37_x =>
         k29 (.bool true)
        ) (
         k29 s27.1
        )
       ) fun k35 =>
       Dr <|
       Qk P (V (binOp .leq 3 t18_21 t31_37)) fun C38 t38_43 =>
       Gd t38_43 true (
        Qk P (V (binOp .leq 3 t31_37 t24_28)) fun C39 t39_47 =>
        Gd t39_47 true (
         Qk P (V (Instr.loadAt 36 x33)) fun C40 t40_50 =>
         Do P (vCall (.func (.func 39) #[] ⟨[]⟩) [t40_50]) fun t41_51 =>
         Gd t41_51 true (
          Qk P (V (Op.unary .not s27.1)) fun C42 t42_55 =>
          Gd t42_55 false (
           Qk P (V (Instr.fieldAt 36 out4 0)) fun C43 t43_59 =>
           Qk P (V (Instr.loadAt 3 t43_59)) fun C44 t44_60 =>
           Do P (vCall (.func (.func 78) #[] ⟨[]⟩) [t31_37]) fun t45_58 =>
           With C44 <|
           With C43 <|
           Do P (vCall (.func (.func 78) #[] ⟨[]⟩) [t44_60]) fun t46_61 =>
           Qk P (V (binOp .lss 3 t45_58 t46_61)) fun C47 t47_62 =>
           k35 t47_62
          ) (
           k35 (.bool true)
          )
         ) (
          k35 (.bool false)
         )
        ) (
         k35 (.bool false)
        )
       ) (
        k35 (.bool false)
       )
      ) (
       If s27.1 (
        k5 s27.1
       ) (
        k13 s27.1
       )
      )
     ) (s11.1, (.int .i64 0))
    )
   ) (
    k5 s11.1
   )
  ) ((.bool false), (.int .i64 0))
def A55 : Ann := .s (.n) (.s (.n) (.s (.n) (.s (.n) (.j [7] 590295810358705649536 (.s (.n) (.lp [7, 14] 590295810358705649536 (.s (.n) (.s (.s (.n) (.n)) (.j [7] 295147905179352774528 (.s (.n) (.s (.n) (.s (.n) (.s (.s (.n) (.s (.n) (.n))) (.s (.s (.n) (.lp [7, 35] 147573952555316686976 (.s (.n) (.s (.s (.n) (.n)) (.j [7] 73786976157399265408 (.s (.n) (.s (.n) (.j [64] 36893485948395847680 (.plan [(0, 512, 2199023255552), (0, 4096, 4398046511104), (3, 6597069766656, 8796093022208), (4, 8796093022208, 17592186044416), (8, 17592186048512, 35184372088832), (8, 17592186045440, 70368744177664), (56, 123145302310912, 140737488355328), (72, 158329674399744, 281474976710656), (136, 281474976710656, 562949953421312), (256, 562949953429504, 1125899906842624), (768, 1688849860263936, 2251799813685248), (1280, 2814749767106560, 4503599627370496), (3072, 4503599627370496, 9007199254740992), (4096, 9007199254741120, 18014398509481984), (12288, 27021597764222976, 36028797018963968), (20480, 45035996273704960, 72057594037927936), (32768, 72057594037932032, 144115188075855872), (98304, 216172782113783808, 288230376151711744), (32768, 72057594037928000, 576460752303423488), (294912, 648518346341351424, 1152921504606846976), (688128, 1224979098644774912, 2305843009213693952), (1212416, 2666130979403333632, 4611686018427387904), (2134016, 4692750811720056832, 9223372036854775808), (4198400, 9232379236109516800, 18446744073709551616)] (.q 0 (.q 1 (.q 2 (.q 3 (.q 4 (.q 5 (.q 6 (.q 7 (.q 8 (.q 9 (.l 10 (.q 11 (.q 12 (.q 13 (.q 14 (.q 15 (.q 16 (.q 18 (.q 19 (.l 17 (.l 20 (.q 21 (.q 22 (.q 23 .done))))))))))))))))))))))))) (.s (.n) (.n))))) (.n)))))) (.s (.n) (.s (.n) (.n)))))))) (.n)))))) (.s (.s (.n) (.s (.s (.n) (.n)) (.n))) (.s (.n) (.n)))))))
set_option maxRecDepth 100000 in
theorem c55 (arg0 arg1 : Value) (K : Value → WP) (w : World) (h : s55 Tryz.prog arg0 arg1 K w) : Runs Tryz.prog 55 [arg0, arg1] K w :=
  runs_of_E wide (fn := Tryz.f55) (c := Tryz.f55.body.getD .skip) 73 A55 [arg0, arg1] w K Tryz.func55 (by kernel_rfl) (by kernel_rfl) (by kernel_rfl) (by kernel_rfl)
    (Eq.mp (by kernel_rfl : s55 Tryz.prog arg0 arg1 K w = E Tryz.prog (Tryz.f55.body.getD .skip) A55 (topK Tryz.prog K Tryz.f55.results) (fun i => (([arg0, arg1] : List Value)[i]?).getD undef) w) h)
theorem ct55 {arg0 arg1 : Value} {h : Hp} {post : Hp → Value → Prop} (hg : ∀ w0, Gs w0 h h [] (s55 Tryz.prog arg0 arg1 (RetP w0 h post))) : Ct Tryz.prog 55 [arg0, arg1] h post := Ct.of (sf := s55 Tryz.prog arg0 arg1) (c55 arg0 arg1) hg
theorem in55 {arg0 arg1 : Value} {S : WP} {K : Value → WP} (hg : G S (s55 Tryz.prog arg0 arg1 K)) : G S (Do Tryz.prog (vCall (.func (.func 55) #[] ⟨[]⟩) [arg0, arg1]) K) := Gs.into (args := [arg0, arg1]) (caps := []) (sf := s55 Tryz.prog arg0 arg1) (c55 arg0 arg1) hg

/- skewer/skewerref20.Zero : names 0 f, 1 f -/
def s56 (P : Program) (arg0 : Value) (K : Value → WP) : WP :=
  Do P (V (Instr.box 28 arg0)) fun f1 =>
  Do P (V (Instr.fieldAt 28 f1 0)) fun t2_3 =>
  Do P (V (Instr.loadAt 26 t2_3)) fun t3_4 =>
  Do P (vBuiltin .len #[26] 3 [t3_4]) fun t4_5 =>
  Do P (V (Instr.fieldAt 28 f1 1)) fun t5_6 =>
  Do P (V (Instr.loadAt 26 t5_6)) fun t6_7 =>
  Do P (vBuiltin .len #[26] 3 [t6_7]) fun t7_8 =>
  Do P (V (binOp .add 3 t4_5 t7_8)) fun t8_9 =>
  Do P (V (EqG .eql 3 (.tmp 9) (.const (.int .i64 0)) t8_9 (.int .i64 0))) fun t9_10 =>
  K t9_10
def A56 : Ann := .s (.n) (.s (.n) (.n))
set_option maxRecDepth 100000 in
theorem c56 (arg0 : Value) (K : Value → WP) (w : World) (h : s56 Tryz.prog arg0 K w) : Runs Tryz.prog 56 [arg0] K w :=
  runs_of_E wide (fn := Tryz.f56) (c := Tryz.f56.body.getD .skip) 11 A56 [arg0] w K Tryz.func56 (by kernel_rfl) (by kernel_rfl) (by kernel_rfl) (by kernel_rfl)
    (Eq.mp (by kernel_rfl : s56 Tryz.prog arg0 K w = E Tryz.prog (Tryz.f56.body.getD .skip) A56 (topK Tryz.prog K Tryz.f56.results) (fun i => (([arg0] : List Value)[i]?).getD undef) w) h)
theorem ct56 {arg0 : Value} {h : Hp} {post : Hp → Value → Prop} (hg : ∀ w0, Gs w0 h h [] (s56 Tryz.prog arg0 (RetP w0 h post))) : Ct Tryz.prog 56 [arg0] h post := Ct.of (sf := s56 Tryz.prog arg0) (c56 arg0) hg
theorem in56 {arg0 : Value} {S : WP} {K : Value → WP} (hg : G S (s56 Tryz.prog arg0 K)) : G S (Do Tryz.prog (vCall (.func (.func 56) #[] ⟨[]⟩) [arg0]) K) := Gs.into (args := [arg0]) (caps := []) (sf := s56 Tryz.prog arg0) (c56 arg0) hg

/- skewer/skewerref20.whole : names 0 n, 1 n, 3 x -/
def s57 (P : Program) (arg0 : Value) (K : Value → WP) : WP :=
  Do P (V (Instr.alloc 63 true (.tuple #[]))) fun t1_2 =>
  Do P (vBuild 36 [(0, arg0)]) fun t2_5 =>
  Do P (V (Instr.alloc 36 true (.tuple #[]))) fun x3 =>
  Do P (U (Instr.storeAt 36 x3 t2_5)) fun t4_x =>
  Do P (V (Instr.loadAt 36 x3)) fun t5_6 =>
  Do P (vCall (.func (.func 41) #[] ⟨[]⟩) [t5_6]) fun t6_7 =>
  Do P (V (Op.unary .not t6_7)) fun t7_8 =>
  If t7_8 (
   Do P (vBuild 63 []) fun t8_9 =>
   Do P (U (Instr.storeAt 63 t1_2 t8_9)) fun t9_x =>
   RetC P 63 t1_2 K
  ) (
   Do P (V (Instr.loadAt 36 x3)) fun t10_10 =>
   Do P (vBuild 63 [(0, t10_10), (1, (.bool true))]) fun t11_11 =>
   Do P (U (Instr.storeAt 63 t1_2 t11_11)) fun t12_x =>
   RetC P 63 t1_2 K
  )
def A57 : Ann := .s (.n) (.s (.n) (.s (.s (.n) (.s (.s (.n) (.n)) (.n))) (.s (.n) (.n))))
set_option maxRecDepth 100000 in
theorem c57 (arg0 : Value) (K : Value → WP) (w : World) (h : s57 Tryz.prog arg0 K w) : Runs Tryz.prog 57 [arg0] K w :=
  runs_of_E wide (fn := Tryz.f57) (c := Tryz.f57.body.getD .skip) 12 A57 [arg0] w K Tryz.func57 (by kernel_rfl) (by kernel_rfl) (by kernel_rfl) (by kernel_rfl)
    (Eq.mp (by kernel_rfl : s57 Tryz.prog arg0 K w = E Tryz.prog (Tryz.f57.body.getD .skip) A57 (topK Tryz.prog K Tryz.f57.results) (fun i => (([arg0] : List Value)[i]?).getD undef) w) h)
theorem ct57 {arg0 : Value} {h : Hp} {post : Hp → Value → Prop} (hg : ∀ w0, Gs w0 h h [] (s57 Tryz.prog arg0 (RetP w0 h post))) : Ct Tryz.prog 57 [arg0] h post := Ct.of (sf := s57 Tryz.prog arg0) (c57 arg0) hg
theorem in57 {arg0 : Value} {S : WP} {K : Value → WP} (hg : G S (s57 Tryz.prog arg0 K)) : G S (Do Tryz.prog (vCall (.func (.func 57) #[] ⟨[]⟩) [arg0]) K) := Gs.into (args := [arg0]) (caps := []) (sf := s57 Tryz.prog arg0) (c57 arg0) hg

/- skewer/skewerref19.Compare : names 0 a, 1 b, 2 a, 3 b, 5 u, 6 r, 7 v, 8 s -/
def s58 (P : Program) (arg0 arg1 : Value) (K : Value → WP) : WP :=
  Do P (V (Instr.box 36 arg0)) fun a1 =>
  Do P (V (Instr.box 36 arg1)) fun b2 =>
  Do P (V (Instr.loadAt 36 a1)) fun t3_10 =>
  Do P (vCall (.func (.func 79) #[] ⟨[]⟩) [t3_10]) fun t4_11 =>
  Do P (V (Instr.extract t4_11 0)) fun t5_12 =>
  Do P (V (Instr.extract t4_11 1)) fun t6_13 =>
  Do P (V (Instr.loadAt 36 b2)) fun t7_15 =>
  Do P (vCall (.func (.func 79) #[] ⟨[]⟩) [t7_15]) fun t8_16 =>
  Do P (V (Instr.extract t8_16 0)) fun t9_17 =>
  Do P (V (Instr.extract t8_16 1)) fun t10_18 =>
  Jn (α := Value) (fun j11 => Jk fun _ => -- t31
   If j11 (
    K (.int .i64 (-1))
   ) (
    Jn (α := Value) (fun j12 => Jk fun _ => -- t39
     If j12 (
      K (.int .i64 1)
     ) (
      K (.int .i64 0)
     )
    ) fun k12 =>
    Do P (V (binOp .gtr 3 t5_12 t9_17)) fun t13_34 =>
    Gd t13_34 false (
     Do P (V (binOp .gtr 3 t6_13 t10_18)) fun t14_38 =>
     k12 t14_38
    ) (
     k12 (.bool true)
    )
   )
  ) fun k11 =>
  Do P (V (binOp .lss 3 t5_12 t9_17)) fun t15_21 =>
  Gd t15_21 false (
   Do P (V (EqG .eql 3 (.tmp 23) (.tmp 24) t5_12 t9_17)) fun t16_25 =>
   Gd t16_25 true (
    Do P (V (binOp .lss 3 t6_13 t10_18)) fun t17_29 =>
    k11 t17_29
   ) (
    k11 (.bool false)
   )
  ) (
   k11 (.bool true)
  )
def A58 : Ann := .s (.n) (.s (.n) (.s (.n) (.s (.j [31] 4294443008 (.n) (.s (.s (.n) (.n)) (.n))) (.s (.j [39] 1095216660480 (.n) (.s (.s (.n) (.n)) (.n))) (.s (.n) (.n))))))
set_option maxRecDepth 100000 in
theorem c58 (arg0 arg1 : Value) (K : Value → WP) (w : World) (h : s58 Tryz.prog arg0 arg1 K w) : Runs Tryz.prog 58 [arg0, arg1] K w :=
  runs_of_E wide (fn := Tryz.f58) (c := Tryz.f58.body.getD .skip) 40 A58 [arg0, arg1] w K Tryz.func58 (by kernel_rfl) (by kernel_rfl) (by kernel_rfl) (by kernel_rfl)
    (Eq.mp (by kernel_rfl : s58 Tryz.prog arg0 arg1 K w = E Tryz.prog (Tryz.f58.body.getD .skip) A58 (topK Tryz.prog K Tryz.f58.results) (fun i => (([arg0, arg1] : List Value)[i]?).getD undef) w) h)
theorem ct58 {arg0 arg1 : Value} {h : Hp} {post : Hp → Value → Prop} (hg : ∀ w0, Gs w0 h h [] (s58 Tryz.prog arg0 arg1 (RetP w0 h post))) : Ct Tryz.prog 58 [arg0, arg1] h post := Ct.of (sf := s58 Tryz.prog arg0 arg1) (c58 arg0 arg1) hg
theorem in58 {arg0 arg1 : Value} {S : WP} {K : Value → WP} (hg : G S (s58 Tryz.prog arg0 arg1 K)) : G S (Do Tryz.prog (vCall (.func (.func 58) #[] ⟨[]⟩) [arg0, arg1]) K) := Gs.into (args := [arg0, arg1]) (caps := []) (sf := s58 Tryz.prog arg0 arg1) (c58 arg0 arg1) hg

/- skewer/skewerref19.Between : names 0 a, 1 b, 2 a, 3 b, 6 g -/
def s59 (P : Program) (arg0 arg1 : Value) (K : Value → WP) : WP :=
  Do P (V (Instr.box 36 arg0)) fun a1 =>
  Do P (V (Instr.box 36 arg1)) fun b2 =>
  Do P (V (Instr.alloc 36 true (.tuple #[]))) fun t3_4 =>
  Do P (V (Instr.loadAt 36 a1)) fun t4_7 =>
  Do P (V (Instr.loadAt 36 b2)) fun t5_8 =>
  Do P (vCall (.func (.func 80) #[] ⟨[]⟩) [t4_7, t5_8]) fun t6_9 =>
  Do P (V (Instr.alloc 122 true (.tuple #[]))) fun g7 =>
  Do P (U (Instr.storeAt 122 g7 t6_9)) fun t8_x =>
  Dr <|
  Qk P (V (Instr.fieldAt 122 g7 0)) fun C9 t9_10 =>
  Qk P (V (Instr.loadAt 36 t9_10)) fun C10 t10_11 =>
  Qk P (V (Instr.fieldAt 122 g7 1)) fun C11 t11_12 =>
  Qk P (V (Instr.loadAt 39 t11_12)) fun C12 t12_13 =>
  Do P (U (Instr.storeAt 36 t3_4 t10_11)) fun t13_x =>
  With C12 <|
  With C11 <|
  RetC P 36 t3_4 fun r => K (.tuple #[r, t12_13])
def A59 : Ann := .s (.n) (.s (.n) (.s (.plan [(0, 64, 1024), (1, 1024, 2048), (0, 64, 4096), (4, 4096, 8192), (3, 2064, 0), (31, 8192, 32)] (.q 0 (.q 1 (.q 2 (.q 3 (.l 4 (.q 5 .done))))))) (.n)))
set_option maxRecDepth 100000 in
theorem c59 (arg0 arg1 : Value) (K : Value → WP) (w : World) (h : s59 Tryz.prog arg0 arg1 K w) : Runs Tryz.prog 59 [arg0, arg1] K w :=
  runs_of_E wide (fn := Tryz.f59) (c := Tryz.f59.body.getD .skip) 14 A59 [arg0, arg1] w K Tryz.func59 (by kernel_rfl) (by kernel_rfl) (by kernel_rfl) (by kernel_rfl)
    (Eq.mp (by kernel_rfl : s59 Tryz.prog arg0 arg1 K w = E Tryz.prog (Tryz.f59.body.getD .skip) A59 (topK Tryz.prog K Tryz.f59.results) (fun i => (([arg0, arg1] : List Value)[i]?).getD undef) w) h)
theorem ct59 {arg0 arg1 : Value} {h : Hp} {post : Hp → Value → Prop} (hg : ∀ w0, Gs w0 h h [] (s59 Tryz.prog arg0 arg1 (RetP w0 h post))) : Ct Tryz.prog 59 [arg0, arg1] h post := Ct.of (sf := s59 Tryz.prog arg0 arg1) (c59 arg0 arg1) hg
theorem in59 {arg0 arg1 : Value} {S : WP} {K : Value → WP} (hg : G S (s59 Tryz.prog arg0 arg1 K)) : G S (Do Tryz.prog (vCall (.func (.func 59) #[] ⟨[]⟩) [arg0, arg1]) K) := Gs.into (args := [arg0, arg1]) (caps := []) (sf := s59 Tryz.prog arg0 arg1) (c59 arg0 arg1) hg

/- skewer/value.parents : names 0 x, 1 x, 2 l, 3 r -/
def s60 (P : Program) (arg0 : Value) (K : Value → WP) : WP :=
  Do P (V (Instr.box 36 arg0)) fun x1 =>
  Do P (V (Instr.fieldAt 36 x1 1)) fun t2_5 =>
  Do P (V (Instr.loadAt 3 t2_5)) fun t3_6 =>
  Do P (V (binOp .gtr 3 t3_6 (.int .i64 0))) fun t4_7 =>
  If t4_7 (
   Dr <|
   Qk P (V (Instr.fieldAt 36 x1 0)) fun C5 t5_8 =>
   Qk P (V (Instr.loadAt 3 t5_8)) fun C6 t6_9 =>
   Qk P (V (binOp .sub 3 t6_9 (.int .i64 1))) fun C7 t7_10 =>
   Qk P (V (Instr.fieldAt 36 x1 1)) fun C8 t8_11 =>
   Qk P (V (Instr.loadAt 3 t8_11)) fun C9 t9_12 =>
   Qk P (V (Instr.fieldAt 36 x1 0)) fun C10 t10_15 =>
   Qk P (V (Instr.loadAt 3 t10_15)) fun C11 t11_16 =>
   Qk P (V (binOp .add 3 t11_16 (.int .i64 1))) fun C12 t12_17 =>
   Qk P (V (Instr.fieldAt 36 x1 1)) fun C13 t13_18 =>
   Qk P (V (Instr.loadAt 3 t13_18)) fun C14 t14_19 =>
   Do P (vCall (.func (.func 81) #[] ⟨[]⟩) [t7_10, t9_12]) fun t15_13 =>
   With C14 <|
   With C13 <|
   With C12 <|
   With C11 <|
   With C10 <|
   Or2 (
    Do P (vBuildSlice 93 1 [(0, t15_13)]) fun t16_14 =>
    With C14 <|
    With C13 <|
    With C12 <|
    With C11 <|
    With C10 <|
    Do P (vCall (.func (.func 81) #[] ⟨[]⟩) [t12_17, t14_19]) fun t17_20 =>
    Do P (vBuildSlice 93 1 [(0, t17_20)]) fun t18_21 =>
    K (.tuple #[t16_14, t18_21])
   ) (
    Do P (vCall (.func (.func 81) #[] ⟨[]⟩) [t12_17, t14_19]) fun t19_20 =>
    Or2 (
     Do P (vBuildSlice 93 1 [(0, t15_13)]) fun t20_14 =>
     With C14 <|
     With C13 <|
     With C12 <|
     With C11 <|
     With C10 <|
     Do P (vBuildSlice 93 1 [(0, t19_20)]) fun t21_21 =>
     K (.tuple #[t20_14, t21_21])
    ) (
     Do P (vBuildSlice 93 1 [(0, t19_20)]) fun t22_21 =>
     Do P (vBuildSlice 93 1 [(0, t15_13)]) fun t23_14 =>
     With C14 <|
     With C13 <|
     With C12 <|
     With C11 <|
     With C10 <|
     K (.tuple #[t23_14, t22_21])
    )
   )
  ) (
   Do P (V (Instr.fieldAt 36 x1 0)) fun t24_23 =>
   Do P (V (Instr.loadAt 3 t24_23)) fun t25_24 =>
   Do P (V (binOp .gtr 3 t25_24 (.int .i64 0))) fun t26_25 =>
   If t26_25 (
    Do P (V (Instr.fieldAt 36 x1 0)) fun t27_26 =>
    Do P (V (Instr.loadAt 3 t27_26)) fun t28_27 =>
    Do P (V (binOp .sub 3 t28_27 (.int .i64 1))) fun t29_28 =>
    Do P (vBuild 36 [(0, t29_28)]) fun t30_29 =>
    Do P (vBuildSlice 93 1 [(0, t30_29)]) fun t31_30 =>
    K (.tuple #[t31_30, (.slice none 0 0)])
   ) (
    Do P (V (Instr.fieldAt 36 x1 0)) fun t32_32 =>
    Do P (V (Instr.loadAt 3 t32_32)) fun t33_33 =>
    Do P (V (binOp .lss 3 t33_33 (.int .i64 0))) fun t34_34 =>
    If t34_34 (
     Dr <|
     Qk P (V (Instr.fieldAt 36 x1 0)) fun C35 t35_35 =>
     Qk P (V (Instr.loadAt 3 t35_35)) fun C36 t36_36 =>
     Qk P (V (binOp .add 3 t36_36 (.int .i64 1))) fun C37 t37_37 =>
     Qk P (vBuild 36 [(0, t37_37)]) fun C38 t38_38 =>
     Do P (vBuildSlice 93 1 [(0, t38_38)]) fun t39_39 =>
     K (.tuple #[(.slice none 0 0), t39_39])
    ) (
     K (.tuple #[(.slice none 0 0), (.slice none 0 0)])
    )
   )
  )
def A60 : Ann := .s (.n) (.s (.s (.n) (.s (.s (.plan [(0, 2, 256), (1, 256, 512), (2, 512, 1024), (0, 2, 2048), (8, 2048, 4096), (20, 5120, 8192), (32, 8192, 16384), (0, 2, 32768), (128, 32768, 65536), (256, 65536, 131072), (0, 2, 262144), (1024, 262144, 524288), (2592, 655360, 1048576), (4096, 1048576, 2097152), (4223, 16384, 4), (32767, 2097152, 8)] (.q 0 (.q 1 (.q 2 (.q 3 (.q 4 (.q 7 (.q 8 (.q 9 (.q 10 (.q 11 (.l 5 (.or (.l 6 (.l 12 (.q 14 (.l 13 (.q 15 .done))))) (.l 12 (.or (.l 6 (.q 14 (.l 13 (.q 15 .done)))) (.l 13 (.l 6 (.q 14 (.q 15 .done))))))))))))))))))) (.n)) (.s (.n) (.s (.s (.n) (.n)) (.s (.n) (.s (.s (.plan [(0, 2, 34359738368), (1, 34359738368, 68719476736), (2, 68719476736, 137438953472), (4, 137438953472, 274877906944), (8, 274877906944, 549755813888), (0, 0, 4), (63, 549755813888, 8)] (.q 0 (.q 1 (.q 2 (.q 3 (.q 5 (.l 4 (.q 6 .done)))))))) (.n)) (.n))))))) (.s (.n) (.n)))
set_option maxRecDepth 100000 in
theorem c60 (arg0 : Value) (K : Value → WP) (w : World) (h : s60 Tryz.prog arg0 K w) : Runs Tryz.prog 60 [arg0] K w :=
  runs_of_E wide (fn := Tryz.f60) (c := Tryz.f60.body.getD .skip) 40 A60 [arg0] w K Tryz.func60 (by kernel_rfl) (by kernel_rfl) (by kernel_rfl) (by kernel_rfl)
    (Eq.mp (by kernel_rfl : s60 Tryz.prog arg0 K w = E Tryz.prog (Tryz.f60.body.getD .skip) A60 (topK Tryz.prog K Tryz.f60.results) (fun i => (([arg0] : List Value)[i]?).getD undef) w) h)
theorem ct60 {arg0 : Value} {h : Hp} {post : Hp → Value → Prop} (hg : ∀ w0, Gs w0 h h [] (s60 Tryz.prog arg0 (RetP w0 h post))) : Ct Tryz.prog 60 [arg0] h post := Ct.of (sf := s60 Tryz.prog arg0) (c60 arg0) hg
theorem in60 {arg0 : Value} {S : WP} {K : Value → WP} (hg : G S (s60 Tryz.prog arg0 K)) : G S (Do Tryz.prog (vCall (.func (.func 60) #[] ⟨[]⟩) [arg0]) K) := Gs.into (args := [arg0]) (caps := []) (sf := s60 Tryz.prog arg0) (c60 arg0) hg

/- skewer/skewerref20.half : names 0 num, 1 exp, 2 num, 3 exp -/
def s61 (P : Program) (arg0 arg1 : Value) (K : Value → WP) : WP :=
  Do P (V (Instr.alloc 36 true (.tuple #[]))) fun t1_4 =>
  Lp (α := Value × Value) (fun c2 s2 => Jk fun _ => -- num exp
   Jn (α := Value) (fun j3 => Jk fun _ => -- t11
    If j3 (
     Do P (V (binOp .quo 3 s2.1 (.int .i64 2))) fun t4_13 =>
     Do P (V (binOp .sub 3 s2.2 (.int .i64 1))) fun t5_15 =>
     c2 (t4_13, t5_15)
    ) (
     Do P (vBuild 36 [(0, s2.1), (1, s2.2)]) fun t6_18 =>
     Do P (U (Instr.storeAt 36 t1_4 t6_18)) fun t7_x =>
     RetC P 36 t1_4 K
    )
   ) fun k3 =>
   Do P (V (binOp .gtr 3 s2.2 (.int .i64 0))) fun t8_6 =>
   Gd t8_6 true (
    Do P (V (binOp .rem 3 s2.1 (.int .i64 2))) fun t9_9 =>
    Do P (V (EqG .eql 3 (.tmp 9) (.const (.int .i64 0)) t9_9 (.int .i64 0))) fun t10_10 =>
    k3 t10_10
   ) (
    k3 (.bool false)
   )
  ) (arg0, arg1)
def A61 : Ann := .s (.n) (.s (.lp [0, 1] 65507 (.s (.j [11] 4064 (.n) (.s (.n) (.n))) (.n))) (.s (.n) (.n)))
set_option maxRecDepth 100000 in
theorem c61 (arg0 arg1 : Value) (K : Value → WP) (w : World) (h : s61 Tryz.prog arg0 arg1 K w) : Runs Tryz.prog 61 [arg0, arg1] K w :=
  runs_of_E wide (fn := Tryz.f61) (c := Tryz.f61.body.getD .skip) 19 A61 [arg0, arg1] w K Tryz.func61 (by kernel_rfl) (by kernel_rfl) (by kernel_rfl) (by kernel_rfl)
    (Eq.mp (by kernel_rfl : s61 Tryz.prog arg0 arg1 K w = E Tryz.prog (Tryz.f61.body.getD .skip) A61 (topK Tryz.prog K Tryz.f61.results) (fun i => (([arg0, arg1] : List Value)[i]?).getD undef) w) h)
theorem ct61 {arg0 arg1 : Value} {h : Hp} {post : Hp → Value → Prop} (hg : ∀ w0, Gs w0 h h [] (s61 Tryz.prog arg0 arg1 (RetP w0 h post))) : Ct Tryz.prog 61 [arg0, arg1] h post := Ct.of (sf := s61 Tryz.prog arg0 arg1) (c61 arg0 arg1) hg
theorem in61 {arg0 arg1 : Value} {S : WP} {K : Value → WP} (hg : G S (s61 Tryz.prog arg0 arg1 K)) : G S (Do Tryz.prog (vCall (.func (.func 61) #[] ⟨[]⟩) [arg0, arg1]) K) := Gs.into (args := [arg0, arg1]) (caps := []) (sf := s61 Tryz.prog arg0 arg1) (c61 arg0 arg1) hg

/- (*skewer/value.book).make$1 : names 0 list, 2 list, 3 i, 4 n -/
def s62 (P : Program) (arg0 arg1 : Value) (K : Value → WP) : WP :=
  Do P (vBuiltin .len #[51] 3 [arg0]) fun t1_6 =>
  Lp (α := Value) (fun c2 s2 => Jk fun _ => -- t7
   Do P (V (binOp .lss 3 s2 t1_6)) fun t3_8 =>
   If t3_8 (
    Do P (V (Instr.indexAt 51 arg0 s2)) fun t4_10 =>
    Do P (V (Instr.loadAt 49 t4_10)) fun t5_11 =>
    Jn (α := Unit) (fun j6 => Jk fun _ => -- 
     Do P (vNil t5_11) fun t7_16 =>
     Do P (V (Instr.fieldAt 53 t7_16 0)) fun t8_17 =>
     Do P (V (Instr.loadAt 9 t8_17)) fun t9_18 =>
     Do P (vCall (.func (.func 64) #[] ⟨[]⟩) [arg1, t9_18]) fun t10_19 =>
     Do P (V (binOp .add 3 s2 (.int .i64 1))) fun t11_20 =>
     c2 t11_20
    ) fun k6 =>
    Do P (V (binOp .gtr 3 s2 (.int .i64 0))) fun t12_13 =>
    If t12_13 (
     Do P (vCall (.func (.func 63) #[] ⟨[]⟩) [arg1, (.int .u8 44)]) fun t13_14 =>
     k6 ()
    ) (
     k6 ()
    )
   ) (
    K (.tuple #[])
   )
  ) (.int .i64 0)
def A62 : Ann := .s (.n) (.lp [7] 2097048 (.s (.n) (.s (.s (.n) (.n)) (.s (.s (.n) (.j [] 28672 (.s (.n) (.s (.n) (.n))) (.n))) (.n)))))
set_option maxRecDepth 100000 in
theorem c62 (arg0 arg1 : Value) (K : Value → WP) (w : World) (h : s62 Tryz.prog arg0 arg1 K w) : Runs Tryz.prog 62 [arg0, arg1] K w :=
  runs_of_E wide (fn := Tryz.f62) (c := Tryz.f62.body.getD .skip) 21 A62 [arg0, arg1] w K Tryz.func62 (by kernel_rfl) (by kernel_rfl) (by kernel_rfl) (by kernel_rfl)
    (Eq.mp (by kernel_rfl : s62 Tryz.prog arg0 arg1 K w = E Tryz.prog (Tryz.f62.body.getD .skip) A62 (topK Tryz.prog K Tryz.f62.results) (fun i => (([arg0, arg1] : List Value)[i]?).getD undef) w) h)
theorem ct62 {arg0 arg1 : Value} {h : Hp} {post : Hp → Value → Prop} (hg : ∀ w0, Gs w0 h h [] (s62 Tryz.prog arg0 arg1 (RetP w0 h post))) : Ct Tryz.prog 62 [arg0, arg1] h post := Ct.of (sf := s62 Tryz.prog arg0 arg1) (c62 arg0 arg1) hg
theorem in62 {arg0 arg1 : Value} {S : WP} {K : Value → WP} (hg : G S (s62 Tryz.prog arg0 arg1 K)) : G S (Do Tryz.prog (vCall (.func (.func 62) #[] ⟨[arg1]⟩) [arg0]) K) := Gs.into (args := [arg0]) (caps := [arg1]) (sf := s62 Tryz.prog arg0 arg1) (c62 arg0 arg1) hg

/- (*strings.Builder).WriteByte : names 0 b, 1 c, 2 b, 3 c -/
def s63 (P : Program) (arg0 arg1 : Value) (K : Value → WP) : WP :=
  Do P (vCall (.func (.func 82) #[] ⟨[]⟩) [arg0]) fun t1_6 =>
  Do P (vNil arg0) fun t2_9 =>
  Do P (V (Instr.fieldAt 99 t2_9 1)) fun t3_10 =>
  Do P (V (Instr.loadAt 22 t3_10)) fun t4_11 =>
  Do P (vBuildSlice 22 1 [(0, arg1)]) fun t5_13 =>
  Do P (vBuiltin .append #[22, 22] 22 [t4_11, t5_13]) fun t6_14 =>
  Do P (vNil arg0) fun t7_15 =>
  Do P (V (Instr.fieldAt 99 t7_15 1)) fun t8_16 =>
  Do P (U (Instr.storeAt 22 t8_16 t6_14)) fun t9_x =>
  K .nilIface
def A63 : Ann := .s (.n) (.s (.n) (.s (.n) (.s (.n) (.n))))
set_option maxRecDepth 100000 in
theorem c63 (arg0 arg1 : Value) (K : Value → WP) (w : World) (h : s63 Tryz.prog arg0 arg1 K w) : Runs Tryz.prog 63 [arg0, arg1] K w :=
  runs_of_E wide (fn := Tryz.f63) (c := Tryz.f63.body.getD .skip) 17 A63 [arg0, arg1] w K Tryz.func63 (by kernel_rfl) (by kernel_rfl) (by kernel_rfl) (by kernel_rfl)
    (Eq.mp (by kernel_rfl : s63 Tryz.prog arg0 arg1 K w = E Tryz.prog (Tryz.f63.body.getD .skip) A63 (topK Tryz.prog K Tryz.f63.results) (fun i => (([arg0, arg1] : List Value)[i]?).getD undef) w) h)
theorem ct63 {arg0 arg1 : Value} {h : Hp} {post : Hp → Value → Prop} (hg : ∀ w0, Gs w0 h h [] (s63 Tryz.prog arg0 arg1 (RetP w0 h post))) : Ct Tryz.prog 63 [arg0, arg1] h post := Ct.of (sf := s63 Tryz.prog arg0 arg1) (c63 arg0 arg1) hg
theorem in63 {arg0 arg1 : Value} {S : WP} {K : Value → WP} (hg : G S (s63 Tryz.prog arg0 arg1 K)) : G S (Do Tryz.prog (vCall (.func (.func 63) #[] ⟨[]⟩) [arg0, arg1]) K) := Gs.into (args := [arg0, arg1]) (caps := []) (sf := s63 Tryz.prog arg0 arg1) (c63 arg0 arg1) hg

/- (*strings.Builder).WriteString : names 0 b, 1 s, 2 b, 3 s -/
def s64 (P : Program) (arg0 arg1 : Value) (K : Value → WP) : WP :=
  Do P (vCall (.func (.func 82) #[] ⟨[]⟩) [arg0]) fun t1_7 =>
  Do P (vNil arg0) fun t2_10 =>
  Do P (V (Instr.fieldAt 99 t2_10 1)) fun t3_11 =>
  Do P (V (Instr.loadAt 22 t3_11)) fun t4_12 =>
  Do P (vBuiltin .append #[22, 9] 22 [t4_12, arg1]) fun t5_14 =>
  Do P (vNil arg0) fun t6_15 =>
  Do P (V (Instr.fieldAt 99 t6_15 1)) fun t7_16 =>
  Do P (U (Instr.storeAt 22 t7_16 t5_14)) fun t8_x =>
  Do P (vBuiltin .len #[9] 3 [arg1]) fun t9_18 =>
  K (.tuple #[t9_18, .nilIface])
def A64 : Ann := .s (.n) (.s (.n) (.s (.n) (.s (.n) (.n))))
set_option maxRecDepth 100000 in
theorem c64 (arg0 arg1 : Value) (K : Value → WP) (w : World) (h : s64 Tryz.prog arg0 arg1 K w) : Runs Tryz.prog 64 [arg0, arg1] K w :=
  runs_of_E wide (fn := Tryz.f64) (c := Tryz.f64.body.getD .skip) 19 A64 [arg0, arg1] w K Tryz.func64 (by kernel_rfl) (by kernel_rfl) (by kernel_rfl) (by kernel_rfl)
    (Eq.mp (by kernel_rfl : s64 Tryz.prog arg0 arg1 K w = E Tryz.prog (Tryz.f64.body.getD .skip) A64 (topK Tryz.prog K Tryz.f64.results) (fun i => (([arg0, arg1] : List Value)[i]?).getD undef) w) h)
theorem ct64 {arg0 arg1 : Value} {h : Hp} {post : Hp → Value → Prop} (hg : ∀ w0, Gs w0 h h [] (s64 Tryz.prog arg0 arg1 (RetP w0 h post))) : Ct Tryz.prog 64 [arg0, arg1] h post := Ct.of (sf := s64 Tryz.prog arg0 arg1) (c64 arg0 arg1) hg
theorem in64 {arg0 arg1 : Value} {S : WP} {K : Value → WP} (hg : G S (s64 Tryz.prog arg0 arg1 K)) : G S (Do Tryz.prog (vCall (.func (.func 64) #[] ⟨[]⟩) [arg0, arg1]) K) := Gs.into (args := [arg0, arg1]) (caps := []) (sf := s64 Tryz.prog arg0 arg1) (c64 arg0 arg1) hg

/- (*strings.Builder).String : names 0 b, 1 b -/
def s65 (P : Program) (arg0 : Value) (K : Value → WP) : WP :=
  Dr <|
  Qk P (vNil arg0) fun C1 t1_4 =>
  Qk P (V (Instr.fieldAt 99 t1_4 1)) fun C2 t2_5 =>
  Qk P (V (Instr.loadAt 22 t2_5)) fun C3 t3_6 =>
  Qk P (vNil arg0) fun C4 t4_9 =>
  Qk P (V (Instr.fieldAt 99 t4_9 1)) fun C5 t5_10 =>
  Qk P (V (Instr.loadAt 22 t5_10)) fun C6 t6_11 =>
  Qk P (vBuiltin .len #[22] 3 [t6_11]) fun C7 t7_12 =>
  Do P (vBuiltin .unsafeSliceData #[22] 124 [t3_6]) fun t8_7 =>
  With C7 <|
  With C6 <|
  With C5 <|
  With C4 <|
  Do P (vBuiltin .unsafeString #[124, 3] 9 [t8_7, t7_12]) fun t9_13 =>
  K t9_13
def A65 : Ann := .s (.n) (.s (.plan [(0, 1, 8), (1, 8, 16), (2, 16, 32), (4, 32, 64), (8, 64, 128), (0, 1, 256), (32, 256, 512), (64, 512, 1024), (128, 1024, 2048), (256, 2048, 4096), (528, 4224, 8192), (2047, 8192, 4)] (.q 0 (.q 1 (.q 2 (.q 3 (.q 5 (.q 6 (.q 7 (.q 8 (.q 9 (.l 4 (.l 10 (.q 11 .done))))))))))))) (.n))
set_option maxRecDepth 100000 in
theorem c65 (arg0 : Value) (K : Value → WP) (w : World) (h : s65 Tryz.prog arg0 K w) : Runs Tryz.prog 65 [arg0] K w :=
  runs_of_E wide (fn := Tryz.f65) (c := Tryz.f65.body.getD .skip) 14 A65 [arg0] w K Tryz.func65 (by kernel_rfl) (by kernel_rfl) (by kernel_rfl) (by kernel_rfl)
    (Eq.mp (by kernel_rfl : s65 Tryz.prog arg0 K w = E Tryz.prog (Tryz.f65.body.getD .skip) A65 (topK Tryz.prog K Tryz.f65.results) (fun i => (([arg0] : List Value)[i]?).getD undef) w) h)
theorem ct65 {arg0 : Value} {h : Hp} {post : Hp → Value → Prop} (hg : ∀ w0, Gs w0 h h [] (s65 Tryz.prog arg0 (RetP w0 h post))) : Ct Tryz.prog 65 [arg0] h post := Ct.of (sf := s65 Tryz.prog arg0) (c65 arg0) hg
theorem in65 {arg0 : Value} {S : WP} {K : Value → WP} (hg : G S (s65 Tryz.prog arg0 K)) : G S (Do Tryz.prog (vCall (.func (.func 65) #[] ⟨[]⟩) [arg0]) K) := Gs.into (args := [arg0]) (caps := []) (sf := s65 Tryz.prog arg0) (c65 arg0) hg

/- slices.IndexFunc[[]*skewer/value.node,*skewer/value.node] : names 0 s, 1 f, 2 s, 3 f, 5 i -/
def s66 (P : Program) (arg0 arg1 : Value) (K : Value → WP) : WP :=
  Do P (vBuiltin .len #[51] 3 [arg0]) fun t1_7 =>
  Lp (α := Value) (fun c2 s2 => Jk fun _ => -- t8
   Do P (V (binOp .lss 3 s2 t1_7)) fun t3_9 =>
   If t3_9 (
    Do P (V (Instr.indexAt 51 arg0 s2)) fun t4_14 =>
    Do P (V (Instr.loadAt 49 t4_14)) fun t5_15 =>
    Do P (vCall arg1 [t5_15]) fun t6_16 =>
    If t6_16 (
     K s2
    ) (
     Do P (V (binOp .add 3 s2 (.int .i64 1))) fun t7_18 =>
     c2 t7_18
    )
   ) (
    K (.int .i64 (-1))
   )
  ) (.int .i64 0)
def A66 : Ann := .s (.n) (.s (.s (.n) (.lp [8] 524080 (.s (.n) (.s (.s (.n) (.n)) (.s (.s (.n) (.s (.n) (.s (.s (.n) (.n)) (.n)))) (.n)))))) (.s (.n) (.n)))
set_option maxRecDepth 100000 in
theorem c66 (arg0 arg1 : Value) (K : Value → WP) (w : World) (h : s66 Tryz.prog arg0 arg1 K w) : Runs Tryz.prog 66 [arg0, arg1] K w :=
  runs_of_E wide (fn := Tryz.f66) (c := Tryz.f66.body.getD .skip) 19 A66 [arg0, arg1] w K Tryz.func66 (by kernel_rfl) (by kernel_rfl) (by kernel_rfl) (by kernel_rfl)
    (Eq.mp (by kernel_rfl : s66 Tryz.prog arg0 arg1 K w = E Tryz.prog (Tryz.f66.body.getD .skip) A66 (topK Tryz.prog K Tryz.f66.results) (fun i => (([arg0, arg1] : List Value)[i]?).getD undef) w) h)
theorem ct66 {arg0 arg1 : Value} {h : Hp} {post : Hp → Value → Prop} (hg : ∀ w0, Gs w0 h h [] (s66 Tryz.prog arg0 arg1 (RetP w0 h post))) : Ct Tryz.prog 66 [arg0, arg1] h post := Ct.of (sf := s66 Tryz.prog arg0 arg1) (c66 arg0 arg1) hg
theorem in66 {arg0 arg1 : Value} {S : WP} {K : Value → WP} (hg : G S (s66 Tryz.prog arg0 arg1 K)) : G S (Do Tryz.prog (vCall (.func (.func 66) #[] ⟨[]⟩) [arg0, arg1]) K) := Gs.into (args := [arg0, arg1]) (caps := []) (sf := s66 Tryz.prog arg0 arg1) (c66 arg0 arg1) hg

/- (*skewer/value.book).bypass$1 : names 0 z, 3 z -/
def s67 (P : Program) (arg0 arg1 arg2 : Value) (K : Value → WP) : WP :=
  Do P (V (Instr.loadAt 46 arg1)) fun t1_5 =>
  Do P (V (Instr.loadAt 49 arg2)) fun t2_7 =>
  Do P (vCall (.func (.func 27) #[] ⟨[]⟩) [t1_5, arg0, t2_7]) fun t3_8 =>
  K t3_8
def A67 : Ann := .s (.n) (.s (.n) (.n))
set_option maxRecDepth 100000 in
theorem c67 (arg0 arg1 arg2 : Value) (K : Value → WP) (w : World) (h : s67 Tryz.prog arg0 arg1 arg2 K w) : Runs Tryz.prog 67 [arg0, arg1, arg2] K w :=
  runs_of_E wide (fn := Tryz.f67) (c := Tryz.f67.body.getD .skip) 9 A67 [arg0, arg1, arg2] w K Tryz.func67 (by kernel_rfl) (by kernel_rfl) (by kernel_rfl) (by kernel_rfl)
    (Eq.mp (by kernel_rfl : s67 Tryz.prog arg0 arg1 arg2 K w = E Tryz.prog (Tryz.f67.body.getD .skip) A67 (topK Tryz.prog K Tryz.f67.results) (fun i => (([arg0, arg1, arg2] : List Value)[i]?).getD undef) w) h)
theorem ct67 {arg0 arg1 arg2 : Value} {h : Hp} {post : Hp → Value → Prop} (hg : ∀ w0, Gs w0 h h [] (s67 Tryz.prog arg0 arg1 arg2 (RetP w0 h post))) : Ct Tryz.prog 67 [arg0, arg1, arg2] h post := Ct.of (sf := s67 Tryz.prog arg0 arg1 arg2) (c67 arg0 arg1 arg2) hg
theorem in67 {arg0 arg1 arg2 : Value} {S : WP} {K : Value → WP} (hg : G S (s67 Tryz.prog arg0 arg1 arg2 K)) : G S (Do Tryz.prog (vCall (.func (.func 67) #[] ⟨[arg1, arg2]⟩) [arg0]) K) := Gs.into (args := [arg0]) (caps := [arg1, arg2]) (sf := s67 Tryz.prog arg0 arg1 arg2) (c67 arg0 arg1 arg2) hg

/- slices.Concat[[]*skewer/value.node,*skewer/value.node] : names 0 slices, 1 slices, 3 size, 4 _, 5 s, 6 newslice, 7 _, 8 s -/
def s68 (P : Program) (arg0 : Value) (K : Value → WP) : WP :=
  Do P (vBuiltin .len #[125] 3 [arg0]) fun t1_10 =>
  Lp (α := Value × Value) (fun c2 s2 => Jk fun _ => -- size t11
   Do P (V (binOp .lss 3 s2.2 t1_10)) fun t3_12 =>
   If t3_12 (
    Jn (α := Value) (fun j4 => Jk fun _ => -- size
     Do P (V (binOp .add 3 s2.2 (.int .i64 1))) fun t5_22 =>
     c2 (j4, t5_22)
    ) fun k4 =>
    Do P (V (Instr.indexAt 125 arg0 s2.2)) fun t6_13 =>
    Do P (V (Instr.loadAt 51 t6_13)) fun t7_14 =>
    Do P (vBuiltin .len #[51] 3 [t7_14]) fun t8_17 =>
    Do P (V (binOp .add 3 s2.1 t8_17)) fun t9_18 =>
    Do P (V (binOp .lss 3 t9_18 (.int .i64 0))) fun t10_20 =>
    If t10_20 (
     Do P (V (Instr.makeInterface 9 (.string ⟨#[108, 101, 110, 32, 111, 117, 116, 32, 111, 102, 32, 114, 97, 110, 103, 101]⟩))) fun t11_21 =>
     Do P (V (Instr.panic t11_21)) fun t12_x =>
     k4 t9_18
    ) (
     k4 t9_18
    )
   ) (
    Do P (vCall (.func (.func 83) #[] ⟨[]⟩) [(.slice none 0 0), s2.1]) fun t13_24 =>
    Do P (vBuiltin .len #[125] 3 [arg0]) fun t14_26 =>
    Lp (α := Value × Value) (fun c15 s15 => Jk fun _ => -- newslice t27
     Do P (V (binOp .lss 3 s15.2 t14_26)) fun t16_28 =>
     If t16_28 (
      Do P (V (Instr.indexAt 125 arg0 s15.2)) fun t17_29 =>
      Do P (V (Instr.loadAt 51 t17_29)) fun t18_30 =>
      Do P (vBuiltin .append #[51, 51] 51 [s15.1, t18_30]) fun t19_33 =>
      Do P (V (binOp .add 3 s15.2 (.int .i64 1))) fun t20_34 =>
      c15 (t19_33, t20_34)
     ) (
      K s15.1
     )
    ) (t13_24, (.int .i64 0))
   )
  ) ((.int .i64 0), (.int .i64 0))
def A68 : Ann := .s (.n) (.s (.n) (.s (.s (.n) (.lp [3, 11] 8386600 (.s (.n) (.s (.s (.n) (.n)) (.j [3] 4186152 (.s (.n) (.s (.n) (.s (.n) (.s (.n) (.n))))) (.n)))))) (.s (.n) (.s (.s (.n) (.lp [6, 27] 34225520960 (.s (.n) (.s (.s (.n) (.n)) (.s (.s (.n) (.n)) (.n)))))) (.s (.n) (.n))))))
set_option maxRecDepth 100000 in
theorem c68 (arg0 : Value) (K : Value → WP) (w : World) (h : s68 Tryz.prog arg0 K w) : Runs Tryz.prog 68 [arg0] K w :=
  runs_of_E wide (fn := Tryz.f68) (c := Tryz.f68.body.getD .skip) 36 A68 [arg0] w K Tryz.func68 (by kernel_rfl) (by kernel_rfl) (by kernel_rfl) (by kernel_rfl)
    (Eq.mp (by kernel_rfl : s68 Tryz.prog arg0 K w = E Tryz.prog (Tryz.f68.body.getD .skip) A68 (topK Tryz.prog K Tryz.f68.results) (fun i => (([arg0] : List Value)[i]?).getD undef) w) h)
theorem ct68 {arg0 : Value} {h : Hp} {post : Hp → Value → Prop} (hg : ∀ w0, Gs w0 h h [] (s68 Tryz.prog arg0 (RetP w0 h post))) : Ct Tryz.prog 68 [arg0] h post := Ct.of (sf := s68 Tryz.prog arg0) (c68 arg0) hg
theorem in68 {arg0 : Value} {S : WP} {K : Value → WP} (hg : G S (s68 Tryz.prog arg0 K)) : G S (Do Tryz.prog (vCall (.func (.func 68) #[] ⟨[]⟩) [arg0]) K) := Gs.into (args := [arg0]) (caps := []) (sf := s68 Tryz.prog arg0) (c68 arg0) hg

/- (*skewer/value.book).turn$1 : names 0 z, 3 z -/
def s69 (P : Program) (arg0 arg1 arg2 : Value) (K : Value → WP) : WP :=
  Do P (V (Instr.loadAt 46 arg1)) fun t1_5 =>
  Do P (V (Instr.loadAt 49 arg2)) fun t2_6 =>
  Do P (vCall (.func (.func 27) #[] ⟨[]⟩) [t1_5, t2_6, arg0]) fun t3_8 =>
  K t3_8
def A69 : Ann := .s (.n) (.s (.n) (.n))
set_option maxRecDepth 100000 in
theorem c69 (arg0 arg1 arg2 : Value) (K : Value → WP) (w : World) (h : s69 Tryz.prog arg0 arg1 arg2 K w) : Runs Tryz.prog 69 [arg0, arg1, arg2] K w :=
  runs_of_E wide (fn := Tryz.f69) (c := Tryz.f69.body.getD .skip) 9 A69 [arg0, arg1, arg2] w K Tryz.func69 (by kernel_rfl) (by kernel_rfl) (by kernel_rfl) (by kernel_rfl)
    (Eq.mp (by kernel_rfl : s69 Tryz.prog arg0 arg1 arg2 K w = E Tryz.prog (Tryz.f69.body.getD .skip) A69 (topK Tryz.prog K Tryz.f69.results) (fun i => (([arg0, arg1, arg2] : List Value)[i]?).getD undef) w) h)
theorem ct69 {arg0 arg1 arg2 : Value} {h : Hp} {post : Hp → Value → Prop} (hg : ∀ w0, Gs w0 h h [] (s69 Tryz.prog arg0 arg1 arg2 (RetP w0 h post))) : Ct Tryz.prog 69 [arg0, arg1, arg2] h post := Ct.of (sf := s69 Tryz.prog arg0 arg1 arg2) (c69 arg0 arg1 arg2) hg
theorem in69 {arg0 arg1 arg2 : Value} {S : WP} {K : Value → WP} (hg : G S (s69 Tryz.prog arg0 arg1 arg2 K)) : G S (Do Tryz.prog (vCall (.func (.func 69) #[] ⟨[arg1, arg2]⟩) [arg0]) K) := Gs.into (args := [arg0]) (caps := [arg1, arg2]) (sf := s69 Tryz.prog arg0 arg1 arg2) (c69 arg0 arg1 arg2) hg

/- skewer/value.best$1 : names 0 x, 1 y, 2 x, 3 y -/
def s71 (P : Program) (arg0 arg1 : Value) (K : Value → WP) : WP :=
  Dr <|
  Qk P (vNil arg0) fun C1 t1_6 =>
  Qk P (V (Instr.fieldAt 53 t1_6 0)) fun C2 t2_7 =>
  Qk P (V (Instr.loadAt 9 t2_7)) fun C3 t3_8 =>
  Qk P (vNil arg1) fun C4 t4_10 =>
  Qk P (V (Instr.fieldAt 53 t4_10 0)) fun C5 t5_11 =>
  Qk P (V (Instr.loadAt 9 t5_11)) fun C6 t6_12 =>
  Do P (vCall (.func (.func 72) #[] ⟨[]⟩) [t3_8, t6_12]) fun t7_13 =>
  K t7_13
def A71 : Ann := .s (.n) (.s (.plan [(0, 1, 32), (1, 32, 64), (2, 64, 128), (4, 128, 256), (0, 2, 512), (16, 512, 1024), (32, 1024, 2048), (64, 2048, 4096), (136, 4352, 8192), (511, 8192, 16)] (.q 0 (.q 1 (.q 2 (.q 3 (.q 4 (.q 5 (.q 6 (.q 7 (.l 8 (.q 9 .done))))))))))) (.n))
set_option maxRecDepth 100000 in
theorem c71 (arg0 arg1 : Value) (K : Value → WP) (w : World) (h : s71 Tryz.prog arg0 arg1 K w) : Runs Tryz.prog 71 [arg0, arg1] K w :=
  runs_of_E wide (fn := Tryz.f71) (c := Tryz.f71.body.getD .skip) 14 A71 [arg0, arg1] w K Tryz.func71 (by kernel_rfl) (by kernel_rfl) (by kernel_rfl) (by kernel_rfl)
    (Eq.mp (by kernel_rfl : s71 Tryz.prog arg0 arg1 K w = E Tryz.prog (Tryz.f71.body.getD .skip) A71 (topK Tryz.prog K Tryz.f71.results) (fun i => (([arg0, arg1] : List Value)[i]?).getD undef) w) h)
theorem ct71 {arg0 arg1 : Value} {h : Hp} {post : Hp → Value → Prop} (hg : ∀ w0, Gs w0 h h [] (s71 Tryz.prog arg0 arg1 (RetP w0 h post))) : Ct Tryz.prog 71 [arg0, arg1] h post := Ct.of (sf := s71 Tryz.prog arg0 arg1) (c71 arg0 arg1) hg
theorem in71 {arg0 arg1 : Value} {S : WP} {K : Value → WP} (hg : G S (s71 Tryz.prog arg0 arg1 K)) : G S (Do Tryz.prog (vCall (.func (.func 71) #[] ⟨[]⟩) [arg0, arg1]) K) := Gs.into (args := [arg0, arg1]) (caps := []) (sf := s71 Tryz.prog arg0 arg1) (c71 arg0 arg1) hg

/- (skewer/dyad.number).floor : names 0 x, 1 exp, 2 x, 3 exp, 5 shift, 6 most -/
def s75 (P : Program) (arg0 arg1 : Value) (K : Value → WP) : WP :=
  Do P (V (Instr.box 112 arg0)) fun x1 =>
  Do P (V (Instr.fieldAt 112 x1 1)) fun t2_8 =>
  Do P (V (Instr.loadAt 3 t2_8)) fun t3_9 =>
  Do P (V (binOp .leq 3 arg1 t3_9)) fun t4_10 =>
  If t4_10 (
   Do P (V (Instr.fieldAt 112 x1 0)) fun t5_11 =>
   Do P (V (Instr.loadAt 3 t5_11)) fun t6_12 =>
   Do P (V (Instr.fieldAt 112 x1 1)) fun t7_13 =>
   Do P (V (Instr.loadAt 3 t7_13)) fun t8_14 =>
   Do P (V (binOp .sub 3 t8_14 arg1)) fun t9_16 =>
   Do P (V (binOp .shr 3 t6_12 t9_16)) fun t10_17 =>
   K t10_17
  ) (
   Do P (V (Instr.fieldAt 112 x1 1)) fun t11_19 =>
   Do P (V (Instr.loadAt 3 t11_19)) fun t12_20 =>
   Do P (V (binOp .sub 3 arg1 t12_20)) fun t13_21 =>
   Do P (V (binOp .shr 3 (.int .i64 1099511627776) t13_21)) fun t14_23 =>
   Do P (V (Instr.fieldAt 112 x1 0)) fun t15_25 =>
   Do P (V (Instr.loadAt 3 t15_25)) fun t16_26 =>
   Do P (V (binOp .gtr 3 t16_26 t14_23)) fun t17_28 =>
   If t17_28 (
    K (.int .i64 1099511627777)
   ) (
    Do P (V (Instr.fieldAt 112 x1 0)) fun t18_30 =>
    Do P (V (Instr.loadAt 3 t18_30)) fun t19_31 =>
    Do P (V (Op.unary .neg t14_23)) fun t20_33 =>
    Do P (V (binOp .lss 3 t19_31 t20_33)) fun t21_34 =>
    If t21_34 (
     K (.int .i64 (-1099511627778))
    ) (
     Do P (V (Instr.fieldAt 112 x1 0)) fun t22_35 =>
     Do P (V (Instr.loadAt 3 t22_35)) fun t23_36 =>
     Do P (V (binOp .shl 3 t23_36 t13_21)) fun t24_38 =>
     K t24_38
    )
   )
  )
def A75 : Ann := .s (.n) (.s (.s (.n) (.s (.s (.n) (.n)) (.n))) (.s (.n) (.s (.s (.n) (.s (.n) (.s (.s (.n) (.n)) (.s (.n) (.s (.s (.n) (.n)) (.n)))))) (.s (.n) (.n)))))
set_option maxRecDepth 100000 in
theorem c75 (arg0 arg1 : Value) (K : Value → WP) (w : World) (h : s75 Tryz.prog arg0 arg1 K w) : Runs Tryz.prog 75 [arg0, arg1] K w :=
  runs_of_E wide (fn := Tryz.f75) (c := Tryz.f75.body.getD .skip) 39 A75 [arg0, arg1] w K Tryz.func75 (by kernel_rfl) (by kernel_rfl) (by kernel_rfl) (by kernel_rfl)
    (Eq.mp (by kernel_rfl : s75 Tryz.prog arg0 arg1 K w = E Tryz.prog (Tryz.f75.body.getD .skip) A75 (topK Tryz.prog K Tryz.f75.results) (fun i => (([arg0, arg1] : List Value)[i]?).getD undef) w) h)
theorem ct75 {arg0 arg1 : Value} {h : Hp} {post : Hp → Value → Prop} (hg : ∀ w0, Gs w0 h h [] (s75 Tryz.prog arg0 arg1 (RetP w0 h post))) : Ct Tryz.prog 75 [arg0, arg1] h post := Ct.of (sf := s75 Tryz.prog arg0 arg1) (c75 arg0 arg1) hg
theorem in75 {arg0 arg1 : Value} {S : WP} {K : Value → WP} (hg : G S (s75 Tryz.prog arg0 arg1 K)) : G S (Do Tryz.prog (vCall (.func (.func 75) #[] ⟨[]⟩) [arg0, arg1]) K) := Gs.into (args := [arg0, arg1]) (caps := []) (sf := s75 Tryz.prog arg0 arg1) (c75 arg0 arg1) hg

/- (skewer/dyad.number).rest : names 0 x, 1 x -/
def s76 (P : Program) (arg0 : Value) (K : Value → WP) : WP :=
  Do P (V (Instr.box 112 arg0)) fun x1 =>
  Dr <|
  Qk P (V (Instr.fieldAt 112 x1 0)) fun C2 t2_3 =>
  Qk P (V (Instr.loadAt 3 t2_3)) fun C3 t3_4 =>
  Qk P (V (Instr.fieldAt 112 x1 1)) fun C4 t4_5 =>
  Qk P (V (Instr.loadAt 3 t4_5)) fun C5 t5_6 =>
  Qk P (V (binOp .shl 3 (.int .i64 1) t5_6)) fun C6 t6_7 =>
  Qk P (V (binOp .sub 3 t6_7 (.int .i64 1))) fun C7 t7_8 =>
  Qk P (V (binOp .and 3 t3_4 t7_8)) fun C8 t8_9 =>
  Qk P (V (Instr.fieldAt 112 x1 1)) fun C9 t9_10 =>
  Qk P (V (Instr.loadAt 3 t9_10)) fun C10 t10_11 =>
  Qk P (V (binOp .sub 3 (.int .i64 30) t10_11)) fun C11 t11_12 =>
  Qk P (V (binOp .shl 3 t8_9 t11_12)) fun C12 t12_13 =>
  K t12_13
def A76 : Ann := .s (.n) (.s (.plan [(0, 2, 8), (1, 8, 16), (0, 2, 32), (4, 32, 64), (8, 64, 128), (16, 128, 256), (34, 272, 512), (0, 2, 1024), (128, 1024, 2048), (256, 2048, 4096), (576, 4608, 8192), (2047, 8192, 4)] (.q 0 (.q 1 (.q 2 (.q 3 (.q 4 (.q 5 (.q 6 (.q 7 (.q 8 (.q 9 (.q 10 (.q 11 .done))))))))))))) (.n))
set_option maxRecDepth 100000 in
theorem c76 (arg0 : Value) (K : Value → WP) (w : World) (h : s76 Tryz.prog arg0 K w) : Runs Tryz.prog 76 [arg0] K w :=
  runs_of_E wide (fn := Tryz.f76) (c := Tryz.f76.body.getD .skip) 14 A76 [arg0] w K Tryz.func76 (by kernel_rfl) (by kernel_rfl) (by kernel_rfl) (by kernel_rfl)
    (Eq.mp (by kernel_rfl : s76 Tryz.prog arg0 K w = E Tryz.prog (Tryz.f76.body.getD .skip) A76 (topK Tryz.prog K Tryz.f76.results) (fun i => (([arg0] : List Value)[i]?).getD undef) w) h)
theorem ct76 {arg0 : Value} {h : Hp} {post : Hp → Value → Prop} (hg : ∀ w0, Gs w0 h h [] (s76 Tryz.prog arg0 (RetP w0 h post))) : Ct Tryz.prog 76 [arg0] h post := Ct.of (sf := s76 Tryz.prog arg0) (c76 arg0) hg
theorem in76 {arg0 : Value} {S : WP} {K : Value → WP} (hg : G S (s76 Tryz.prog arg0 K)) : G S (Do Tryz.prog (vCall (.func (.func 76) #[] ⟨[]⟩) [arg0]) K) := Gs.into (args := [arg0]) (caps := []) (sf := s76 Tryz.prog arg0) (c76 arg0) hg

/- skewer/dyad.Neg : names 0 x, 1 x -/
def s77 (P : Program) (arg0 : Value) (K : Value → WP) : WP :=
  Do P (V (Instr.box 36 arg0)) fun x1 =>
  Do P (V (Instr.alloc 36 true (.tuple #[]))) fun t2_2 =>
  Do P (V (Instr.fieldAt 36 x1 0)) fun t3_3 =>
  Do P (V (Instr.loadAt 3 t3_3)) fun t4_4 =>
  Do P (V (Op.unary .neg t4_4)) fun t5_5 =>
  Do P (V (Instr.fieldAt 36 x1 1)) fun t6_6 =>
  Do P (V (Instr.loadAt 3 t6_6)) fun t7_7 =>
  Do P (vBuild 36 [(0, t5_5), (1, t7_7)]) fun t8_8 =>
  Do P (U (Instr.storeAt 36 t2_2 t8_8)) fun t9_x =>
  RetC P 36 t2_2 K
def A77 : Ann := .s (.n) (.s (.n) (.n))
set_option maxRecDepth 100000 in
theorem c77 (arg0 : Value) (K : Value → WP) (w : World) (h : s77 Tryz.prog arg0 K w) : Runs Tryz.prog 77 [arg0] K w :=
  runs_of_E wide (fn := Tryz.f77) (c := Tryz.f77.body.getD .skip) 9 A77 [arg0] w K Tryz.func77 (by kernel_rfl) (by kernel_rfl) (by kernel_rfl) (by kernel_rfl)
    (Eq.mp (by kernel_rfl : s77 Tryz.prog arg0 K w = E Tryz.prog (Tryz.f77.body.getD .skip) A77 (topK Tryz.prog K Tryz.f77.results) (fun i => (([arg0] : List Value)[i]?).getD undef) w) h)
theorem ct77 {arg0 : Value} {h : Hp} {post : Hp → Value → Prop} (hg : ∀ w0, Gs w0 h h [] (s77 Tryz.prog arg0 (RetP w0 h post))) : Ct Tryz.prog 77 [arg0] h post := Ct.of (sf := s77 Tryz.prog arg0) (c77 arg0) hg
theorem in77 {arg0 : Value} {S : WP} {K : Value → WP} (hg : G S (s77 Tryz.prog arg0 K)) : G S (Do Tryz.prog (vCall (.func (.func 77) #[] ⟨[]⟩) [arg0]) K) := Gs.into (args := [arg0]) (caps := []) (sf := s77 Tryz.prog arg0) (c77 arg0) hg

/- skewer/dyad.abs : names 0 n, 1 n -/
def s78 (P : Program) (arg0 : Value) (K : Value → WP) : WP :=
  Do P (V (Op.unary .neg arg0)) fun t1_5 =>
  Do P (vBuiltin .max #[3, 3] 3 [arg0, t1_5]) fun t2_6 =>
  K t2_6
def A78 : Ann := .s (.n) (.s (.n) (.n))
set_option maxRecDepth 100000 in
theorem c78 (arg0 : Value) (K : Value → WP) (w : World) (h : s78 Tryz.prog arg0 K w) : Runs Tryz.prog 78 [arg0] K w :=
  runs_of_E wide (fn := Tryz.f78) (c := Tryz.f78.body.getD .skip) 7 A78 [arg0] w K Tryz.func78 (by kernel_rfl) (by kernel_rfl) (by kernel_rfl) (by kernel_rfl)
    (Eq.mp (by kernel_rfl : s78 Tryz.prog arg0 K w = E Tryz.prog (Tryz.f78.body.getD .skip) A78 (topK Tryz.prog K Tryz.f78.results) (fun i => (([arg0] : List Value)[i]?).getD undef) w) h)
theorem ct78 {arg0 : Value} {h : Hp} {post : Hp → Value → Prop} (hg : ∀ w0, Gs w0 h h [] (s78 Tryz.prog arg0 (RetP w0 h post))) : Ct Tryz.prog 78 [arg0] h post := Ct.of (sf := s78 Tryz.prog arg0) (c78 arg0) hg
theorem in78 {arg0 : Value} {S : WP} {K : Value → WP} (hg : G S (s78 Tryz.prog arg0 K)) : G S (Do Tryz.prog (vCall (.func (.func 78) #[] ⟨[]⟩) [arg0]) K) := Gs.into (args := [arg0]) (caps := []) (sf := s78 Tryz.prog arg0) (c78 arg0) hg

/- skewer/skewerref19.whole : names 0 x, 1 x, 4 p, 5 w, 6 r -/
def s79 (P : Program) (arg0 : Value) (K : Value → WP) : WP :=
  Do P (V (Instr.box 36 arg0)) fun x1 =>
  Do P (V (Instr.fieldAt 36 x1 1)) fun t2_7 =>
  Do P (V (Instr.loadAt 3 t2_7)) fun t3_8 =>
  Do P (vCall (.func (.func 88) #[] ⟨[]⟩) [t3_8]) fun t4_9 =>
  Do P (V (Instr.fieldAt 36 x1 0)) fun t5_10 =>
  Do P (V (Instr.loadAt 3 t5_10)) fun t6_11 =>
  Do P (V (binOp .quo 3 t6_11 t4_9)) fun t7_13 =>
  Do P (V (Instr.fieldAt 36 x1 0)) fun t8_14 =>
  Do P (V (Instr.loadAt 3 t8_14)) fun t9_15 =>
  Do P (V (binOp .rem 3 t9_15 t4_9)) fun t10_17 =>
  Jn (α := Value × Value) (fun j11 => Jk fun _ => -- w r
   Do P (V (Instr.fieldAt 36 x1 1)) fun t12_27 =>
   Do P (V (Instr.loadAt 3 t12_27)) fun t13_28 =>
   Do P (V (binOp .sub 3 (.int .i64 30) t13_28)) fun t14_29 =>
   Do P (vCall (.func (.func 88) #[] ⟨[]⟩) [t14_29]) fun t15_30 =>
   Do P (V (binOp .mul 3 j11.2 t15_30)) fun t16_31 =>
   K (.tuple #[j11.1, t16_31])
  ) fun k11 =>
  Do P (V (binOp .lss 3 t10_17 (.int .i64 0))) fun t17_19 =>
  If t17_19 (
   Do P (V (binOp .sub 3 t7_13 (.int .i64 1))) fun t18_21 =>
   Do P (V (binOp .add 3 t10_17 t4_9)) fun t19_24 =>
   k11 (t18_21, t19_24)
  ) (
   k11 (t7_13, t10_17)
  )
def A79 : Ann := .s (.n) (.s (.n) (.s (.n) (.s (.n) (.j [5, 6] 33292384 (.s (.n) (.s (.s (.n) (.n)) (.n))) (.s (.n) (.n))))))
set_option maxRecDepth 100000 in
theorem c79 (arg0 : Value) (K : Value → WP) (w : World) (h : s79 Tryz.prog arg0 K w) : Runs Tryz.prog 79 [arg0] K w :=
  runs_of_E wide (fn := Tryz.f79) (c := Tryz.f79.body.getD .skip) 32 A79 [arg0] w K Tryz.func79 (by kernel_rfl) (by kernel_rfl) (by kernel_rfl) (by kernel_rfl)
    (Eq.mp (by kernel_rfl : s79 Tryz.prog arg0 K w = E Tryz.prog (Tryz.f79.body.getD .skip) A79 (topK Tryz.prog K Tryz.f79.results) (fun i => (([arg0] : List Value)[i]?).getD undef) w) h)
theorem ct79 {arg0 : Value} {h : Hp} {post : Hp → Value → Prop} (hg : ∀ w0, Gs w0 h h [] (s79 Tryz.prog arg0 (RetP w0 h post))) : Ct Tryz.prog 79 [arg0] h post := Ct.of (sf := s79 Tryz.prog arg0) (c79 arg0) hg
theorem in79 {arg0 : Value} {S : WP} {K : Value → WP} (hg : G S (s79 Tryz.prog arg0 K)) : G S (Do Tryz.prog (vCall (.func (.func 79) #[] ⟨[]⟩) [arg0]) K) := Gs.into (args := [arg0]) (caps := []) (sf := s79 Tryz.prog arg0) (c79 arg0) hg

/- skewer/skewerref19.between : names 0 a, 1 b, 2 a, 3 b, 5 exp, 6 low, 7 high, 8 n, 9 x -/
def s80 (P : Program) (arg0 arg1 : Value) (K : Value → WP) : WP :=
  Do P (V (Instr.box 36 arg0)) fun a1 =>
  Do P (V (Instr.box 36 arg1)) fun b2 =>
  Do P (V (Instr.alloc 122 true (.tuple #[]))) fun t3_4 =>
  Lp (α := Value) (fun c4 s4 => Jk fun _ => -- exp
   Do P (V (binOp .leq 3 s4 (.int .i64 30))) fun t5_11 =>
   If t5_11 (
    Jn (α := Unit) (fun j6 => Jk fun _ => -- 
     Do P (V (binOp .add 3 s4 (.int .i64 1))) fun t7_13 =>
     c4 t7_13
    ) fun k6 =>
    Do P (V (Instr.loadAt 36 a1)) fun t8_14 =>
    Do P (vCall (.func (.func 89) #[] ⟨[]⟩) [t8_14, s4]) fun t9_16 =>
    Do P (V (binOp .add 3 t9_16 (.int .i64 1))) fun t10_17 =>
    Do P (V (Instr.loadAt 36 b2)) fun t11_18 =>
    Do P (vCall (.func (.func 90) #[] ⟨[]⟩) [t11_18]) fun t12_19 =>
    Do P (vCall (.func (.func 89) #[] ⟨[]⟩) [t12_19, s4]) fun t13_21 =>
    Do P (V (Op.unary .neg t13_21)) fun t14_22 =>
    Do P (V (binOp .sub 3 t14_22 (.int .i64 1))) fun t15_23 =>
    Do P (vBuiltin .max #[3, 3] 3 [t10_17, (.int .i64 (-1099511627776))]) fun t16_25 =>
    Do P (vBuiltin .min #[3, 3] 3 [t15_23, (.int .i64 1099511627776)]) fun t17_27 =>
    Do P (V (binOp .gtr 3 t16_25 t17_27)) fun t18_30 =>
    If t18_30 (
     k6 ()
    ) (
     Jn (α := Value) (fun j19 => Jk fun _ => -- n
      Jn (α := Value) (fun j20 => Jk fun _ => -- n
       Jn (α := Value) (fun j21 => Jk fun _ => -- n
        Do P (vBuild 36 [(0, j21), (1, s4)]) fun t22_49 =>
        Do P (V (Instr.alloc 36 true (.tuple #[]))) fun x23 =>
        Do P (U (Instr.storeAt 36 x23 t22_49)) fun t24_x =>
        Jn (α := Value) (fun j25 => Jk fun _ => -- t61
         If j25 (
          Do P (V (Instr.loadAt 36 x23)) fun t26_62 =>
          Do P (vBuild 122 [(0, t26_62)]) fun t27_63 =>
          Do P (U (Instr.storeAt 122 t3_4 t27_63)) fun t28_x =>
          RetC P 122 t3_4 K
         ) (
          k6 ()
         )
        ) fun k25 =>
        Do P (V (Instr.loadAt 36 x23)) fun t29_50 =>
        Do P (vCall (.func (.func 41) #[] ⟨[]⟩) [t29_50]) fun t30_51 =>
        Gd t30_51 true (
         Do P (V (binOp .geq 3 j21 t16_25)) fun t31_55 =>
         Gd t31_55 true (
          Do P (V (binOp .leq 3 j21 t17_27)) fun t32_60 =>
          k25 t32_60
         ) (
          k25 (.bool false)
         )
        ) (
         k25 (.bool false)
        )
       ) fun k21 =>
       Jn (α := Value) (fun j33 => Jk fun _ => -- t43
        If j33 (
         Do P (vCall (.func (.func 91) #[] ⟨[]⟩) [t16_25, t17_27]) fun t34_46 =>
         k21 t34_46
        ) (
         k21 j20
        )
       ) fun k33 =>
       Do P (V (binOp .gtr 3 s4 (.int .i64 0))) fun t35_38 =>
       Gd t35_38 true (
        Do P (V (binOp .rem 3 j20 (.int .i64 2))) fun t36_41 =>
        Do P (V (EqG .eql 3 (.tmp 41) (.const (.int .i64 0)) t36_41 (.int .i64 0))) fun t37_42 =>
        k33 t37_42
       ) (
        k33 (.bool false)
       )
      ) fun k20 =>
      Do P (V (binOp .lss 3 t17_27 (.int .i64 0))) fun t38_35 =>
      If t38_35 (
       k20 t17_27
      ) (
       k20 j19
      )
     ) fun k19 =>
     Do P (V (binOp .gtr 3 t16_25 (.int .i64 0))) fun t39_32 =>
     If t39_32 (
      k19 t16_25
     ) (
      k19 (.int .i64 0)
     )
    )
   ) (
    Do P (vBuild 122 [(1, (.int .i64 190))]) fun t40_64 =>
    Do P (U (Instr.storeAt 122 t3_4 t40_64)) fun t41_x =>
    RetC P 122 t3_4 K
   )
  ) (.int .i64 0)
def A80 : Ann := .s (.n) (.s (.s (.n) (.lp [5] 18446744073709551584 (.s (.s (.n) (.s (.n) (.n))) (.j [] 18446744073709536192 (.s (.n) (.s (.n) (.s (.n) (.s (.n) (.s (.s (.n) (.s (.n) (.n))) (.s (.n) (.j [8] 15032385792 (.s (.n) (.s (.n) (.n))) (.j [8] 120259084544 (.s (.n) (.s (.n) (.n))) (.j [8] 140600049402112 (.j [43] 17454747090944 (.n) (.s (.n) (.n))) (.s (.n) (.j [61] 4610560118520545280 (.n) (.s (.s (.n) (.n)) (.n))))))))))))) (.n))))) (.s (.n) (.n)))
set_option maxRecDepth 100000 in
theorem c80 (arg0 arg1 : Value) (K : Value → WP) (w : World) (h : s80 Tryz.prog arg0 arg1 K w) : Runs Tryz.prog 80 [arg0, arg1] K w :=
  runs_of_E wide (fn := Tryz.f80) (c := Tryz.f80.body.getD .skip) 65 A80 [arg0, arg1] w K Tryz.func80 (by kernel_rfl) (by kernel_rfl) (by kernel_rfl) (by kernel_rfl)
    (Eq.mp (by kernel_rfl : s80 Tryz.prog arg0 arg1 K w = E Tryz.prog (Tryz.f80.body.getD .skip) A80 (topK Tryz.prog K Tryz.f80.results) (fun i => (([arg0, arg1] : List Value)[i]?).getD undef) w) h)
theorem ct80 {arg0 arg1 : Value} {h : Hp} {post : Hp → Value → Prop} (hg : ∀ w0, Gs w0 h h [] (s80 Tryz.prog arg0 arg1 (RetP w0 h post))) : Ct Tryz.prog 80 [arg0, arg1] h post := Ct.of (sf := s80 Tryz.prog arg0 arg1) (c80 arg0 arg1) hg
theorem in80 {arg0 arg1 : Value} {S : WP} {K : Value → WP} (hg : G S (s80 Tryz.prog arg0 arg1 K)) : G S (Do Tryz.prog (vCall (.func (.func 80) #[] ⟨[]⟩) [arg0, arg1]) K) := Gs.into (args := [arg0, arg1]) (caps := []) (sf := s80 Tryz.prog arg0 arg1) (c80 arg0 arg1) hg

/- skewer/value.lowest : names 0 num, 1 exp, 2 num, 3 exp -/
def s81 (P : Program) (arg0 arg1 : Value) (K : Value → WP) : WP :=
  Do P (V (Instr.alloc 36 true (.tuple #[]))) fun t1_4 =>
  Lp (α := Value × Value) (fun c2 s2 => Jk fun _ => -- num exp
   Jn (α := Value) (fun j3 => Jk fun _ => -- t11
    If j3 (
     Do P (V (binOp .quo 3 s2.1 (.int .i64 2))) fun t4_13 =>
     Do P (V (binOp .sub 3 s2.2 (.int .i64 1))) fun t5_15 =>
     c2 (t4_13, t5_15)
    ) (
     Do P (vBuild 36 [(0, s2.1), (1, s2.2)]) fun t6_18 =>
     Do P (U (Instr.storeAt 36 t1_4 t6_18)) fun t7_x =>
     RetC P 36 t1_4 K
    )
   ) fun k3 =>
   Do P (V (binOp .gtr 3 s2.2 (.int .i64 0))) fun t8_6 =>
   Gd t8_6 true (
    Do P (V (binOp .rem 3 s2.1 (.int .i64 2))) fun t9_9 =>
    Do P (V (EqG .eql 3 (.tmp 9) (.const (.int .i64 0)) t9_9 (.int .i64 0))) fun t10_10 =>
    k3 t10_10
   ) (
    k3 (.bool false)
   )
  ) (arg0, arg1)
def A81 : Ann := .s (.n) (.s (.lp [0, 1] 65507 (.s (.j [11] 4064 (.n) (.s (.n) (.n))) (.n))) (.s (.n) (.n)))
set_option maxRecDepth 100000 in
theorem c81 (arg0 arg1 : Value) (K : Value → WP) (w : World) (h : s81 Tryz.prog arg0 arg1 K w) : Runs Tryz.prog 81 [arg0, arg1] K w :=
  runs_of_E wide (fn := Tryz.f81) (c := Tryz.f81.body.getD .skip) 19 A81 [arg0, arg1] w K Tryz.func81 (by kernel_rfl) (by kernel_rfl) (by kernel_rfl) (by kernel_rfl)
    (Eq.mp (by kernel_rfl : s81 Tryz.prog arg0 arg1 K w = E Tryz.prog (Tryz.f81.body.getD .skip) A81 (topK Tryz.prog K Tryz.f81.results) (fun i => (([arg0, arg1] : List Value)[i]?).getD undef) w) h)
theorem ct81 {arg0 arg1 : Value} {h : Hp} {post : Hp → Value → Prop} (hg : ∀ w0, Gs w0 h h [] (s81 Tryz.prog arg0 arg1 (RetP w0 h post))) : Ct Tryz.prog 81 [arg0, arg1] h post := Ct.of (sf := s81 Tryz.prog arg0 arg1) (c81 arg0 arg1) hg
theorem in81 {arg0 arg1 : Value} {S : WP} {K : Value → WP} (hg : G S (s81 Tryz.prog arg0 arg1 K)) : G S (Do Tryz.prog (vCall (.func (.func 81) #[] ⟨[]⟩) [arg0, arg1]) K) := Gs.into (args := [arg0, arg1]) (caps := []) (sf := s81 Tryz.prog arg0 arg1) (c81 arg0 arg1) hg

/- (*strings.Builder).copyCheck : names 0 b, 1 b -/
def s82 (P : Program) (arg0 : Value) (K : Value → WP) : WP :=
  Do P (vNil arg0) fun t1_3 =>
  Do P (V (Instr.fieldAt 99 t1_3 0)) fun t2_4 =>
  Do P (V (Instr.loadAt 97 t2_4)) fun t3_5 =>
  Do P (V (EqG .eql 97 (.tmp 5) (.const (.pointer none)) t3_5 (.pointer none))) fun t4_6 =>
  If t4_6 (
   Do P (V (convert 97 132 arg0)) fun t5_9 =>
   Do P (vCall (.func (.func 92) #[] ⟨[]⟩) [t5_9]) fun t6_10 =>
   Do P (V (convert 132 97 t6_10)) fun t7_11 =>
   Do P (vNil arg0) fun t8_12 =>
   Do P (V (Instr.fieldAt 99 t8_12 0)) fun t9_13 =>
   Do P (U (Instr.storeAt 97 t9_13 t7_11)) fun t10_x =>
   K (.tuple #[])
  ) (
   Do P (vNil arg0) fun t11_15 =>
   Do P (V (Instr.fieldAt 99 t11_15 0)) fun t12_16 =>
   Do P (V (Instr.loadAt 97 t12_16)) fun t13_17 =>
   Do P (V (EqG .neq 97 (.tmp 17) (.tmp 18) t13_17 arg0)) fun t14_19 =>
   If t14_19 (
    fun _ => False
   ) (
    K (.tuple #[])
   )
  )
def A82 : Ann := .s (.n) (.s (.n) (.s (.n) (.s (.n) (.n))))
set_option maxRecDepth 100000 in
theorem c82 (arg0 : Value) (K : Value → WP) (w : World) (h : s82 Tryz.prog arg0 K w) : Runs Tryz.prog 82 [arg0] K w :=
  runs_of_E wide (fn := Tryz.f82) (c := Tryz.f82.body.getD .skip) 20 A82 [arg0] w K Tryz.func82 (by kernel_rfl) (by kernel_rfl) (by kernel_rfl) (by kernel_rfl)
    (Eq.mp (by kernel_rfl : s82 Tryz.prog arg0 K w = E Tryz.prog (Tryz.f82.body.getD .skip) A82 (topK Tryz.prog K Tryz.f82.results) (fun i => (([arg0] : List Value)[i]?).getD undef) w) h)
theorem ct82 {arg0 : Value} {h : Hp} {post : Hp → Value → Prop} (hg : ∀ w0, Gs w0 h h [] (s82 Tryz.prog arg0 (RetP w0 h post))) : Ct Tryz.prog 82 [arg0] h post := Ct.of (sf := s82 Tryz.prog arg0) (c82 arg0) hg
theorem in82 {arg0 : Value} {S : WP} {K : Value → WP} (hg : G S (s82 Tryz.prog arg0 K)) : G S (Do Tryz.prog (vCall (.func (.func 82) #[] ⟨[]⟩) [arg0]) K) := Gs.into (args := [arg0]) (caps := []) (sf := s82 Tryz.prog arg0) (c82 arg0) hg

/- slices.Grow[[]*skewer/value.node,*skewer/value.node] : names 0 s, 1 n, 2 s, 3 n -/
def s83 (P : Program) (arg0 arg1 : Value) (K : Value → WP) : WP :=
  Jn (α := Unit) (fun j1 => Jk fun _ => -- 
   Do P (vBuiltin .cap #[51] 3 [arg0]) fun t2_10 =>
   Do P (vBuiltin .len #[51] 3 [arg0]) fun t3_12 =>
   Do P (V (binOp .sub 3 t2_10 t3_12)) fun t4_13 =>
   Do P (V (binOp .sub 3 arg1 t4_13)) fun t5_14 =>
   Do P (V (binOp .gtr 3 t5_14 (.int .i64 0))) fun t6_16 =>
   If t6_16 (
    Do P (vBuiltin .cap #[51] 3 [arg0]) fun t7_19 =>
    Do P (V (Instr.sliceAt 51 arg0 none (some t7_19) none)) fun t8_20 =>
    Do P (vBuiltin .append #[51, 3] 51 [t8_20, t5_14]) fun t9_22 =>
    Do P (vBuiltin .len #[51] 3 [arg0]) fun t10_24 =>
    Do P (V (Instr.sliceAt 51 t9_22 none (some t10_24) none)) fun t11_25 =>
    K t11_25
   ) (
    K arg0
   )
  ) fun k1 =>
  Do P (V (binOp .lss 3 arg1 (.int .i64 0))) fun t12_6 =>
  If t12_6 (
   Do P (V (Instr.makeInterface 9 (.string ⟨#[99, 97, 110, 110, 111, 116, 32, 98, 101, 32, 110, 101, 103, 97, 116, 105, 118, 101]⟩))) fun t13_7 =>
   Do P (V (Instr.panic t13_7)) fun t14_x =>
   k1 ()
  ) (
   k1 ()
  )
def A83 : Ann := .s (.n) (.j [] 224 (.s (.n) (.s (.n) (.n))) (.s (.s (.n) (.s (.n) (.s (.n) (.n)))) (.s (.n) (.n))))
set_option maxRecDepth 100000 in
theorem c83 (arg0 arg1 : Value) (K : Value → WP) (w : World) (h : s83 Tryz.prog arg0 arg1 K w) : Runs Tryz.prog 83 [arg0, arg1] K w :=
  runs_of_E wide (fn := Tryz.f83) (c := Tryz.f83.body.getD .skip) 27 A83 [arg0, arg1] w K Tryz.func83 (by kernel_rfl) (by kernel_rfl) (by kernel_rfl) (by kernel_rfl)
    (Eq.mp (by kernel_rfl : s83 Tryz.prog arg0 arg1 K w = E Tryz.prog (Tryz.f83.body.getD .skip) A83 (topK Tryz.prog K Tryz.f83.results) (fun i => (([arg0, arg1] : List Value)[i]?).getD undef) w) h)
theorem ct83 {arg0 arg1 : Value} {h : Hp} {post : Hp → Value → Prop} (hg : ∀ w0, Gs w0 h h [] (s83 Tryz.prog arg0 arg1 (RetP w0 h post))) : Ct Tryz.prog 83 [arg0, arg1] h post := Ct.of (sf := s83 Tryz.prog arg0 arg1) (c83 arg0 arg1) hg
theorem in83 {arg0 arg1 : Value} {S : WP} {K : Value → WP} (hg : G S (s83 Tryz.prog arg0 arg1 K)) : G S (Do Tryz.prog (vCall (.func (.func 83) #[] ⟨[]⟩) [arg0, arg1]) K) := Gs.into (args := [arg0, arg1]) (caps := []) (sf := s83 Tryz.prog arg0 arg1) (c83 arg0 arg1) hg

/- skewer/skewerref19.power : names 0 n, 1 n -/
def s88 (P : Program) (arg0 : Value) (K : Value → WP) : WP :=
  Do P (V (EqG .eql 3 (.tmp 3) (.const (.int .i64 0)) arg0 (.int .i64 0))) fun t1_4 =>
  If t1_4 (
   K (.int .i64 1)
  ) (
   Do P (V (binOp .sub 3 arg0 (.int .i64 1))) fun t2_6 =>
   Do P (vCall (.func (.func 88) #[] ⟨[]⟩) [t2_6]) fun t3_7 =>
   Do P (V (binOp .mul 3 (.int .i64 2) t3_7)) fun t4_8 =>
   K t4_8
  )
def A88 : Ann := .s (.n) (.s (.s (.n) (.s (.s (.n) (.n)) (.n))) (.s (.n) (.n)))
set_option maxRecDepth 100000 in
theorem c88 (arg0 : Value) (K : Value → WP) (w : World) (h : s88 Tryz.prog arg0 K w) : Runs Tryz.prog 88 [arg0] K w :=
  runs_of_E wide (fn := Tryz.f88) (c := Tryz.f88.body.getD .skip) 9 A88 [arg0] w K Tryz.func88 (by kernel_rfl) (by kernel_rfl) (by kernel_rfl) (by kernel_rfl)
    (Eq.mp (by kernel_rfl : s88 Tryz.prog arg0 K w = E Tryz.prog (Tryz.f88.body.getD .skip) A88 (topK Tryz.prog K Tryz.f88.results) (fun i => (([arg0] : List Value)[i]?).getD undef) w) h)
theorem ct88 {arg0 : Value} {h : Hp} {post : Hp → Value → Prop} (hg : ∀ w0, Gs w0 h h [] (s88 Tryz.prog arg0 (RetP w0 h post))) : Ct Tryz.prog 88 [arg0] h post := Ct.of (sf := s88 Tryz.prog arg0) (c88 arg0) hg
theorem in88 {arg0 : Value} {S : WP} {K : Value → WP} (hg : G S (s88 Tryz.prog arg0 K)) : G S (Do Tryz.prog (vCall (.func (.func 88) #[] ⟨[]⟩) [arg0]) K) := Gs.into (args := [arg0]) (caps := []) (sf := s88 Tryz.prog arg0) (c88 arg0) hg

/- skewer/skewerref19.floor : names 0 x, 1 exp, 2 x, 3 exp, 5 w, 6 r, 7 p -/
def s89 (P : Program) (arg0 arg1 : Value) (K : Value → WP) : WP :=
  Do P (V (Instr.box 36 arg0)) fun x1 =>
  Do P (V (Instr.loadAt 36 x1)) fun t2_9 =>
  Do P (vCall (.func (.func 79) #[] ⟨[]⟩) [t2_9]) fun t3_10 =>
  Do P (V (Instr.extract t3_10 0)) fun t4_11 =>
  Do P (V (Instr.extract t3_10 1)) fun t5_12 =>
  Do P (vCall (.func (.func 88) #[] ⟨[]⟩) [arg1]) fun t6_14 =>
  Do P (V (binOp .quo 3 (.int .i64 1099511627776) t6_14)) fun t7_17 =>
  Do P (V (binOp .add 3 t7_17 (.int .i64 1))) fun t8_18 =>
  Do P (V (binOp .gtr 3 t4_11 t8_18)) fun t9_19 =>
  If t9_19 (
   K (.int .i64 1099511627777)
  ) (
   Do P (V (binOp .quo 3 (.int .i64 (-1099511627776)) t6_14)) fun t10_22 =>
   Do P (V (binOp .sub 3 t10_22 (.int .i64 2))) fun t11_23 =>
   Do P (V (binOp .lss 3 t4_11 t11_23)) fun t12_24 =>
   If t12_24 (
    K (.int .i64 (-1099511627778))
   ) (
    Do P (V (binOp .mul 3 t4_11 t6_14)) fun t13_27 =>
    Do P (V (binOp .sub 3 (.int .i64 30) arg1)) fun t14_30 =>
    Do P (vCall (.func (.func 88) #[] ⟨[]⟩) [t14_30]) fun t15_31 =>
    Do P (V (binOp .quo 3 t5_12 t15_31)) fun t16_32 =>
    Do P (V (binOp .add 3 t13_27 t16_32)) fun t17_33 =>
    K t17_33
   )
  )
def A89 : Ann := .s (.n) (.s (.n) (.s (.n) (.s (.s (.n) (.s (.s (.n) (.n)) (.n))) (.s (.s (.n) (.s (.s (.n) (.n)) (.n))) (.s (.n) (.n))))))
set_option maxRecDepth 100000 in
theorem c89 (arg0 arg1 : Value) (K : Value → WP) (w : World) (h : s89 Tryz.prog arg0 arg1 K w) : Runs Tryz.prog 89 [arg0, arg1] K w :=
  runs_of_E wide (fn := Tryz.f89) (c := Tryz.f89.body.getD .skip) 34 A89 [arg0, arg1] w K Tryz.func89 (by kernel_rfl) (by kernel_rfl) (by kernel_rfl) (by kernel_rfl)
    (Eq.mp (by kernel_rfl : s89 Tryz.prog arg0 arg1 K w = E Tryz.prog (Tryz.f89.body.getD .skip) A89 (topK Tryz.prog K Tryz.f89.results) (fun i => (([arg0, arg1] : List Value)[i]?).getD undef) w) h)
theorem ct89 {arg0 arg1 : Value} {h : Hp} {post : Hp → Value → Prop} (hg : ∀ w0, Gs w0 h h [] (s89 Tryz.prog arg0 arg1 (RetP w0 h post))) : Ct Tryz.prog 89 [arg0, arg1] h post := Ct.of (sf := s89 Tryz.prog arg0 arg1) (c89 arg0 arg1) hg
theorem in89 {arg0 arg1 : Value} {S : WP} {K : Value → WP} (hg : G S (s89 Tryz.prog arg0 arg1 K)) : G S (Do Tryz.prog (vCall (.func (.func 89) #[] ⟨[]⟩) [arg0, arg1]) K) := Gs.into (args := [arg0, arg1]) (caps := []) (sf := s89 Tryz.prog arg0 arg1) (c89 arg0 arg1) hg

/- skewer/skewerref19.Neg : names 0 x, 1 x -/
def s90 (P : Program) (arg0 : Value) (K : Value → WP) : WP :=
  Do P (V (Instr.box 36 arg0)) fun x1 =>
  Do P (V (Instr.alloc 36 true (.tuple #[]))) fun t2_2 =>
  Do P (V (Instr.fieldAt 36 x1 0)) fun t3_3 =>
  Do P (V (Instr.loadAt 3 t3_3)) fun t4_4 =>
  Do P (V (Op.unary .neg t4_4)) fun t5_5 =>
  Do P (V (Instr.fieldAt 36 x1 1)) fun t6_6 =>
  Do P (V (Instr.loadAt 3 t6_6)) fun t7_7 =>
  Do P (vBuild 36 [(0, t5_5), (1, t7_7)]) fun t8_8 =>
  Do P (U (Instr.storeAt 36 t2_2 t8_8)) fun t9_x =>
  RetC P 36 t2_2 K
def A90 : Ann := .s (.n) (.s (.n) (.n))
set_option maxRecDepth 100000 in
theorem c90 (arg0 : Value) (K : Value → WP) (w : World) (h : s90 Tryz.prog arg0 K w) : Runs Tryz.prog 90 [arg0] K w :=
  runs_of_E wide (fn := Tryz.f90) (c := Tryz.f90.body.getD .skip) 9 A90 [arg0] w K Tryz.func90 (by kernel_rfl) (by kernel_rfl) (by kernel_rfl) (by kernel_rfl)
    (Eq.mp (by kernel_rfl : s90 Tryz.prog arg0 K w = E Tryz.prog (Tryz.f90.body.getD .skip) A90 (topK Tryz.prog K Tryz.f90.results) (fun i => (([arg0] : List Value)[i]?).getD undef) w) h)
theorem ct90 {arg0 : Value} {h : Hp} {post : Hp → Value → Prop} (hg : ∀ w0, Gs w0 h h [] (s90 Tryz.prog arg0 (RetP w0 h post))) : Ct Tryz.prog 90 [arg0] h post := Ct.of (sf := s90 Tryz.prog arg0) (c90 arg0) hg
theorem in90 {arg0 : Value} {S : WP} {K : Value → WP} (hg : G S (s90 Tryz.prog arg0 K)) : G S (Do Tryz.prog (vCall (.func (.func 90) #[] ⟨[]⟩) [arg0]) K) := Gs.into (args := [arg0]) (caps := []) (sf := s90 Tryz.prog arg0) (c90 arg0) hg

/- skewer/skewerref19.odd : names 0 low, 1 high, 2 low, 3 high -/
def s91 (P : Program) (arg0 arg1 : Value) (K : Value → WP) : WP :=
  Jn (α := Value) (fun j1 => Jk fun _ => -- t10
   If j1 (
    K (.int .i64 1)
   ) (
    Jn (α := Value) (fun j2 => Jk fun _ => -- t16
     If j2 (
      K (.int .i64 (-1))
     ) (
      Jn (α := Value) (fun j3 => Jk fun _ => -- t23
       If j3 (
        K arg0
       ) (
        Jn (α := Value) (fun j4 => Jk fun _ => -- t31
         If j4 (
          Do P (V (binOp .add 3 arg0 (.int .i64 1))) fun t5_33 =>
          K t5_33
         ) (
          Jn (α := Value) (fun j6 => Jk fun _ => -- t40
           If j6 (
            K arg1
           ) (
            Jn (α := Value) (fun j7 => Jk fun _ => -- t48
             If j7 (
              Do P (V (binOp .sub 3 arg1 (.int .i64 1))) fun t8_50 =>
              K t8_50
             ) (
              K (.int .i64 0)
             )
            ) fun k7 =>
            Do P (V (binOp .lss 3 arg1 (.int .i64 0))) fun t9_43 =>
            Gd t9_43 true (
             Do P (V (binOp .lss 3 arg0 arg1)) fun t10_47 =>
             k7 t10_47
            ) (
             k7 (.bool false)
            )
           )
          ) fun k6 =>
          Do P (V (binOp .lss 3 arg1 (.int .i64 0))) fun t11_35 =>
          Gd t11_35 true (
           Do P (V (binOp .rem 3 arg1 (.int .i64 2))) fun t12_38 =>
           Do P (V (EqG .neq 3 (.tmp 38) (.const (.int .i64 0)) t12_38 (.int .i64 0))) fun t13_39 =>
           k6 t13_39
          ) (
           k6 (.bool false)
          )
         )
        ) fun k4 =>
        Do P (V (binOp .gtr 3 arg0 (.int .i64 0))) fun t14_26 =>
        Gd t14_26 true (
         Do P (V (binOp .lss 3 arg0 arg1)) fun t15_30 =>
         k4 t15_30
        ) (
         k4 (.bool false)
        )
       )
      ) fun k3 =>
      Do P (V (binOp .gtr 3 arg0 (.int .i64 0))) fun t16_18 =>
      Gd t16_18 true (
       Do P (V (binOp .rem 3 arg0 (.int .i64 2))) fun t17_21 =>
       Do P (V (EqG .neq 3 (.tmp 21) (.const (.int .i64 0)) t17_21 (.int .i64 0))) fun t18_22 =>
       k3 t18_22
      ) (
       k3 (.bool false)
      )
     )
    ) fun k2 =>
    Do P (V (binOp .leq 3 arg0 (.int .i64 (-1)))) fun t19_12 =>
    Gd t19_12 true (
     Do P (V (binOp .geq 3 arg1 (.int .i64 (-1)))) fun t20_15 =>
     k2 t20_15
    ) (
     k2 (.bool false)
    )
   )
  ) fun k1 =>
  Do P (V (binOp .leq 3 arg0 (.int .i64 1))) fun t21_6 =>
  Gd t21_6 true (
   Do P (V (binOp .geq 3 arg1 (.int .i64 1))) fun t22_9 =>
   k1 t22_9
  ) (
   k1 (.bool false)
  )
def A91 : Ann := .s (.n) (.s (.j [10] 2016 (.n) (.s (.s (.n) (.n)) (.n))) (.s (.j [16] 129024 (.n) (.s (.s (.n) (.n)) (.n))) (.s (.j [23] 16646144 (.n) (.s (.s (.n) (.n)) (.n))) (.s (.j [31] 4261412864 (.n) (.s (.s (.n) (.n)) (.n))) (.s (.j [40] 2181843386368 (.n) (.s (.s (.n) (.n)) (.n))) (.s (.j [48] 558551906910208 (.n) (.s (.s (.n) (.n)) (.n))) (.s (.n) (.n))))))))
set_option maxRecDepth 100000 in
theorem c91 (arg0 arg1 : Value) (K : Value → WP) (w : World) (h : s91 Tryz.prog arg0 arg1 K w) : Runs Tryz.prog 91 [arg0, arg1] K w :=
  runs_of_E wide (fn := Tryz.f91) (c := Tryz.f91.body.getD .skip) 51 A91 [arg0, arg1] w K Tryz.func91 (by kernel_rfl) (by kernel_rfl) (by kernel_rfl) (by kernel_rfl)
    (Eq.mp (by kernel_rfl : s91 Tryz.prog arg0 arg1 K w = E Tryz.prog (Tryz.f91.body.getD .skip) A91 (topK Tryz.prog K Tryz.f91.results) (fun i => (([arg0, arg1] : List Value)[i]?).getD undef) w) h)
theorem ct91 {arg0 arg1 : Value} {h : Hp} {post : Hp → Value → Prop} (hg : ∀ w0, Gs w0 h h [] (s91 Tryz.prog arg0 arg1 (RetP w0 h post))) : Ct Tryz.prog 91 [arg0, arg1] h post := Ct.of (sf := s91 Tryz.prog arg0 arg1) (c91 arg0 arg1) hg
theorem in91 {arg0 arg1 : Value} {S : WP} {K : Value → WP} (hg : G S (s91 Tryz.prog arg0 arg1 K)) : G S (Do Tryz.prog (vCall (.func (.func 91) #[] ⟨[]⟩) [arg0, arg1]) K) := Gs.into (args := [arg0, arg1]) (caps := []) (sf := s91 Tryz.prog arg0 arg1) (c91 arg0 arg1) hg

end Go.Proofs.YtgdochemlbjnlaaGreat
