/-
  The shallow forms of functions of the program, printed by a program of the prover; and what the types are.
-/
import Derived.Test.YtgdochemlbjnlaaVs
set_option linter.unusedVariables false
set_option maxRecDepth 100000
namespace Go.Proofs.Ytgdochemlbjnlaa
open Go Go.Sk
variable {M : Go.Sk.Mode}

/- skewer/skewerlaw20.ValueOrder : names 0 l, 1 l, 3 up, 4 a, 5 b, 6 c -/
def s3 (P : Program) (arg0 : Value) (K : Value → WP) : WP :=
  Do P (V (Instr.box 23 arg0)) fun l1 =>
  Do P (vCall (.func (.func 10) #[] ⟨[]⟩) []) fun t2_7 =>
  Dr <|
  AllO [
   ([], fun f3 K => Do P (V (Instr.indexAt 23 l1 (.int .i64 0))) K),
   ([0], fun f3 K => Do P (V (Instr.loadAt 22 (f3 0))) K),
   ([1], fun f3 K => Do P (vCall (.func (.func 11) #[] ⟨[]⟩) [(f3 1), (.int .i64 9)]) K),
   ([], fun f3 K => Do P (V (Instr.indexAt 23 l1 (.int .i64 1))) K),
   ([3], fun f3 K => Do P (V (Instr.loadAt 22 (f3 3))) K),
   ([4, 2], fun f3 K => Do P (vCall (.func (.func 11) #[] ⟨[]⟩) [(f3 4), (.int .i64 9)]) K),
   ([], fun f3 K => Do P (V (Instr.indexAt 23 l1 (.int .i64 2))) K),
   ([6], fun f3 K => Do P (V (Instr.loadAt 22 (f3 6))) K),
   ([7, 5], fun f3 K => Do P (vCall (.func (.func 11) #[] ⟨[]⟩) [(f3 7), (.int .i64 9)]) K),
   ([], fun f3 K => Do P (V (Instr.alloc 27 true (.tuple #[]))) K),
   ([], fun f3 K => Do P (V (Instr.alloc 27 true (.tuple #[]))) K),
   ([], fun f3 K => Do P (V (Instr.alloc 27 true (.tuple #[]))) K),
   ([9, 2, 8, 0, 1, 2, 9, 10, 11], fun f3 K => Do P (U (Instr.storeAt 27 (f3 9) (f3 2))) K),
   ([10, 5, 12, 0, 1, 2, 3, 4, 5, 9, 10, 11, 12], fun f3 K => Do P (U (Instr.storeAt 27 (f3 10) (f3 5))) K),
   ([11, 8, 13, 0, 1, 2, 3, 4, 5, 6, 7, 8, 9, 10, 11, 12, 13], fun f3 K => Do P (U (Instr.storeAt 27 (f3 11) (f3 8))) K)
  ] fun f3 =>
  Jn (α := Value) (fun j4 => Jk fun _ => -- t36
   If j4 (
    K (.bool false)
   ) (
    Do P (V (Instr.loadAt 27 (f3 11))) fun t5_37 =>
    Do P (V (Instr.loadAt 27 (f3 10))) fun t6_38 =>
    Do P (vCall (.func (.func 12) #[] ⟨[]⟩) [t5_37, t6_38]) fun t7_39 =>
    Gd t7_39 true (
     Do P (V (Instr.loadAt 27 (f3 10))) fun t8_41 =>
     Do P (V (Instr.loadAt 27 (f3 9))) fun t9_42 =>
     Do P (vCall (.func (.func 12) #[] ⟨[]⟩) [t8_41, t9_42]) fun t10_43 =>
     Do P (V (Op.unary .not t10_43)) fun t11_45 =>
     Gd t11_45 false (
      Do P (V (Instr.loadAt 27 (f3 11))) fun t12_47 =>
      Do P (V (Instr.loadAt 27 (f3 9))) fun t13_48 =>
      Do P (vCall (.func (.func 12) #[] ⟨[]⟩) [t12_47, t13_48]) fun t14_49 =>
      Gd t14_49 true (
       K t2_7
      ) (
       K (.bool false)
      )
     ) (
      K t2_7
     )
    ) (
     Do P (V (Op.unary .not (.bool false))) fun t15_45 =>
     Gd t15_45 false (
      Do P (V (Instr.loadAt 27 (f3 11))) fun t16_47 =>
      Do P (V (Instr.loadAt 27 (f3 9))) fun t17_48 =>
      Do P (vCall (.func (.func 12) #[] ⟨[]⟩) [t16_47, t17_48]) fun t18_49 =>
      Gd t18_49 true (
       K t2_7
      ) (
       K (.bool false)
      )
     ) (
      K t2_7
     )
    )
   )
  ) fun k4 =>
  Do P (V (Instr.loadAt 27 (f3 9))) fun t19_17 =>
  Do P (V (Instr.loadAt 27 (f3 9))) fun t20_18 =>
  Do P (vCall (.func (.func 12) #[] ⟨[]⟩) [t19_17, t20_18]) fun t21_19 =>
  Do P (V (Op.unary .not t21_19)) fun t22_20 =>
  Gd t22_20 false (
   Do P (V (Instr.loadAt 27 (f3 9))) fun t23_22 =>
   Do P (V (Instr.loadAt 27 (f3 10))) fun t24_23 =>
   Do P (vCall (.func (.func 12) #[] ⟨[]⟩) [t23_22, t24_23]) fun t25_24 =>
   Gd t25_24 true (
    Do P (V (Instr.loadAt 27 (f3 10))) fun t26_26 =>
    Do P (V (Instr.loadAt 27 (f3 11))) fun t27_27 =>
    Do P (vCall (.func (.func 12) #[] ⟨[]⟩) [t26_26, t27_27]) fun t28_28 =>
    Gd t28_28 true (
     Do P (V (Instr.loadAt 27 (f3 9))) fun t29_31 =>
     Do P (V (Instr.loadAt 27 (f3 11))) fun t30_32 =>
     Do P (vCall (.func (.func 12) #[] ⟨[]⟩) [t29_31, t30_32]) fun t31_33 =>
     Do P (V (Op.unary .not t31_33)) fun t32_34 =>
     k4 t32_34
    ) (
     k4 (.bool false)
    )
   ) (
    k4 (.bool false)
   )
  ) (
   k4 (.bool true)
  )
def A3 : Ann := .s (.n) (.s (.n) (.s (.all [(8, 0), (9, 1), (10, 2), (11, 3), (12, 4), (13, 5), (14, 6), (15, 7), (16, 8), (4, 9), (5, 10), (6, 11)]) (.s (.j [36] 137438822400 (.n) (.s (.s (.n) (.n)) (.n))) (.s (.n) (.n)))))
set_option maxRecDepth 100000 in
theorem c3 (arg0 : Value) (K : Value → WP) (w : World) (h : s3 Try.prog arg0 K w) : Runs Try.prog 3 [arg0] K w :=
  runs_of_E wide (fn := Try.f3) (c := Try.f3.body.getD .skip) 54 A3 [arg0] w K Try.func3 (by kernel_rfl) (by kernel_rfl) (by kernel_rfl) (by kernel_rfl)
    (Eq.mp (by kernel_rfl : s3 Try.prog arg0 K w = E Try.prog (Try.f3.body.getD .skip) A3 (topK Try.prog K Try.f3.results) (fun i => (([arg0] : List Value)[i]?).getD undef) w) h)
theorem ct3 {arg0 : Value} {h : Hp} {post : Hp → Value → Prop} (hg : ∀ w0, Gs w0 h h [] (s3 Try.prog arg0 (RetP w0 h post))) : Ct Try.prog 3 [arg0] h post := Ct.of (sf := s3 Try.prog arg0) (c3 arg0) hg
theorem in3 {arg0 : Value} {S : WP} {K : Value → WP} (hg : G S (s3 Try.prog arg0 K)) : G S (Do Try.prog (vCall (.func (.func 3) #[] ⟨[]⟩) [arg0]) K) := Gs.into (args := [arg0]) (caps := []) (sf := s3 Try.prog arg0) (c3 arg0) hg

/- skewer/skewerlaw20.ValueSums : names 0 l, 1 l, 3 up, 4 a, 5 b, 6 x, 7 y, 8 z, 9 p, 10 q, 11 r -/
def s4 (P : Program) (arg0 : Value) (K : Value → WP) : WP :=
  Do P (V (Instr.box 23 arg0)) fun l1 =>
  Do P (vCall (.func (.func 10) #[] ⟨[]⟩) []) fun t2_12 =>
  Dr <|
  AllO [
   ([], fun f3 K => Do P (V (Instr.indexAt 23 l1 (.int .i64 0))) K),
   ([0], fun f3 K => Do P (V (Instr.loadAt 22 (f3 0))) K),
   ([1], fun f3 K => Do P (vCall (.func (.func 11) #[] ⟨[]⟩) [(f3 1), (.int .i64 5)]) K),
   ([], fun f3 K => Do P (V (Instr.indexAt 23 l1 (.int .i64 1))) K),
   ([3], fun f3 K => Do P (V (Instr.loadAt 22 (f3 3))) K),
   ([4, 2], fun f3 K => Do P (vCall (.func (.func 11) #[] ⟨[]⟩) [(f3 4), (.int .i64 5)]) K),
   ([], fun f3 K => Do P (V (Instr.alloc 27 true (.tuple #[]))) K),
   ([], fun f3 K => Do P (V (Instr.alloc 27 true (.tuple #[]))) K),
   ([6, 2, 5, 0, 1, 2, 6, 7], fun f3 K => Do P (U (Instr.storeAt 27 (f3 6) (f3 2))) K),
   ([7, 5, 8, 0, 1, 2, 3, 4, 5, 6, 7, 8], fun f3 K => Do P (U (Instr.storeAt 27 (f3 7) (f3 5))) K)
  ] fun f3 =>
  Dr <|
  AllO [
   ([], fun f4 K => Do P (V (Instr.indexAt 23 l1 (.int .i64 0))) K),
   ([0], fun f4 K => Do P (V (Instr.loadAt 22 (f4 0))) K),
   ([1], fun f4 K => Do P (vCall (.func (.func 11) #[] ⟨[]⟩) [(f4 1), (.int .i64 3)]) K),
   ([], fun f4 K => Do P (V (Instr.indexAt 23 l1 (.int .i64 1))) K),
   ([3], fun f4 K => Do P (V (Instr.loadAt 22 (f4 3))) K),
   ([4, 2], fun f4 K => Do P (vCall (.func (.func 11) #[] ⟨[]⟩) [(f4 4), (.int .i64 3)]) K),
   ([], fun f4 K => Do P (V (Instr.indexAt 23 l1 (.int .i64 2))) K),
   ([6], fun f4 K => Do P (V (Instr.loadAt 22 (f4 6))) K),
   ([7, 5], fun f4 K => Do P (vCall (.func (.func 11) #[] ⟨[]⟩) [(f4 7), (.int .i64 3)]) K),
   ([], fun f4 K => Do P (V (Instr.alloc 27 true (.tuple #[]))) K),
   ([], fun f4 K => Do P (V (Instr.alloc 27 true (.tuple #[]))) K),
   ([], fun f4 K => Do P (V (Instr.alloc 27 true (.tuple #[]))) K),
   ([9, 2, 8, 0, 1, 2, 9, 10, 11], fun f4 K => Do P (U (Instr.storeAt 27 (f4 9) (f4 2))) K),
   ([10, 5, 12, 0, 1, 2, 3, 4, 5, 9, 10, 11, 12], fun f4 K => Do P (U (Instr.storeAt 27 (f4 10) (f4 5))) K),
   ([11, 8, 13, 0, 1, 2, 3, 4, 5, 6, 7, 8, 9, 10, 11, 12, 13], fun f4 K => Do P (U (Instr.storeAt 27 (f4 11) (f4 8))) K)
  ] fun f4 =>
  Dr <|
  AllO [
   ([], fun f5 K => Do P (V (Instr.indexAt 23 l1 (.int .i64 0))) K),
   ([0], fun f5 K => Do P (V (Instr.loadAt 22 (f5 0))) K),
   ([1], fun f5 K => Do P (vCall (.func (.func 11) #[] ⟨[]⟩) [(f5 1), (.int .i64 4)]) K),
   ([], fun f5 K => Do P (V (Instr.indexAt 23 l1 (.int .i64 1))) K),
   ([3], fun f5 K => Do P (V (Instr.loadAt 22 (f5 3))) K),
   ([4, 2], fun f5 K => Do P (vCall (.func (.func 11) #[] ⟨[]⟩) [(f5 4), (.int .i64 4)]) K),
   ([], fun f5 K => Do P (V (Instr.indexAt 23 l1 (.int .i64 2))) K),
   ([6], fun f5 K => Do P (V (Instr.loadAt 22 (f5 6))) K),
   ([7, 5], fun f5 K => Do P (vCall (.func (.func 11) #[] ⟨[]⟩) [(f5 7), (.int .i64 4)]) K),
   ([], fun f5 K => Do P (V (Instr.alloc 27 true (.tuple #[]))) K),
   ([], fun f5 K => Do P (V (Instr.alloc 27 true (.tuple #[]))) K),
   ([], fun f5 K => Do P (V (Instr.alloc 27 true (.tuple #[]))) K),
   ([9, 2, 8, 0, 1, 2, 9, 10, 11], fun f5 K => Do P (U (Instr.storeAt 27 (f5 9) (f5 2))) K),
   ([10, 5, 12, 0, 1, 2, 3, 4, 5, 9, 10, 11, 12], fun f5 K => Do P (U (Instr.storeAt 27 (f5 10) (f5 5))) K),
   ([11, 8, 13, 0, 1, 2, 3, 4, 5, 6, 7, 8, 9, 10, 11, 12, 13], fun f5 K => Do P (U (Instr.storeAt 27 (f5 11) (f5 8))) K)
  ] fun f5 =>
  Jn (α := Value) (fun j6 => Jk fun _ => -- t61
   If j6 (
    K (.bool false)
   ) (
    Dr <|
    Qk P (V (Instr.loadAt 27 (f4 9))) fun C7 t7_62 =>
    Qk P (V (Instr.loadAt 27 (f4 10))) fun C8 t8_63 =>
    Qk P (V (Instr.loadAt 27 (f4 11))) fun C9 t9_65 =>
    Qk P (V (Instr.loadAt 27 (f4 9))) fun C10 t10_67 =>
    Qk P (V (Instr.loadAt 27 (f4 10))) fun C11 t11_68 =>
    Qk P (V (Instr.loadAt 27 (f4 11))) fun C12 t12_69 =>
    Do P (vCall (.func (.func 14) #[] ⟨[]⟩) [t7_62, t8_63]) fun t13_64 =>
    With C12 <|
    With C11 <|
    With C10 <|
    With C9 <|
    Do P (vCall (.func (.func 14) #[] ⟨[]⟩) [t13_64, t9_65]) fun t14_66 =>
    With C12 <|
    With C11 <|
    With C10 <|
    Do P (vCall (.func (.func 14) #[] ⟨[]⟩) [t11_68, t12_69]) fun t15_70 =>
    With C10 <|
    Do P (vCall (.func (.func 14) #[] ⟨[]⟩) [t10_67, t15_70]) fun t16_71 =>
    Do P (vCall (.func (.func 13) #[] ⟨[]⟩) [t14_66, t16_71]) fun t17_72 =>
    Qk P (V (Op.unary .not t17_72)) fun C18 t18_73 =>
    If t18_73 (
     K (.bool false)
    ) (
     Dr <|
     Qk P (V (Instr.loadAt 27 (f5 9))) fun C19 t19_74 =>
     Qk P (V (Instr.loadAt 27 (f5 10))) fun C20 t20_75 =>
     Qk P (V (Instr.loadAt 27 (f5 9))) fun C21 t21_77 =>
     Qk P (V (Instr.loadAt 27 (f5 11))) fun C22 t22_78 =>
     Qk P (V (Instr.loadAt 27 (f5 10))) fun C23 t23_80 =>
     Qk P (V (Instr.loadAt 27 (f5 11))) fun C24 t24_81 =>
     Do P (vCall (.func (.func 12) #[] ⟨[]⟩) [t19_74, t20_75]) fun t25_76 =>
     With C24 <|
     With C23 <|
     With C22 <|
     With C21 <|
     Do P (vCall (.func (.func 14) #[] ⟨[]⟩) [t21_77, t22_78]) fun t26_79 =>
     With C24 <|
     With C23 <|
     Do P (vCall (.func (.func 14) #[] ⟨[]⟩) [t23_80, t24_81]) fun t27_82 =>
     Do P (vCall (.func (.func 12) #[] ⟨[]⟩) [t26_79, t27_82]) fun t28_83 =>
     Qk P (V (EqG .eql 4 (.tmp 76) (.tmp 83) t25_76 t28_83)) fun C29 t29_84 =>
     Gd t29_84 true (
      K t2_12
     ) (
      K (.bool false)
     )
    )
   )
  ) fun k6 =>
  Dr <|
  Qk P (V (Instr.loadAt 27 (f3 6))) fun C30 t30_37 =>
  Qk P (V (Instr.loadAt 27 (f3 7))) fun C31 t31_38 =>
  Qk P (V (Instr.loadAt 27 (f3 7))) fun C32 t32_40 =>
  Qk P (V (Instr.loadAt 27 (f3 6))) fun C33 t33_41 =>
  Do P (vCall (.func (.func 14) #[] ⟨[]⟩) [t30_37, t31_38]) fun t34_39 =>
  With C33 <|
  With C32 <|
  Do P (vCall (.func (.func 14) #[] ⟨[]⟩) [t32_40, t33_41]) fun t35_42 =>
  Do P (vCall (.func (.func 13) #[] ⟨[]⟩) [t34_39, t35_42]) fun t36_43 =>
  Qk P (V (Op.unary .not t36_43)) fun C37 t37_44 =>
  Gd t37_44 false (
   Qk P (V (Instr.loadAt 27 (f3 6))) fun C38 t38_46 =>
   Qk P (vBuild 27 []) fun C39 t39_47 =>
   Qk P (V (Instr.loadAt 27 (f3 6))) fun C40 t40_49 =>
   Do P (vCall (.func (.func 14) #[] ⟨[]⟩) [t38_46, t39_47]) fun t41_48 =>
   With C40 <|
   Do P (vCall (.func (.func 13) #[] ⟨[]⟩) [t41_48, t40_49]) fun t42_50 =>
   Qk P (V (Op.unary .not t42_50)) fun C43 t43_51 =>
   Gd t43_51 false (
    Qk P (V (Instr.loadAt 27 (f3 6))) fun C44 t44_54 =>
    Qk P (V (Instr.loadAt 27 (f3 6))) fun C45 t45_55 =>
    Qk P (vBuild 27 []) fun C46 t46_58 =>
    Do P (vCall (.func (.func 15) #[] ⟨[]⟩) [t45_55]) fun t47_56 =>
    With C46 <|
    With C44 <|
    Do P (vCall (.func (.func 14) #[] ⟨[]⟩) [t44_54, t47_56]) fun t48_57 =>
    With C46 <|
    Do P (vCall (.func (.func 13) #[] ⟨[]⟩) [t48_57, t46_58]) fun t49_59 =>
    Qk P (V (Op.unary .not t49_59)) fun C50 t50_60 =>
    k6 t50_60
   ) (
    k6 (.bool true)
   )
  ) (
   k6 (.bool true)
  )
def A4 : Ann := .s (.n) (.s (.n) (.s (.all [(13, 0), (14, 1), (15, 2), (16, 3), (17, 4), (18, 5), (4, 6), (5, 7)]) (.s (.all [(19, 0), (20, 1), (21, 2), (22, 3), (23, 4), (24, 5), (25, 6), (26, 7), (27, 8), (6, 9), (7, 10), (8, 11)]) (.s (.all [(28, 0), (29, 1), (30, 2), (31, 3), (32, 4), (33, 5), (34, 6), (35, 7), (36, 8), (9, 9), (10, 10), (11, 11)]) (.s (.j [61] 4611685880988434432 (.plan [(0, 16, 137438953472), (0, 32, 274877906944), (3, 412316860416, 549755813888), (0, 32, 1099511627776), (0, 16, 2199023255552), (28, 3298534883328, 4398046511104), (36, 4947802324992, 8796093022208), (64, 8796093022208, 17592186044416), (192, 17592186044416, 35184372088832), (256, 35184372088848, 70368744177664), (256, 35184372088832, 140737488355328), (1792, 246290604621824, 281474976710656), (256, 35184372088848, 562949953421312), (6400, 879609302220800, 1125899906842624), (8448, 1161084278931456, 2251799813685248), (16640, 2286984185774080, 4503599627370496), (40960, 4503599627370496, 9007199254740992), (65536, 9007199254741008, 18014398509481984), (65536, 9007199254741008, 36028797018963968), (327680, 45035996273704960, 72057594037927936), (720896, 99079191802150912, 144115188075855872), (65536, 9007199254740992, 288230376151711744), (3211264, 441352763482308608, 576460752303423488), (4259840, 585467951558164480, 1152921504606846976), (8454144, 1161928703861587968, 2305843009213693952)] (.q 0 (.q 1 (.q 3 (.q 4 (.l 2 (.l 5 (.l 6 (.q 7 (.q 8 (.q 9 (.q 10 (.q 12 (.l 11 (.l 13 (.q 14 (.q 15 (.q 16 (.q 17 (.q 18 (.q 21 (.l 19 (.l 20 (.l 22 (.q 23 (.q 24 .done)))))))))))))))))))))))))) (.s (.s (.n) (.n)) (.n))) (.s (.s (.plan [(0, 64, 4611686018427387904), (0, 128, 9223372036854775808), (3, 13835058055282163712, 18446744073709551616), (0, 256, 36893488147419103232), (12, 55340232221128654848, 73786976294838206464), (0, 64, 147573952589676412928), (0, 128, 295147905179352825856), (0, 256, 590295810358705651712), (208, 885443715538058477568, 1180591620717411303424), (288, 1328165573307087716352, 2361183241434822606848), (528, 2434970217729660813312, 4722366482869645213696), (1024, 4722366482869645213696, 9444732965739290427392)] (.q 0 (.q 1 (.q 3 (.q 5 (.q 6 (.q 7 (.l 2 (.l 4 (.l 8 (.l 9 (.l 10 (.q 11 .done))))))))))))) (.s (.s (.n) (.n)) (.n))) (.s (.plan [(0, 512, 18889465931478580854784), (0, 1024, 37778931862957161709568), (3, 56668397794435742564352, 75557863725914323419136), (0, 512, 151115727451828646838272), (0, 2048, 302231454903657293676544), (28, 453347182355485940514816, 604462909807314587353088), (0, 1024, 1208925819614629174706176), (0, 2048, 2417851639229258349412352), (224, 3626777458843887524118528, 4835703278458516698824704), (288, 5440166188265831286177792, 9671406556917033397649408), (516, 9746964420642947721068544, 19342813113834066795298816), (1536, 19342813113834066795298816, 38685626227668133590597632), (2048, 38685626227668133590597640, 77371252455336267181195264), (6144, 116056878683004400771792896, 154742504910672534362390528), (16383, 154742504910672534362390528, 4)] (.q 0 (.q 1 (.q 3 (.q 4 (.q 6 (.q 7 (.l 2 (.l 5 (.l 8 (.l 9 (.q 10 (.q 11 (.q 12 (.q 13 (.q 14 .done)))))))))))))))) (.n))))))))
set_option maxRecDepth 100000 in
theorem c4 (arg0 : Value) (K : Value → WP) (w : World) (h : s4 Try.prog arg0 K w) : Runs Try.prog 4 [arg0] K w :=
  runs_of_E wide (fn := Try.f4) (c := Try.f4.body.getD .skip) 88 A4 [arg0] w K Try.func4 (by kernel_rfl) (by kernel_rfl) (by kernel_rfl) (by kernel_rfl)
    (Eq.mp (by kernel_rfl : s4 Try.prog arg0 K w = E Try.prog (Try.f4.body.getD .skip) A4 (topK Try.prog K Try.f4.results) (fun i => (([arg0] : List Value)[i]?).getD undef) w) h)
theorem ct4 {arg0 : Value} {h : Hp} {post : Hp → Value → Prop} (hg : ∀ w0, Gs w0 h h [] (s4 Try.prog arg0 (RetP w0 h post))) : Ct Try.prog 4 [arg0] h post := Ct.of (sf := s4 Try.prog arg0) (c4 arg0) hg
theorem in4 {arg0 : Value} {S : WP} {K : Value → WP} (hg : G S (s4 Try.prog arg0 K)) : G S (Do Try.prog (vCall (.func (.func 4) #[] ⟨[]⟩) [arg0]) K) := Gs.into (args := [arg0]) (caps := []) (sf := s4 Try.prog arg0) (c4 arg0) hg

/- skewer/skewerlaw20.ValueCanon : names 0 l, 1 m, 2 l, 3 m, 5 up, 6 a, 7 b, 8 c, 9 d, 10 i, 11 k -/
def s5 (P : Program) (arg0 arg1 : Value) (K : Value → WP) : WP :=
  Do P (vCall (.func (.func 10) #[] ⟨[]⟩) []) fun t1_12 =>
  Do P (vCall (.func (.func 11) #[] ⟨[]⟩) [arg0, (.int .i64 12)]) fun t2_14 =>
  Do P (vCall (.func (.func 11) #[] ⟨[]⟩) [arg1, (.int .i64 12)]) fun t3_16 =>
  Do P (V (Instr.alloc 27 true (.tuple #[]))) fun a4 =>
  Do P (V (Instr.alloc 27 true (.tuple #[]))) fun b5 =>
  Do P (U (Instr.storeAt 27 a4 t2_14)) fun t6_x =>
  Do P (U (Instr.storeAt 27 b5 t3_16)) fun t7_x =>
  Dr <|
  AllO [
   ([], fun f8 K => Do P (V (Instr.loadAt 27 a4)) K),
   ([0], fun f8 K => Do P (vCall (.func (.func 16) #[] ⟨[]⟩) [(f8 0)]) K),
   ([], fun f8 K => Do P (V (Instr.loadAt 27 b5)) K),
   ([2, 1], fun f8 K => Do P (vCall (.func (.func 16) #[] ⟨[]⟩) [(f8 2)]) K),
   ([], fun f8 K => Do P (V (Instr.alloc 27 true (.tuple #[]))) K),
   ([], fun f8 K => Do P (V (Instr.alloc 27 true (.tuple #[]))) K),
   ([4, 1, 3, 0, 1, 4, 5], fun f8 K => Do P (U (Instr.storeAt 27 (f8 4) (f8 1))) K),
   ([5, 3, 6, 0, 1, 2, 3, 4, 5, 6], fun f8 K => Do P (U (Instr.storeAt 27 (f8 5) (f8 3))) K)
  ] fun f8 =>
  Jn (α := Value) (fun j9 => Jk fun _ => -- t48
   If j9 (
    K (.bool false)
   ) (
    Lp (α := Value) (fun c10 s10 => Jk fun _ => -- i
     Do P (V (Instr.fieldAt 27 (f8 4) 0)) fun t11_50 =>
     Do P (V (Instr.loadAt 25 t11_50)) fun t12_51 =>
     Do P (vBuiltin .len #[25] 3 [t12_51]) fun t13_52 =>
     Do P (V (binOp .lss 3 s10 t13_52)) fun t14_53 =>
     If t14_53 (
      Jn (α := Value) (fun j15 => Jk fun _ => -- t88
       If j15 (
        K (.bool false)
       ) (
        Lp (α := Value) (fun c16 s16 => Jk fun _ => -- k
         Do P (V (Instr.fieldAt 27 (f8 4) 0)) fun t17_90 =>
         Do P (V (Instr.loadAt 25 t17_90)) fun t18_91 =>
         Do P (V (Instr.indexAt 25 t18_91 s10)) fun t19_93 =>
         Do P (V (Instr.fieldAt 27 t19_93 1)) fun t20_94 =>
         Do P (V (Instr.loadAt 25 t20_94)) fun t21_95 =>
         Do P (vBuiltin .len #[25] 3 [t21_95]) fun t22_96 =>
         Do P (V (binOp .lss 3 s16 t22_96)) fun t23_97 =>
         If t23_97 (
          Dr <|
          Qk P (V (Instr.fieldAt 27 (f8 4) 0)) fun C24 t24_100 =>
          Qk P (V (Instr.loadAt 25 t24_100)) fun C25 t25_101 =>
          Qk P (V (Instr.indexAt 25 t25_101 s10)) fun C26 t26_103 =>
          Qk P (V (Instr.fieldAt 27 t26_103 1)) fun C27 t27_104 =>
          Qk P (V (Instr.loadAt 25 t27_104)) fun C28 t28_105 =>
          Qk P (V (Instr.indexAt 25 t28_105 s16)) fun C29 t29_107 =>
          Qk P (V (Instr.loadAt 27 t29_107)) fun C30 t30_108 =>
          Qk P (V (Instr.loadAt 27 (f8 4))) fun C31 t31_109 =>
          Do P (vCall (.func (.func 12) #[] ⟨[]⟩) [t30_108, t31_109]) fun t32_110 =>
          If t32_110 (
           K (.bool false)
          ) (
           Do P (V (binOp .add 3 s16 (.int .i64 1))) fun t33_99 =>
           c16 t33_99
          )
         ) (
          Do P (V (binOp .add 3 s10 (.int .i64 1))) fun t34_55 =>
          c10 t34_55
         )
        ) (.int .i64 0)
       )
      ) fun k15 =>
      Dr <|
      Qk P (V (binOp .gtr 3 s10 (.int .i64 0))) fun C35 t35_57 =>
      Gd t35_57 true (
       Qk P (V (Instr.fieldAt 27 (f8 4) 0)) fun C36 t36_59 =>
       Qk P (V (Instr.loadAt 25 t36_59)) fun C37 t37_60 =>
       Qk P (V (binOp .sub 3 s10 (.int .i64 1))) fun C38 t38_62 =>
       Qk P (V (Instr.indexAt 25 t37_60 t38_62)) fun C39 t39_63 =>
       Qk P (V (Instr.loadAt 27 t39_63)) fun C40 t40_64 =>
       Qk P (V (Instr.fieldAt 27 (f8 4) 0)) fun C41 t41_66 =>
       Qk P (V (Instr.loadAt 25 t41_66)) fun C42 t42_67 =>
       Qk P (V (Instr.indexAt 25 t42_67 s10)) fun C43 t43_69 =>
       Qk P (V (Instr.loadAt 27 t43_69)) fun C44 t44_70 =>
       Do P (vCall (.func (.func 20) #[] ⟨[]⟩) [t40_64]) fun t45_65 =>
       With C44 <|
       With C43 <|
       With C42 <|
       With C41 <|
       Do P (vCall (.func (.func 20) #[] ⟨[]⟩) [t44_70]) fun t46_71 =>
       Qk P (V (binOp .geq 9 t45_65 t46_71)) fun C47 t47_72 =>
       Gd t47_72 false (
        Qk P (V (Instr.fieldAt 27 (f8 4) 0)) fun C48 t48_75 =>
        Qk P (V (Instr.loadAt 25 t48_75)) fun C49 t49_76 =>
        Qk P (V (Instr.indexAt 25 t49_76 s10)) fun C50 t50_78 =>
        Qk P (V (Instr.loadAt 27 t50_78)) fun C51 t51_79 =>
        Qk P (V (Instr.fieldAt 27 (f8 4) 0)) fun C52 t52_81 =>
        Qk P (V (Instr.loadAt 25 t52_81)) fun C53 t53_82 =>
        Qk P (V (Instr.indexAt 25 t53_82 s10)) fun C54 t54_84 =>
        Qk P (V (Instr.loadAt 27 t54_84)) fun C55 t55_85 =>
        Do P (vCall (.func (.func 16) #[] ⟨[]⟩) [t51_79]) fun t56_80 =>
        With C55 <|
        With C54 <|
        With C53 <|
        With C52 <|
        Do P (vCall (.func (.func 19) #[] ⟨[]⟩) [t56_80, t55_85]) fun t57_86 =>
        Qk P (V (Op.unary .not t57_86)) fun C58 t58_87 =>
        k15 t58_87
       ) (
        k15 (.bool true)
       )
      ) (
       Qk P (V (Instr.fieldAt 27 (f8 4) 0)) fun C59 t59_75 =>
       Qk P (V (Instr.loadAt 25 t59_75)) fun C60 t60_76 =>
       Qk P (V (Instr.indexAt 25 t60_76 s10)) fun C61 t61_78 =>
       Qk P (V (Instr.loadAt 27 t61_78)) fun C62 t62_79 =>
       Qk P (V (Instr.fieldAt 27 (f8 4) 0)) fun C63 t63_81 =>
       Qk P (V (Instr.loadAt 25 t63_81)) fun C64 t64_82 =>
       Qk P (V (Instr.indexAt 25 t64_82 s10)) fun C65 t65_84 =>
       Qk P (V (Instr.loadAt 27 t65_84)) fun C66 t66_85 =>
       Do P (vCall (.func (.func 16) #[] ⟨[]⟩) [t62_79]) fun t67_80 =>
       With C66 <|
       With C65 <|
       With C64 <|
       With C63 <|
       Do P (vCall (.func (.func 19) #[] ⟨[]⟩) [t67_80, t66_85]) fun t68_86 =>
       Qk P (V (Op.unary .not t68_86)) fun C69 t69_87 =>
       k15 t69_87
      )
     ) (
      Dr <|
      Qk P (V (Instr.loadAt 27 a4)) fun C70 t70_111 =>
      Qk P (V (Instr.loadAt 27 b5)) fun C71 t71_112 =>
      Qk P (V (Instr.loadAt 27 (f8 4))) fun C72 t72_114 =>
      Qk P (V (Instr.loadAt 27 (f8 5))) fun C73 t73_115 =>
      Do P (vCall (.func (.func 13) #[] ⟨[]⟩) [t70_111, t71_112]) fun t74_113 =>
      With C73 <|
      With C72 <|
      Do P (vCall (.func (.func 19) #[] ⟨[]⟩) [t72_114, t73_115]) fun t75_116 =>
      Qk P (V (EqG .eql 4 (.tmp 113) (.tmp 116) t74_113 t75_116)) fun C76 t76_117 =>
      Gd t76_117 true (
       K t1_12
      ) (
       K (.bool false)
      )
     )
    ) (.int .i64 0)
   )
  ) fun k9 =>
  Dr <|
  Qk P (V (Instr.loadAt 27 (f8 4))) fun C77 t77_21 =>
  Do P (vCall (.func (.func 17) #[] ⟨[]⟩) [t77_21]) fun t78_22 =>
  Qk P (V (binOp .gtr 3 t78_22 (.int .i64 12))) fun C79 t79_23 =>
  Gd t79_23 false (
   Qk P (V (Instr.loadAt 27 (f8 5))) fun C80 t80_25 =>
   Do P (vCall (.func (.func 17) #[] ⟨[]⟩) [t80_25]) fun t81_26 =>
   Qk P (V (binOp .gtr 3 t81_26 (.int .i64 12))) fun C82 t82_27 =>
   Gd t82_27 false (
    Qk P (V (Instr.loadAt 27 a4)) fun C83 t83_30 =>
    Qk P (V (Instr.loadAt 27 (f8 4))) fun C84 t84_31 =>
    Do P (vCall (.func (.func 13) #[] ⟨[]⟩) [t83_30, t84_31]) fun t85_32 =>
    Qk P (V (Op.unary .not t85_32)) fun C86 t86_33 =>
    Gd t86_33 false (
     Qk P (V (Instr.loadAt 27 (f8 4))) fun C87 t87_36 =>
     Qk P (V (Instr.loadAt 27 a4)) fun C88 t88_38 =>
     Do P (vCall (.func (.func 18) #[] ⟨[]⟩) [t87_36]) fun t89_37 =>
     With C88 <|
     Do P (vCall (.func (.func 18) #[] ⟨[]⟩) [t88_38]) fun t90_39 =>
     Qk P (V (binOp .gtr 3 t89_37 t90_39)) fun C91 t91_40 =>
     Gd t91_40 false (
      Qk P (V (Instr.loadAt 27 (f8 4))) fun C92 t92_43 =>
      Qk P (V (Instr.loadAt 27 (f8 4))) fun C93 t93_45 =>
      Do P (vCall (.func (.func 16) #[] ⟨[]⟩) [t92_43]) fun t94_44 =>
      With C93 <|
      Do P (vCall (.func (.func 19) #[] ⟨[]⟩) [t94_44, t93_45]) fun t95_46 =>
      Qk P (V (Op.unary .not t95_46)) fun C96 t96_47 =>
      k9 t96_47
     ) (
      k9 (.bool true)
     )
    ) (
     k9 (.bool true)
    )
   ) (
    k9 (.bool true)
   )
  ) (
   k9 (.bool true)
  )
def A5 : Ann := .s (.n) (.s (.n) (.s (.n) (.s (.all [(17, 0), (18, 1), (19, 2), (20, 3), (8, 4), (9, 5)]) (.s (.j [48] 562949951324160 (.plan [(0, 256, 2097152), (1, 2097152, 4194304), (2, 4194304, 8388608), (6, 8388608, 16777216), (8, 16777728, 33554432), (24, 50331648, 67108864), (40, 83886080, 134217728), (72, 150994944, 268435456), (160, 268435456, 536870912), (256, 536870976, 1073741824), (256, 536871168, 2147483648), (1792, 3758096384, 4294967296), (2304, 4831838208, 8589934592), (4352, 9126805504, 17179869184), (10240, 17179869184, 34359738368), (16384, 34359738624, 68719476736), (49152, 103079215104, 137438953472), (16384, 34359738432, 274877906944), (212992, 309237645312, 549755813888), (344064, 721554505728, 1099511627776), (540672, 1133871366144, 2199023255552), (1310720, 2199023255552, 4398046511104), (2097152, 4398046511360, 8796093022208), (6291456, 13194139533312, 17592186044416), (2097152, 4398046511360, 35184372088832), (27262976, 57174604644352, 70368744177664), (35651584, 74766790688768, 140737488355328), (69206016, 145135534866432, 281474976710656)] (.q 0 (.l 1 (.q 2 (.q 3 (.q 4 (.l 5 (.q 6 (.q 7 (.q 8 (.q 9 (.q 10 (.l 11 (.q 12 (.q 13 (.q 14 (.q 15 (.q 17 (.l 16 (.l 18 (.q 19 (.q 20 (.q 21 (.q 22 (.q 24 (.l 23 (.l 25 (.q 26 (.q 27 .done))))))))))))))))))))))))))))) (.s (.s (.n) (.n)) (.n))) (.s (.s (.n) (.lp [10] 2596148429267413813702298211191824 (.s (.s (.n) (.s (.n) (.n))) (.s (.s (.j [88] 618970019570632543411634176 (.plan [(0, 1024, 72057594037927936), (1, 72057594037927936, 144115188075855872), (2, 144115188075855872, 288230376151711744), (4, 288230376151712000, 576460752303423488), (12, 864691128455135232, 1152921504606846976), (4, 288230376151712768, 2305843009213693952), (36, 2594073385365405696, 4611686018427387904), (84, 6052837899185946624, 9223372036854775808), (132, 9511602413006487552, 18446744073709551616), (260, 18734974449861263360, 36893488147419103232), (4, 288230376151712000, 73786976294838206464), (1028, 74075206670989918208, 147573952589676412928), (4, 288230376151712768, 295147905179352825856), (6148, 443010088145180950528, 590295810358705651712), (8196, 590584040734857363456, 1180591620717411303424), (16900, 1180879851093563015168, 2361183241434822606848), (33284, 2398364959958393421824, 4722366482869645213696), (65540, 4722654713245796925440, 9444732965739290427392), (163840, 9444732965739290427392, 18889465931478580854784), (262144, 18889465931478580855040, 37778931862957161709568), (786432, 56668397794435742564352, 75557863725914323419136), (262144, 18889465931478580855808, 151115727451828646838272), (3407872, 245563057109221551112192, 302231454903657293676544), (4456448, 321120920835135874531328, 604462909807314587353088), (8650752, 623352375738793168207872, 1208925819614629174706176), (262144, 18889465931478580855040, 2417851639229258349412352), (33816576, 2436741105160736930267136, 4835703278458516698824704), (262144, 18889465931478580855808, 9671406556917033397649408), (201588736, 14525999301307028677328896, 19342813113834066795298816), (268697600, 19361702579765545376153600, 38685626227668133590597632), (553910272, 39913441513214241346158592, 77371252455336267181195264), (1074003968, 77390141921267745762050048, 154742504910672534362390528), (2147745792, 154761394376604012943245312, 309485009821345068724781056)] (.q 0 (.q 1 (.q 2 (.q 3 (.q 4 (.q 5 (.q 6 (.q 7 (.q 8 (.q 10 (.q 11 (.q 12 (.q 13 (.q 14 (.l 9 (.l 15 (.q 16 (.q 17 (.q 18 (.q 19 (.q 20 (.q 21 (.q 22 (.q 23 (.q 25 (.q 26 (.q 27 (.q 28 (.q 29 (.l 24 (.l 30 (.q 31 (.q 32 .done)))))))))))))))))))))))))))))))))) (.s (.s (.n) (.n)) (.n))) (.s (.n) (.lp [11] 2596147810297394171575110715050000 (.s (.s (.n) (.s (.n) (.n))) (.s (.s (.plan [(0, 256, 1267650600228229401496703205376), (1, 1267650600228229401496703205376, 2535301200456458802993406410752), (0, 1024, 5070602400912917605986812821504), (6, 7605903601369376408980219232256, 10141204801825835211973625643008), (8, 10141204801825835211973625643008, 20282409603651670423947251286016), (16, 20282409603651670423947251286016, 40564819207303340847894502572032), (0, 2048, 81129638414606681695789005144064), (96, 121694457621910022543683507716096, 162259276829213363391578010288128), (128, 162259276829213363391578010288128, 324518553658426726783156020576256), (0, 256, 649037107316853453566312041152512), (768, 973555660975280180349468061728768, 1298074214633706907132624082305024)] (.q 0 (.q 1 (.q 2 (.q 3 (.q 4 (.q 5 (.q 6 (.q 7 (.q 8 (.q 9 (.l 10 .done)))))))))))) (.s (.s (.n) (.n)) (.n))) (.n)))))) (.n))))) (.s (.plan [(0, 64, 2596148429267413814265248164610048), (0, 128, 5192296858534827628530496329220096), (3, 7788445287802241442795744493830144, 10384593717069655257060992658440192), (0, 256, 20769187434139310514121985316880384), (0, 512, 41538374868278621028243970633760768), (28, 62307562302417931542365955950641152, 83076749736557242056487941267521536), (36, 93461343453626897313548933925961728, 166153499473114484112975882535043072), (96, 166153499473114484112975882535043072, 332306998946228968225951765070086144), (128, 332306998946228968225951765070086176, 664613997892457936451903530140172288), (384, 996920996838686904677855295210258432, 1329227995784915872903807060280344576), (1023, 1329227995784915872903807060280344576, 16)] (.q 0 (.q 1 (.q 3 (.q 4 (.l 2 (.l 5 (.q 6 (.q 7 (.q 8 (.q 9 (.q 10 .done)))))))))))) (.n)))))))
set_option maxRecDepth 100000 in
theorem c5 (arg0 arg1 : Value) (K : Value → WP) (w : World) (h : s5 Try.prog arg0 arg1 K w) : Runs Try.prog 5 [arg0, arg1] K w :=
  runs_of_E wide (fn := Try.f5) (c := Try.f5.body.getD .skip) 121 A5 [arg0, arg1] w K Try.func5 (by kernel_rfl) (by kernel_rfl) (by kernel_rfl) (by kernel_rfl)
    (Eq.mp (by kernel_rfl : s5 Try.prog arg0 arg1 K w = E Try.prog (Try.f5.body.getD .skip) A5 (topK Try.prog K Try.f5.results) (fun i => (([arg0, arg1] : List Value)[i]?).getD undef) w) h)
theorem ct5 {arg0 arg1 : Value} {h : Hp} {post : Hp → Value → Prop} (hg : ∀ w0, Gs w0 h h [] (s5 Try.prog arg0 arg1 (RetP w0 h post))) : Ct Try.prog 5 [arg0, arg1] h post := Ct.of (sf := s5 Try.prog arg0 arg1) (c5 arg0 arg1) hg
theorem in5 {arg0 arg1 : Value} {S : WP} {K : Value → WP} (hg : G S (s5 Try.prog arg0 arg1 K)) : G S (Do Try.prog (vCall (.func (.func 5) #[] ⟨[]⟩) [arg0, arg1]) K) := Gs.into (args := [arg0, arg1]) (caps := []) (sf := s5 Try.prog arg0 arg1) (c5 arg0 arg1) hg

/- skewer/skewerlaw20.ValueNumbers : names 0 w, 1 exp, 2 w, 3 exp, 5 up, 6 x, 7 y, 8 a, 9 e, 10 b, 11 f, 12 z, 13 g, 14 p, 15 is, 16 q, 17 has, 18 r, 19 neg -/
def s6 (P : Program) (arg0 arg1 : Value) (K : Value → WP) : WP :=
  Do P (V (Instr.box 37 arg0)) fun w1 =>
  Do P (V (Instr.box 38 arg1)) fun exp2 =>
  Do P (vCall (.func (.func 10) #[] ⟨[]⟩) []) fun t3_20 =>
  Dr <|
  AllO [
   ([], fun f4 K => Do P (V (Instr.indexAt 37 w1 (.int .i64 0))) K),
   ([0], fun f4 K => Do P (V (Instr.loadAt 36 (f4 0))) K),
   ([1], fun f4 K => Do P (V (convert 36 3 (f4 1))) K),
   ([], fun f4 K => Do P (V (Instr.indexAt 38 exp2 (.int .i64 0))) K),
   ([3], fun f4 K => Do P (V (Instr.loadAt 5 (f4 3))) K),
   ([4], fun f4 K => Do P (V (binOp .rem 5 (f4 4) (.int .u8 3))) K),
   ([5], fun f4 K => Do P (V (convert 5 3 (f4 5))) K),
   ([2, 6], fun f4 K => Do P (vCall (.func (.func 21) #[] ⟨[]⟩) [(f4 2), (f4 6)]) K),
   ([], fun f4 K => Do P (V (Instr.indexAt 37 w1 (.int .i64 1))) K),
   ([8], fun f4 K => Do P (V (Instr.loadAt 36 (f4 8))) K),
   ([9], fun f4 K => Do P (V (convert 36 3 (f4 9))) K),
   ([], fun f4 K => Do P (V (Instr.indexAt 38 exp2 (.int .i64 1))) K),
   ([11], fun f4 K => Do P (V (Instr.loadAt 5 (f4 11))) K),
   ([12], fun f4 K => Do P (V (binOp .rem 5 (f4 12) (.int .u8 3))) K),
   ([13], fun f4 K => Do P (V (convert 5 3 (f4 13))) K),
   ([10, 14, 7], fun f4 K => Do P (vCall (.func (.func 21) #[] ⟨[]⟩) [(f4 10), (f4 14)]) K),
   ([], fun f4 K => Do P (V (Instr.alloc 40 true (.tuple #[]))) K),
   ([], fun f4 K => Do P (V (Instr.alloc 40 true (.tuple #[]))) K),
   ([16, 7, 15, 0, 1, 2, 3, 4, 5, 6, 7, 16, 17], fun f4 K => Do P (U (Instr.storeAt 40 (f4 16) (f4 7))) K),
   ([17, 15, 18, 0, 1, 2, 3, 4, 5, 6, 7, 8, 9, 10, 11, 12, 13, 14, 15, 16, 17, 18], fun f4 K => Do P (U (Instr.storeAt 40 (f4 17) (f4 15))) K)
  ] fun f4 =>
  Do P (V (Instr.loadAt 40 (f4 16))) fun t5_38 =>
  Do P (vCall (.func (.func 22) #[] ⟨[]⟩) [t5_38]) fun t6_39 =>
  Do P (V (Instr.extract t6_39 0)) fun t7_40 =>
  Do P (V (Instr.extract t6_39 1)) fun t8_41 =>
  Do P (V (Instr.alloc 27 true (.tuple #[]))) fun a9 =>
  Do P (U (Instr.storeAt 27 a9 t7_40)) fun t10_x =>
  Do P (V (Instr.loadAt 40 (f4 17))) fun t11_43 =>
  Do P (vCall (.func (.func 22) #[] ⟨[]⟩) [t11_43]) fun t12_44 =>
  Do P (V (Instr.extract t12_44 0)) fun t13_45 =>
  Do P (V (Instr.extract t12_44 1)) fun t14_46 =>
  Do P (V (Instr.alloc 27 true (.tuple #[]))) fun b15 =>
  Do P (U (Instr.storeAt 27 b15 t13_45)) fun t16_x =>
  Jn (α := Value) (fun j17 => Jk fun _ => -- t62
   If j17 (
    K (.bool false)
   ) (
    Do P (V (Instr.loadAt 40 (f4 16))) fun t18_64 =>
    Do P (V (Instr.loadAt 40 (f4 17))) fun t19_65 =>
    Do P (vCall (.func (.func 23) #[] ⟨[]⟩) [t18_64, t19_65]) fun t20_66 =>
    Do P (V (Instr.extract t20_66 0)) fun t21_67 =>
    Do P (V (Instr.extract t20_66 1)) fun t22_68 =>
    Do P (V (Instr.alloc 40 true (.tuple #[]))) fun z23 =>
    Do P (U (Instr.storeAt 40 z23 t21_67)) fun t24_x =>
    Jn (α := Value) (fun j25 => Jk fun _ => -- t87
     If j25 (
      K (.bool false)
     ) (
      Do P (V (Instr.loadAt 27 a9)) fun t26_89 =>
      Do P (vCall (.func (.func 25) #[] ⟨[]⟩) [t26_89]) fun t27_90 =>
      Do P (V (Instr.extract t27_90 0)) fun t28_91 =>
      Do P (V (Instr.extract t27_90 1)) fun t29_92 =>
      Do P (V (Instr.alloc 40 true (.tuple #[]))) fun p30 =>
      Do P (U (Instr.storeAt 40 p30 t28_91)) fun t31_x =>
      Do P (V (Instr.loadAt 27 a9)) fun t32_94 =>
      Do P (V (Instr.loadAt 27 b15)) fun t33_95 =>
      Do P (vCall (.func (.func 14) #[] ⟨[]⟩) [t32_94, t33_95]) fun t34_96 =>
      Do P (vCall (.func (.func 25) #[] ⟨[]⟩) [t34_96]) fun t35_97 =>
      Do P (V (Instr.extract t35_97 0)) fun t36_98 =>
      Do P (V (Instr.extract t35_97 1)) fun t37_99 =>
      Do P (V (Instr.alloc 40 true (.tuple #[]))) fun q38 =>
      Do P (U (Instr.storeAt 40 q38 t36_98)) fun t39_x =>
      Do P (V (Instr.loadAt 27 a9)) fun t40_101 =>
      Do P (vCall (.func (.func 15) #[] ⟨[]⟩) [t40_101]) fun t41_102 =>
      Do P (vCall (.func (.func 25) #[] ⟨[]⟩) [t41_102]) fun t42_103 =>
      Do P (V (Instr.extract t42_103 0)) fun t43_104 =>
      Do P (V (Instr.extract t42_103 1)) fun t44_105 =>
      Do P (V (Instr.alloc 40 true (.tuple #[]))) fun r45 =>
      Do P (U (Instr.storeAt 40 r45 t43_104)) fun t46_x =>
      Dr <|
      Gd t29_92 true (
       Qk P (V (Instr.loadAt 40 p30)) fun C47 t47_108 =>
       Qk P (V (Instr.loadAt 40 (f4 16))) fun C48 t48_109 =>
       Qk P (V (EqG .eql 40 (.tmp 108) (.tmp 109) t47_108 t48_109)) fun C49 t49_110 =>
       Gd t49_110 true (
        Gd t37_99 true (
         Qk P (V (Instr.loadAt 40 q38)) fun C50 t50_116 =>
         Qk P (V (Instr.loadAt 40 z23)) fun C51 t51_117 =>
         Qk P (V (EqG .eql 40 (.tmp 116) (.tmp 117) t50_116 t51_117)) fun C52 t52_118 =>
         Gd t52_118 true (
          Gd t44_105 true (
           Qk P (V (Instr.loadAt 40 r45)) fun C53 t53_124 =>
           Qk P (V (Instr.loadAt 40 (f4 16))) fun C54 t54_125 =>
           Do P (vCall (.func (.func 26) #[] ⟨[]⟩) [t54_125]) fun t55_126 =>
           With C53 <|
           Qk P (V (EqG .eql 40 (.tmp 124) (.tmp 126) t53_124 t55_126)) fun C56 t56_127 =>
           Gd t56_127 true (
            K t3_20
           ) (
            K (.bool false)
           )
          ) (
           K (.bool false)
          )
         ) (
          K (.bool false)
         )
        ) (
         K (.bool false)
        )
       ) (
        K (.bool false)
       )
      ) (
       K (.bool false)
      )
     )
    ) fun k25 =>
    Dr <|
    Qk P (V (EqG .neq 42 (.tmp 69) (.const (.int .i64 0)) t22_68 (.int .i64 0))) fun C57 t57_70 =>
    Gd t57_70 false (
     Qk P (V (Instr.loadAt 27 a9)) fun C58 t58_72 =>
     Qk P (V (Instr.loadAt 27 b15)) fun C59 t59_73 =>
     Qk P (V (Instr.loadAt 40 (f4 16))) fun C60 t60_75 =>
     Qk P (V (Instr.loadAt 40 (f4 17))) fun C61 t61_76 =>
     Do P (vCall (.func (.func 12) #[] ⟨[]⟩) [t58_72, t59_73]) fun t62_74 =>
     With C61 <|
     With C60 <|
     Do P (vCall (.func (.func 24) #[] ⟨[]⟩) [t60_75, t61_76]) fun t63_77 =>
     Qk P (V (binOp .leq 3 t63_77 (.int .i64 0))) fun C64 t64_78 =>
     Qk P (V (EqG .neq 4 (.tmp 74) (.tmp 78) t62_74 t64_78)) fun C65 t65_79 =>
     Gd t65_79 false (
      Qk P (V (Instr.loadAt 27 a9)) fun C66 t66_82 =>
      Qk P (V (Instr.loadAt 27 a9)) fun C67 t67_84 =>
      Do P (vCall (.func (.func 16) #[] ⟨[]⟩) [t66_82]) fun t68_83 =>
      With C67 <|
      Do P (vCall (.func (.func 19) #[] ⟨[]⟩) [t68_83, t67_84]) fun t69_85 =>
      Qk P (V (Op.unary .not t69_85)) fun C70 t70_86 =>
      k25 t70_86
     ) (
      k25 (.bool true)
     )
    ) (
     k25 (.bool true)
    )
   )
  ) fun k17 =>
  Do P (V (EqG .neq 42 (.tmp 47) (.const (.int .i64 0)) t8_41 (.int .i64 0))) fun t71_48 =>
  Gd t71_48 false (
   Do P (V (EqG .neq 42 (.tmp 50) (.const (.int .i64 0)) t14_46 (.int .i64 0))) fun t72_51 =>
   Gd t72_51 false (
    Do P (V (Instr.loadAt 27 a9)) fun t73_54 =>
    Do P (vCall (.func (.func 17) #[] ⟨[]⟩) [t73_54]) fun t74_55 =>
    Do P (V (binOp .gtr 3 t74_55 (.int .i64 10))) fun t75_56 =>
    Gd t75_56 false (
     Do P (V (Instr.loadAt 27 b15)) fun t76_59 =>
     Do P (vCall (.func (.func 17) #[] ⟨[]⟩) [t76_59]) fun t77_60 =>
     Do P (V (binOp .gtr 3 t77_60 (.int .i64 10))) fun t78_61 =>
     k17 t78_61
    ) (
     k17 (.bool true)
    )
   ) (
    k17 (.bool true)
   )
  ) (
   k17 (.bool true)
  )
def A6 : Ann := .s (.n) (.s (.n) (.s (.all [(21, 0), (22, 1), (23, 2), (24, 3), (25, 4), (26, 5), (27, 6), (28, 7), (29, 8), (30, 9), (31, 10), (32, 11), (33, 12), (34, 13), (35, 14), (36, 15), (6, 16), (7, 17)]) (.s (.n) (.s (.n) (.s (.j [62] 9223231299366420480 (.n) (.s (.s (.n) (.n)) (.n))) (.s (.n) (.s (.j [87] 309484419525534710019129344 (.plan [(0, 8192, 590295810358705651712), (1, 590295810358705651712, 1180591620717411303424), (2, 1180591620717411303424, 2361183241434822606848), (4, 2361183241434822607104, 4722366482869645213696), (4, 2361183241434822607872, 9444732965739290427392), (28, 16528282690043758247936, 18889465931478580854784), (4, 2361183241434822606912, 37778931862957161709568), (4, 2361183241434822606976, 75557863725914323419136), (228, 115697978830306307735552, 151115727451828646838272), (260, 153476910693263469445120, 302231454903657293676544), (548, 323482104076570697138176, 604462909807314587353088), (1028, 606824093048749409959936, 1208925819614629174706176), (2304, 1208925819614629174706176, 2417851639229258349412352), (4096, 2417851639229258349412608, 4835703278458516698824704), (12288, 7253554917687775048237056, 9671406556917033397649408), (4096, 2417851639229258349412608, 19342813113834066795298816), (53248, 31432071309980358542360576, 38685626227668133590597632), (69632, 41103477866897391940009984, 77371252455336267181195264), (135168, 79789104094565525530607616, 154742504910672534362390528)] (.q 0 (.q 1 (.q 2 (.q 3 (.q 4 (.q 6 (.q 7 (.l 5 (.l 8 (.q 9 (.q 10 (.q 11 (.q 12 (.q 13 (.q 15 (.l 14 (.l 16 (.q 17 (.q 18 .done)))))))))))))))))))) (.s (.s (.n) (.n)) (.n))) (.s (.n) (.s (.n) (.s (.n) (.s (.plan [(0, 32768, 81129638414606681695789005144064), (1, 81129638414606681695789005144064, 162259276829213363391578010288128), (2, 162259276829213363391578010304512, 324518553658426726783156020576256), (2, 162259276829213363391578010288192, 649037107316853453566312041152512), (14, 1135814937804493543741046072016896, 1298074214633706907132624082305024), (18, 1460333491462920270524202092593152, 2596148429267413814265248164610048), (34, 2596148429267413814265248164610048, 5192296858534827628530496329220096), (64, 5192296858534827628530496329351168, 10384593717069655257060992658440192), (192, 15576890575604482885591488987660288, 20769187434139310514121985316880384), (320, 20769187434139310514121985316880384, 41538374868278621028243970633760768), (512, 41538374868278621028243970633826304, 83076749736557242056487941267521536), (512, 41538374868278621028243970633764864, 166153499473114484112975882535043072), (3584, 290768624077950347197707794436325376, 332306998946228968225951765070086144), (4608, 373845373814507589254195735703846912, 664613997892457936451903530140172288), (8704, 664613997892457936451903530140172288, 1329227995784915872903807060280344576), (16384, 1329227995784915872903807060280868864, 2658455991569831745807614120560689152), (49152, 3987683987354747618711421180841033728, 5316911983139663491615228241121378304), (81920, 5316911983139663491615228241121378304, 10633823966279326983230456482242756608), (131072, 10633823966279326983230456482243018752, 21267647932558653966460912964485513216), (131072, 10633823966279326983230456482242756672, 42535295865117307932921825928971026432), (655360, 53169119831396634916152282411213783040, 85070591730234615865843651857942052864), (1441792, 116972063629072596815535021304670322688, 170141183460469231731687303715884105728), (2228224, 180775007426748558714917760198126862336, 340282366920938463463374607431768211456), (5242880, 340282366920938463463374607431768211456, 680564733841876926926749214863536422912), (8388608, 680564733841876926926749214863536422944, 1361129467683753853853498429727072845824), (25165824, 2041694201525630780780247644590609268736, 2722258935367507707706996859454145691648), (67108863, 2722258935367507707706996859454145691648, 16)] (.q 0 (.q 1 (.q 2 (.q 3 (.q 4 (.q 5 (.q 6 (.q 7 (.q 8 (.q 9 (.q 10 (.q 11 (.q 12 (.q 13 (.q 14 (.q 15 (.q 16 (.q 17 (.q 18 (.q 19 (.l 20 (.q 21 (.q 22 (.q 23 (.q 24 (.q 25 (.q 26 .done)))))))))))))))))))))))))))) (.n))))))))))))
set_option maxRecDepth 100000 in
theorem c6 (arg0 arg1 : Value) (K : Value → WP) (w : World) (h : s6 Try.prog arg0 arg1 K w) : Runs Try.prog 6 [arg0, arg1] K w :=
  runs_of_E wide (fn := Try.f6) (c := Try.f6.body.getD .skip) 132 A6 [arg0, arg1] w K Try.func6 (by kernel_rfl) (by kernel_rfl) (by kernel_rfl) (by kernel_rfl)
    (Eq.mp (by kernel_rfl : s6 Try.prog arg0 arg1 K w = E Try.prog (Try.f6.body.getD .skip) A6 (topK Try.prog K Try.f6.results) (fun i => (([arg0, arg1] : List Value)[i]?).getD undef) w) h)
theorem ct6 {arg0 arg1 : Value} {h : Hp} {post : Hp → Value → Prop} (hg : ∀ w0, Gs w0 h h [] (s6 Try.prog arg0 arg1 (RetP w0 h post))) : Ct Try.prog 6 [arg0, arg1] h post := Ct.of (sf := s6 Try.prog arg0 arg1) (c6 arg0 arg1) hg
theorem in6 {arg0 arg1 : Value} {S : WP} {K : Value → WP} (hg : G S (s6 Try.prog arg0 arg1 K)) : G S (Do Try.prog (vCall (.func (.func 6) #[] ⟨[]⟩) [arg0, arg1]) K) := Gs.into (args := [arg0, arg1]) (caps := []) (sf := s6 Try.prog arg0 arg1) (c6 arg0 arg1) hg

/- skewer/skewerlaw20.ValueWinners : names 0 l, 1 l, 3 up, 4 f, 5 left, 6 right, 7 more, 8 less -/
def s7 (P : Program) (arg0 : Value) (K : Value → WP) : WP :=
  Do P (vCall (.func (.func 10) #[] ⟨[]⟩) []) fun t1_9 =>
  Do P (vCall (.func (.func 11) #[] ⟨[]⟩) [arg0, (.int .i64 14)]) fun t2_11 =>
  Do P (V (Instr.alloc 27 true (.tuple #[]))) fun f3 =>
  Do P (U (Instr.storeAt 27 f3 t2_11)) fun t4_x =>
  Dr <|
  Qk P (V (Instr.loadAt 27 f3)) fun C5 t5_12 =>
  Qk P (V (Instr.loadAt 27 f3)) fun C6 t6_14 =>
  Do P (vCall (.func (.func 27) #[] ⟨[]⟩) [t5_12, (.int .i64 0)]) fun t7_13 =>
  With C6 <|
  Do P (vCall (.func (.func 27) #[] ⟨[]⟩) [t6_14, (.int .i64 1)]) fun t8_15 =>
  Jn (α := Value) (fun j9 => Jk fun _ => -- t27
   If j9 (
    K (.bool false)
   ) (
    Dr <|
    Qk P (vBuild 27 []) fun C10 t10_28 =>
    Qk P (V (Instr.loadAt 27 f3)) fun C11 t11_29 =>
    Qk P (V (Instr.loadAt 27 f3)) fun C12 t12_31 =>
    Qk P (vBuild 27 []) fun C13 t13_32 =>
    Do P (vCall (.func (.func 12) #[] ⟨[]⟩) [t10_28, t11_29]) fun t14_30 =>
    With C13 <|
    With C12 <|
    Do P (vCall (.func (.func 12) #[] ⟨[]⟩) [t12_31, t13_32]) fun t15_33 =>
    Do P (V (EqG .eql 3 (.tmp 34) (.const (.int .i64 0)) t8_15 (.int .i64 0))) fun t16_35 =>
    Do P (V (EqG .eql 4 (.tmp 35) (.tmp 36) t16_35 t14_30)) fun t17_37 =>
    Gd t17_37 true (
     Do P (V (EqG .eql 3 (.tmp 39) (.const (.int .i64 1)) t7_13 (.int .i64 1))) fun t18_40 =>
     Do P (V (EqG .eql 4 (.tmp 40) (.tmp 41) t18_40 t15_33)) fun t19_42 =>
     Gd t19_42 true (
      K t1_9
     ) (
      K (.bool false)
     )
    ) (
     K (.bool false)
    )
   )
  ) fun k9 =>
  Do P (V (EqG .eql 3 (.tmp 16) (.const (.int .i64 0)) t7_13 (.int .i64 0))) fun t20_17 =>
  Do P (V (Instr.loadAt 27 f3)) fun t21_18 =>
  Do P (vCall (.func (.func 28) #[] ⟨[]⟩) [t21_18, (.int .i64 0)]) fun t22_19 =>
  Do P (V (EqG .neq 4 (.tmp 17) (.tmp 19) t20_17 t22_19)) fun t23_20 =>
  Gd t23_20 false (
   Do P (V (EqG .eql 3 (.tmp 22) (.const (.int .i64 1)) t8_15 (.int .i64 1))) fun t24_23 =>
   Do P (V (Instr.loadAt 27 f3)) fun t25_24 =>
   Do P (vCall (.func (.func 28) #[] ⟨[]⟩) [t25_24, (.int .i64 1)]) fun t26_25 =>
   Do P (V (EqG .neq 4 (.tmp 23) (.tmp 25) t24_23 t26_25)) fun t27_26 =>
   k9 t27_26
  ) (
   k9 (.bool true)
  )
def A7 : Ann := .s (.n) (.s (.n) (.s (.n) (.s (.plan [(0, 16, 4096), (1, 4096, 8192), (0, 16, 16384), (6, 16384, 32768), (11, 8192, 32), (31, 32768, 64)] (.q 0 (.q 2 (.l 1 (.l 3 (.q 4 (.q 5 .done))))))) (.s (.j [27] 268369920 (.n) (.s (.s (.n) (.n)) (.n))) (.s (.plan [(0, 0, 268435456), (0, 16, 536870912), (3, 805306368, 1073741824), (0, 16, 2147483648), (0, 0, 4294967296), (28, 6442450944, 8589934592), (39, 1073741824, 128), (127, 8589934592, 256)] (.q 0 (.q 1 (.q 3 (.q 4 (.l 2 (.l 5 (.q 6 (.q 7 .done))))))))) (.s (.n) (.n)))))))
set_option maxRecDepth 100000 in
theorem c7 (arg0 : Value) (K : Value → WP) (w : World) (h : s7 Try.prog arg0 K w) : Runs Try.prog 7 [arg0] K w :=
  runs_of_E wide (fn := Try.f7) (c := Try.f7.body.getD .skip) 47 A7 [arg0] w K Try.func7 (by kernel_rfl) (by kernel_rfl) (by kernel_rfl) (by kernel_rfl)
    (Eq.mp (by kernel_rfl : s7 Try.prog arg0 K w = E Try.prog (Try.f7.body.getD .skip) A7 (topK Try.prog K Try.f7.results) (fun i => (([arg0] : List Value)[i]?).getD undef) w) h)
theorem ct7 {arg0 : Value} {h : Hp} {post : Hp → Value → Prop} (hg : ∀ w0, Gs w0 h h [] (s7 Try.prog arg0 (RetP w0 h post))) : Ct Try.prog 7 [arg0] h post := Ct.of (sf := s7 Try.prog arg0) (c7 arg0) hg
theorem in7 {arg0 : Value} {S : WP} {K : Value → WP} (hg : G S (s7 Try.prog arg0 K)) : G S (Do Try.prog (vCall (.func (.func 7) #[] ⟨[]⟩) [arg0]) K) := Gs.into (args := [arg0]) (caps := []) (sf := s7 Try.prog arg0) (c7 arg0) hg

/- skewer/skewerlaw20.ValueTexts : names 0 l, 1 m, 2 l, 3 m, 5 up, 6 a, 7 b, 8 neg, 9 other -/
def s8 (P : Program) (arg0 arg1 : Value) (K : Value → WP) : WP :=
  Do P (vCall (.func (.func 10) #[] ⟨[]⟩) []) fun t1_10 =>
  Do P (vCall (.func (.func 11) #[] ⟨[]⟩) [arg0, (.int .i64 10)]) fun t2_12 =>
  Do P (vCall (.func (.func 11) #[] ⟨[]⟩) [arg1, (.int .i64 10)]) fun t3_14 =>
  Do P (V (Instr.alloc 27 true (.tuple #[]))) fun a4 =>
  Do P (V (Instr.alloc 27 true (.tuple #[]))) fun b5 =>
  Do P (U (Instr.storeAt 27 a4 t2_12)) fun t6_x =>
  Do P (U (Instr.storeAt 27 b5 t3_14)) fun t7_x =>
  Dr <|
  AllO [
   ([], fun f8 K => Do P (V (Instr.loadAt 27 a4)) K),
   ([0], fun f8 K => Do P (vCall (.func (.func 15) #[] ⟨[]⟩) [(f8 0)]) K),
   ([], fun f8 K => Do P (V (Instr.loadAt 27 b5)) K),
   ([2, 1], fun f8 K => Do P (vCall (.func (.func 15) #[] ⟨[]⟩) [(f8 2)]) K),
   ([], fun f8 K => Do P (V (Instr.alloc 27 true (.tuple #[]))) K),
   ([], fun f8 K => Do P (V (Instr.alloc 27 true (.tuple #[]))) K),
   ([4, 1, 3, 0, 1, 4, 5], fun f8 K => Do P (U (Instr.storeAt 27 (f8 4) (f8 1))) K),
   ([5, 3, 6, 0, 1, 2, 3, 4, 5, 6], fun f8 K => Do P (U (Instr.storeAt 27 (f8 5) (f8 3))) K)
  ] fun f8 =>
  Jn (α := Value) (fun j9 => Jk fun _ => -- t44
   If j9 (
    K (.bool false)
   ) (
    Dr <|
    Qk P (V (Instr.loadAt 27 a4)) fun C10 t10_45 =>
    Qk P (V (Instr.loadAt 27 b5)) fun C11 t11_47 =>
    Qk P (V (Instr.loadAt 27 a4)) fun C12 t12_50 =>
    Qk P (V (Instr.loadAt 27 b5)) fun C13 t13_51 =>
    Do P (vCall (.func (.func 20) #[] ⟨[]⟩) [t10_45]) fun t14_46 =>
    With C13 <|
    With C12 <|
    With C11 <|
    Do P (vCall (.func (.func 20) #[] ⟨[]⟩) [t11_47]) fun t15_48 =>
    With C13 <|
    With C12 <|
    Qk P (V (EqG .eql 9 (.tmp 46) (.tmp 48) t14_46 t15_48)) fun C16 t16_49 =>
    Do P (vCall (.func (.func 29) #[] ⟨[]⟩) [t12_50, t13_51]) fun t17_52 =>
    With C16 <|
    Qk P (V (EqG .eql 4 (.tmp 49) (.tmp 52) t16_49 t17_52)) fun C18 t18_53 =>
    Gd t18_53 true (
     Qk P (V (Instr.loadAt 27 a4)) fun C19 t19_55 =>
     Qk P (V (Instr.loadAt 27 b5)) fun C20 t20_56 =>
     Qk P (V (Instr.loadAt 27 (f8 5))) fun C21 t21_58 =>
     Qk P (V (Instr.loadAt 27 (f8 4))) fun C22 t22_59 =>
     Do P (vCall (.func (.func 12) #[] ⟨[]⟩) [t19_55, t20_56]) fun t23_57 =>
     With C22 <|
     With C21 <|
     Do P (vCall (.func (.func 12) #[] ⟨[]⟩) [t21_58, t22_59]) fun t24_60 =>
     Qk P (V (EqG .eql 4 (.tmp 57) (.tmp 60) t23_57 t24_60)) fun C25 t25_61 =>
     Gd t25_61 true (
      K t1_10
     ) (
      K (.bool false)
     )
    ) (
     K (.bool false)
    )
   )
  ) fun k9 =>
  Dr <|
  Qk P (V (Instr.loadAt 27 (f8 4))) fun C26 t26_19 =>
  Qk P (V (Instr.loadAt 27 a4)) fun C27 t27_21 =>
  Do P (vCall (.func (.func 17) #[] ⟨[]⟩) [t26_19]) fun t28_20 =>
  With C27 <|
  Do P (vCall (.func (.func 17) #[] ⟨[]⟩) [t27_21]) fun t29_22 =>
  Qk P (V (EqG .neq 3 (.tmp 20) (.tmp 22) t28_20 t29_22)) fun C30 t30_23 =>
  Gd t30_23 false (
   Qk P (V (Instr.loadAt 27 (f8 5))) fun C31 t31_25 =>
   Qk P (V (Instr.loadAt 27 b5)) fun C32 t32_27 =>
   Do P (vCall (.func (.func 17) #[] ⟨[]⟩) [t31_25]) fun t33_26 =>
   With C32 <|
   Do P (vCall (.func (.func 17) #[] ⟨[]⟩) [t32_27]) fun t34_28 =>
   Qk P (V (EqG .neq 3 (.tmp 26) (.tmp 28) t33_26 t34_28)) fun C35 t35_29 =>
   Gd t35_29 false (
    Qk P (V (Instr.loadAt 27 (f8 4))) fun C36 t36_32 =>
    Qk P (V (Instr.loadAt 27 a4)) fun C37 t37_34 =>
    Do P (vCall (.func (.func 15) #[] ⟨[]⟩) [t36_32]) fun t38_33 =>
    With C37 <|
    Do P (vCall (.func (.func 29) #[] ⟨[]⟩) [t38_33, t37_34]) fun t39_35 =>
    Qk P (V (Op.unary .not t39_35)) fun C40 t40_36 =>
    Gd t40_36 false (
     Qk P (V (Instr.loadAt 27 (f8 4))) fun C41 t41_39 =>
     Qk P (V (Instr.loadAt 27 a4)) fun C42 t42_41 =>
     Do P (vCall (.func (.func 18) #[] ⟨[]⟩) [t41_39]) fun t43_40 =>
     With C42 <|
     Do P (vCall (.func (.func 18) #[] ⟨[]⟩) [t42_41]) fun t44_42 =>
     Qk P (V (EqG .neq 3 (.tmp 40) (.tmp 42) t43_40 t44_42)) fun C45 t45_43 =>
     k9 t45_43
    ) (
     k9 (.bool true)
    )
   ) (
    k9 (.bool true)
   )
  ) (
   k9 (.bool true)
  )
def A8 : Ann := .s (.n) (.s (.n) (.s (.n) (.s (.all [(15, 0), (16, 1), (17, 2), (18, 3), (8, 4), (9, 5)]) (.s (.j [44] 35184371564544 (.plan [(0, 256, 524288), (1, 524288, 1048576), (0, 64, 2097152), (6, 2097152, 4194304), (10, 5242880, 8388608), (24, 8388608, 16777216), (32, 16777728, 33554432), (96, 50331648, 67108864), (32, 16777344, 134217728), (416, 150994944, 268435456), (672, 352321536, 536870912), (1056, 553648128, 1073741824), (2560, 1073741824, 2147483648), (4096, 2147483904, 4294967296), (12288, 6442450944, 8589934592), (4096, 2147483712, 17179869184), (53248, 27917287424, 34359738368), (69632, 36507222016, 68719476736), (135168, 70866960384, 137438953472), (327680, 137438953472, 274877906944), (524288, 274877907200, 549755813888), (1572864, 824633720832, 1099511627776), (524288, 274877907008, 2199023255552), (6815744, 2473901162496, 4398046511104), (11010048, 5772436045824, 8796093022208), (17301504, 9070970929152, 17592186044416)] (.q 0 (.q 2 (.l 1 (.l 3 (.q 4 (.q 5 (.q 6 (.q 8 (.l 7 (.l 9 (.q 10 (.q 11 (.q 12 (.q 13 (.q 15 (.l 14 (.l 16 (.q 17 (.q 18 (.q 19 (.q 20 (.q 22 (.l 21 (.l 23 (.q 24 (.q 25 .done))))))))))))))))))))))))))) (.s (.s (.n) (.n)) (.n))) (.s (.plan [(0, 64, 35184372088832), (1, 35184372088832, 70368744177664), (0, 128, 140737488355328), (6, 140737488355328, 281474976710656), (10, 351843720888320, 562949953421312), (0, 64, 1125899906842624), (0, 128, 2251799813685248), (104, 3377699720527872, 4503599627370496), (144, 5066549580791808, 9007199254740992), (384, 9007199254740992, 18014398509481984), (512, 18014398509482048, 36028797018963968), (512, 18014398509482112, 72057594037927936), (3584, 126100789566373888, 144115188075855872), (512, 18014398509482496, 288230376151711744), (512, 18014398509482240, 576460752303423488), (29184, 882705526964617216, 1152921504606846976), (37376, 1315051091192184832, 2305843009213693952), (66048, 2323857407723175936, 4611686018427387904), (163840, 4611686018427387904, 9223372036854775808), (262144, 9223372036854775840, 18446744073709551616), (786432, 27670116110564327424, 36893488147419103232), (2097151, 36893488147419103232, 16)] (.q 0 (.q 2 (.q 5 (.q 6 (.l 1 (.l 3 (.q 4 (.l 7 (.q 8 (.q 9 (.q 10 (.q 11 (.q 13 (.q 14 (.l 12 (.l 15 (.q 16 (.q 17 (.q 18 (.q 19 (.q 20 (.q 21 .done))))))))))))))))))))))) (.n))))))
set_option maxRecDepth 100000 in
theorem c8 (arg0 arg1 : Value) (K : Value → WP) (w : World) (h : s8 Try.prog arg0 arg1 K w) : Runs Try.prog 8 [arg0, arg1] K w :=
  runs_of_E wide (fn := Try.f8) (c := Try.f8.body.getD .skip) 66 A8 [arg0, arg1] w K Try.func8 (by kernel_rfl) (by kernel_rfl) (by kernel_rfl) (by kernel_rfl)
    (Eq.mp (by kernel_rfl : s8 Try.prog arg0 arg1 K w = E Try.prog (Try.f8.body.getD .skip) A8 (topK Try.prog K Try.f8.results) (fun i => (([arg0, arg1] : List Value)[i]?).getD undef) w) h)
theorem ct8 {arg0 arg1 : Value} {h : Hp} {post : Hp → Value → Prop} (hg : ∀ w0, Gs w0 h h [] (s8 Try.prog arg0 arg1 (RetP w0 h post))) : Ct Try.prog 8 [arg0, arg1] h post := Ct.of (sf := s8 Try.prog arg0 arg1) (c8 arg0 arg1) hg
theorem in8 {arg0 arg1 : Value} {S : WP} {K : Value → WP} (hg : G S (s8 Try.prog arg0 arg1 K)) : G S (Do Try.prog (vCall (.func (.func 8) #[] ⟨[]⟩) [arg0, arg1]) K) := Gs.into (args := [arg0, arg1]) (caps := []) (sf := s8 Try.prog arg0 arg1) (c8 arg0 arg1) hg

/- skewer/skewerlaw20.ValueLimits : names 0 n, 1 exp, 2 n, 3 exp, 5 up, 6 m, 7 f, 8 e, 9 fits, 10 x, 11 size, 12 g, 13 h, 14 y, 15 is -/
def s9 (P : Program) (arg0 arg1 : Value) (K : Value → WP) : WP :=
  Do P (vCall (.func (.func 10) #[] ⟨[]⟩) []) fun t1_16 =>
  Do P (V (convert 55 3 arg0)) fun t2_18 =>
  Do P (V (binOp .rem 3 t2_18 (.int .i64 2101))) fun t3_19 =>
  Do P (vBuild 40 [(0, t3_19)]) fun t4_22 =>
  Do P (vCall (.func (.func 22) #[] ⟨[]⟩) [t4_22]) fun t5_23 =>
  Do P (V (Instr.extract t5_23 0)) fun t6_24 =>
  Do P (V (Instr.extract t5_23 1)) fun t7_25 =>
  Do P (V (Instr.alloc 27 true (.tuple #[]))) fun f8 =>
  Do P (U (Instr.storeAt 27 f8 t6_24)) fun t9_x =>
  Jn (α := Value) (fun j10 => Jk fun _ => -- fits
   Jn (α := Value) (fun j11 => Jk fun _ => -- t61
    If j11 (
     K (.bool false)
    ) (
     Do P (V (convert 55 3 arg0)) fun t12_63 =>
     Do P (V (binOp .rem 3 t12_63 (.int .i64 400))) fun t13_64 =>
     Do P (V (binOp .mul 3 (.int .i64 2) t13_64)) fun t14_65 =>
     Do P (V (binOp .add 3 t14_65 (.int .i64 1))) fun t15_66 =>
     Do P (V (convert 5 3 arg1)) fun t16_68 =>
     Do P (V (binOp .rem 3 t16_68 (.int .i64 9))) fun t17_69 =>
     Do P (V (binOp .add 3 (.int .i64 1) t17_69)) fun t18_70 =>
     Do P (vBuild 40 [(0, t15_66), (1, t18_70)]) fun t19_71 =>
     Do P (V (Instr.alloc 40 true (.tuple #[]))) fun x20 =>
     Do P (U (Instr.storeAt 40 x20 t19_71)) fun t21_x =>
     Do P (V (Instr.loadAt 40 x20)) fun t22_72 =>
     Do P (vCall (.func (.func 31) #[] ⟨[]⟩) [t22_72, (.int .i64 2000)]) fun t23_73 =>
     Do P (V (Instr.loadAt 40 x20)) fun t24_75 =>
     Do P (vCall (.func (.func 22) #[] ⟨[]⟩) [t24_75]) fun t25_76 =>
     Do P (V (Instr.extract t25_76 0)) fun t26_77 =>
     Do P (V (Instr.extract t25_76 1)) fun t27_78 =>
     Do P (V (Instr.alloc 27 true (.tuple #[]))) fun g28 =>
     Do P (U (Instr.storeAt 27 g28 t26_77)) fun t29_x =>
     Do P (V (EqG .eql 42 (.tmp 79) (.const (.int .i64 0)) t27_78 (.int .i64 0))) fun t30_80 =>
     Do P (V (binOp .leq 3 t23_73 (.int .i64 2000))) fun t31_82 =>
     Do P (V (EqG .neq 4 (.tmp 80) (.tmp 82) t30_80 t31_82)) fun t32_83 =>
     If t32_83 (
      K (.bool false)
     ) (
      Do P (V (EqG .neq 42 (.tmp 84) (.const (.int .i64 0)) t27_78 (.int .i64 0))) fun t33_85 =>
      If t33_85 (
       Do P (V (EqG .eql 42 (.tmp 86) (.const (.int .i64 2)) t27_78 (.int .i64 2))) fun t34_87 =>
       Gd t34_87 true (
        Do P (V (Instr.loadAt 27 g28)) fun t35_89 =>
        Do P (vCall (.func (.func 30) #[] ⟨[]⟩) [t35_89]) fun t36_90 =>
        Gd t36_90 true (
         K t1_16
        ) (
         K (.bool false)
        )
       ) (
        K (.bool false)
       )
      ) (
       Do P (V (Instr.loadAt 27 g28)) fun t37_96 =>
       Do P (vCall (.func (.func 25) #[] ⟨[]⟩) [t37_96]) fun t38_97 =>
       Do P (V (Instr.extract t38_97 0)) fun t39_98 =>
       Do P (V (Instr.extract t38_97 1)) fun t40_99 =>
       Do P (V (Instr.alloc 40 true (.tuple #[]))) fun y41 =>
       Do P (U (Instr.storeAt 40 y41 t39_98)) fun t42_x =>
       Do P (V (Instr.loadAt 27 g28)) fun t43_100 =>
       Do P (vCall (.func (.func 17) #[] ⟨[]⟩) [t43_100]) fun t44_101 =>
       Do P (V (EqG .eql 3 (.tmp 101) (.tmp 102) t44_101 t23_73)) fun t45_103 =>
       Gd t45_103 true (
        Gd t40_99 true (
         Do P (V (Instr.loadAt 40 y41)) fun t46_108 =>
         Do P (V (Instr.loadAt 40 x20)) fun t47_109 =>
         Do P (V (EqG .eql 40 (.tmp 108) (.tmp 109) t46_108 t47_109)) fun t48_110 =>
         Gd t48_110 true (
          K t1_16
         ) (
          K (.bool false)
         )
        ) (
         K (.bool false)
        )
       ) (
        K (.bool false)
       )
      )
     )
    )
   ) fun k11 =>
   Do P (V (EqG .eql 42 (.tmp 33) (.const (.int .i64 0)) t7_25 (.int .i64 0))) fun t49_34 =>
   Do P (V (EqG .neq 4 (.tmp 32) (.tmp 34) j10 t49_34)) fun t50_35 =>
   Gd t50_35 false (
    Do P (V (Op.unary .not j10)) fun t51_38 =>
    Gd t51_38 true (
     Do P (V (EqG .neq 42 (.tmp 40) (.const (.int .i64 2)) t7_25 (.int .i64 2))) fun t52_41 =>
     Gd t52_41 false (
      Do P (V (Instr.loadAt 27 f8)) fun t53_43 =>
      Do P (vCall (.func (.func 30) #[] ⟨[]⟩) [t53_43]) fun t54_44 =>
      Do P (V (Op.unary .not t54_44)) fun t55_45 =>
      Gd t55_45 false (
       Gd j10 true (
        Do P (V (Instr.loadAt 27 f8)) fun t56_52 =>
        Do P (vCall (.func (.func 17) #[] ⟨[]⟩) [t56_52]) fun t57_53 =>
        Do P (V (binOp .sub 3 (.int .i64 0) t3_19)) fun t58_56 =>
        Do P (vBuiltin .max #[3, 3] 3 [t3_19, t58_56]) fun t59_57 =>
        Do P (V (binOp .add 3 t59_57 (.int .i64 1))) fun t60_58 =>
        Do P (V (EqG .neq 3 (.tmp 53) (.tmp 58) t57_53 t60_58)) fun t61_59 =>
        k11 t61_59
       ) (
        k11 (.bool false)
       )
      ) (
       k11 (.bool true)
      )
     ) (
      k11 (.bool true)
     )
    ) (
     Gd j10 true (
      Do P (V (Instr.loadAt 27 f8)) fun t62_52 =>
      Do P (vCall (.func (.func 17) #[] ⟨[]⟩) [t62_52]) fun t63_53 =>
      Do P (V (binOp .sub 3 (.int .i64 0) t3_19)) fun t64_56 =>
      Do P (vBuiltin .max #[3, 3] 3 [t3_19, t64_56]) fun t65_57 =>
      Do P (V (binOp .add 3 t65_57 (.int .i64 1))) fun t66_58 =>
      Do P (V (EqG .neq 3 (.tmp 53) (.tmp 58) t63_53 t66_58)) fun t67_59 =>
      k11 t67_59
     ) (
      k11 (.bool false)
     )
    )
   ) (
    k11 (.bool true)
   )
  ) fun k10 =>
  Do P (V (binOp .geq 3 t3_19 (.int .i64 (-1999)))) fun t68_27 =>
  Gd t68_27 true (
   Do P (V (binOp .leq 3 t3_19 (.int .i64 1999))) fun t69_30 =>
   k10 t69_30
  ) (
   k10 (.bool false)
  )
def A9 : Ann := .s (.n) (.s (.n) (.s (.n) (.s (.n) (.j [9] 4227858944 (.n) (.s (.j [61] 4611686014132420608 (.n) (.s (.s (.n) (.n)) (.n))) (.s (.n) (.s (.n) (.s (.n) (.s (.s (.n) (.s (.s (.n) (.n)) (.n))) (.s (.s (.n) (.s (.s (.n) (.n)) (.n))) (.s (.n) (.s (.n) (.n)))))))))))))
set_option maxRecDepth 100000 in
theorem c9 (arg0 arg1 : Value) (K : Value → WP) (w : World) (h : s9 Try.prog arg0 arg1 K w) : Runs Try.prog 9 [arg0, arg1] K w :=
  runs_of_E wide (fn := Try.f9) (c := Try.f9.body.getD .skip) 115 A9 [arg0, arg1] w K Try.func9 (by kernel_rfl) (by kernel_rfl) (by kernel_rfl) (by kernel_rfl)
    (Eq.mp (by kernel_rfl : s9 Try.prog arg0 arg1 K w = E Try.prog (Try.f9.body.getD .skip) A9 (topK Try.prog K Try.f9.results) (fun i => (([arg0, arg1] : List Value)[i]?).getD undef) w) h)
theorem ct9 {arg0 arg1 : Value} {h : Hp} {post : Hp → Value → Prop} (hg : ∀ w0, Gs w0 h h [] (s9 Try.prog arg0 arg1 (RetP w0 h post))) : Ct Try.prog 9 [arg0, arg1] h post := Ct.of (sf := s9 Try.prog arg0 arg1) (c9 arg0 arg1) hg
theorem in9 {arg0 arg1 : Value} {S : WP} {K : Value → WP} (hg : G S (s9 Try.prog arg0 arg1 K)) : G S (Do Try.prog (vCall (.func (.func 9) #[] ⟨[]⟩) [arg0, arg1]) K) := Gs.into (args := [arg0, arg1]) (caps := []) (sf := s9 Try.prog arg0 arg1) (c9 arg0 arg1) hg

end Go.Proofs.Ytgdochemlbjnlaa
