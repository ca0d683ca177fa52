/-
  Lemmas for the proof of the statement of this claim: a part of the road, no statement of its own. Conditions: those that each lemma names.
-/
import Derived.Test.YtcmokdokcghooaaGreatDoorKs
section
/-
  The shallow forms of functions of the program, printed by a program of the prover; and what the types are.
-/
set_option linter.unusedVariables false
set_option maxRecDepth 100000
namespace Go.Proofs.YtcmokdokcghooaaGreatDoor
open Go Go.Sk
variable {M : Go.Sk.Mode}

/- slices.CompactFunc[[]skewer/api.Pos,skewer/api.Pos] : names 0 s, 1 eq, 2 s, 3 eq, 5 k, 6 s2, 7 k2 -/
def s54 (P : Program) (arg0 arg1 : Value) (K : Value → WP) : WP :=
  Do P (vBuiltin .len #[64] 3 [arg0]) fun t1_9 =>
  Do P (V (binOp .lss 3 t1_9 (.int .i64 2))) fun t2_10 =>
  If t2_10 (
   K arg0
  ) (
   Lp (α := Value) (fun c3 s3 => Jk fun _ => -- k
    Do P (vBuiltin .len #[64] 3 [arg0]) fun t4_14 =>
    Do P (V (binOp .lss 3 s3 t4_14)) fun t5_15 =>
    If t5_15 (
     Dr <|
     Qk P (V (Instr.indexAt 64 arg0 s3)) fun C6 t6_21 =>
     Qk P (V (Instr.loadAt 44 t6_21)) fun C7 t7_22 =>
     Qk P (V (binOp .sub 3 s3 (.int .i64 1))) fun C8 t8_25 =>
     Qk P (V (Instr.indexAt 64 arg0 t8_25)) fun C9 t9_26 =>
     Qk P (V (Instr.loadAt 44 t9_26)) fun C10 t10_27 =>
     Do P (vCall arg1 [t7_22, t10_27]) fun t11_28 =>
     If t11_28 (
      Do P (V (Instr.sliceAt 64 arg0 (some s3) none none)) fun t12_31 =>
      Lp (α := Value × Value) (fun c13 s13 => Jk fun _ => -- k k2
       Do P (vBuiltin .len #[64] 3 [t12_31]) fun t14_34 =>
       Do P (V (binOp .lss 3 s13.2 t14_34)) fun t15_35 =>
       If t15_35 (
        Jn (α := Value) (fun j16 => Jk fun _ => -- k
         Do P (V (binOp .add 3 s13.2 (.int .i64 1))) fun t17_37 =>
         c13 (j16, t17_37)
        ) fun k16 =>
        Dr <|
        Qk P (V (Instr.indexAt 64 t12_31 s13.2)) fun C18 t18_41 =>
        Qk P (V (Instr.loadAt 44 t18_41)) fun C19 t19_42 =>
        Qk P (V (binOp .sub 3 s13.2 (.int .i64 1))) fun C20 t20_45 =>
        Qk P (V (Instr.indexAt 64 t12_31 t20_45)) fun C21 t21_46 =>
        Qk P (V (Instr.loadAt 44 t21_46)) fun C22 t22_47 =>
        Do P (vCall arg1 [t19_42, t22_47]) fun t23_48 =>
        Qk P (V (Op.unary .not t23_48)) fun C24 t24_49 =>
        If t24_49 (
         Do P (V (Instr.indexAt 64 t12_31 s13.2)) fun t25_54 =>
         Do P (V (Instr.loadAt 44 t25_54)) fun t26_55 =>
         Do P (V (Instr.indexAt 64 arg0 s13.1)) fun t27_56 =>
         Do P (U (Instr.storeAt 44 t27_56 t26_55)) fun t28_x =>
         Do P (V (binOp .add 3 s13.1 (.int .i64 1))) fun t29_58 =>
         k16 t29_58
        ) (
         k16 s13.1
        )
       ) (
        Do P (V (Instr.sliceAt 64 arg0 (some s13.1) none none)) fun t30_61 =>
        Do P (vBuiltin .clear #[64] 0 [t30_61]) fun t31_x =>
        Do P (V (Instr.sliceAt 64 arg0 none (some s13.1) none)) fun t32_64 =>
        K t32_64
       )
      ) (s3, (.int .i64 1))
     ) (
      Do P (V (binOp .add 3 s3 (.int .i64 1))) fun t33_17 =>
      c3 t33_17
     )
    ) (
     K arg0
    )
   ) (.int .i64 1)
  )
def A54 : Ann := .s (.n) (.s (.s (.n) (.s (.s (.n) (.n)) (.n))) (.s (.s (.n) (.lp [5] 36893488147419099376 (.s (.s (.n) (.s (.n) (.n))) (.s (.s (.plan [(0, 2, 262144), (0, 1, 524288), (0, 32, 1048576), (6, 1572864, 2097152), (8, 2097152, 4194304), (0, 1, 8388608), (0, 32, 16777216), (64, 16777216, 33554432), (160, 41943040, 67108864), (256, 67108864, 134217728), (529, 138674176, 268435456)] (.q 0 (.q 1 (.q 2 (.q 3 (.q 4 (.q 5 (.q 6 (.q 7 (.q 8 (.q 9 (.l 10 .done)))))))))))) (.s (.s (.n) (.s (.s (.n) (.lp [5, 7] 576460748008456352 (.s (.s (.n) (.s (.n) (.n))) (.j [5] 576460477425516576 (.s (.plan [(0, 2, 274877906944), (0, 64, 549755813888), (0, 128, 1099511627776), (6, 1649267441664, 2199023255552), (8, 2199023255552, 4398046511104), (0, 64, 8796093022208), (0, 128, 17592186044416), (64, 17592186044416, 35184372088832), (160, 43980465111040, 70368744177664), (256, 70368744177664, 140737488355328), (529, 145410412773376, 281474976710656), (1024, 281474976710656, 562949953421312)] (.q 0 (.q 1 (.q 2 (.q 3 (.q 4 (.q 5 (.q 6 (.q 7 (.q 8 (.q 9 (.l 10 (.q 11 .done))))))))))))) (.s (.s (.n) (.n)) (.n))) (.n))))) (.s (.n) (.s (.n) (.n))))) (.n))) (.n))))) (.s (.n) (.n))))
set_option maxRecDepth 100000 in
theorem c54 (arg0 arg1 : Value) (K : Value → WP) (w : World) (h : s54 Tryz.prog arg0 arg1 K w) : Runs Tryz.prog 54 [arg0, arg1] K w :=
  runs_of_E wide (fn := Tryz.f54) (c := Tryz.f54.body.getD .skip) 66 A54 [arg0, arg1] w K Tryz.func54 (by kernel_rfl) (by kernel_rfl) (by kernel_rfl) (by kernel_rfl)
    (Eq.mp (by kernel_rfl : s54 Tryz.prog arg0 arg1 K w = E Tryz.prog (Tryz.f54.body.getD .skip) A54 (topK Tryz.prog K Tryz.f54.results) (fun i => (([arg0, arg1] : List Value)[i]?).getD undef) w) h)
theorem ct54 {arg0 arg1 : Value} {h : Hp} {post : Hp → Value → Prop} (hg : ∀ w0, Gs w0 h h [] (s54 Tryz.prog arg0 arg1 (RetP w0 h post))) : Ct Tryz.prog 54 [arg0, arg1] h post := Ct.of (sf := s54 Tryz.prog arg0 arg1) (c54 arg0 arg1) hg
theorem in54 {arg0 arg1 : Value} {S : WP} {K : Value → WP} (hg : G S (s54 Tryz.prog arg0 arg1 K)) : G S (Do Tryz.prog (vCall (.func (.func 54) #[] ⟨[]⟩) [arg0, arg1]) K) := Gs.into (args := [arg0, arg1]) (caps := []) (sf := s54 Tryz.prog arg0 arg1) (c54 arg0 arg1) hg

/- skewer/pos.Sort$1 : names 0 p, 1 q, 2 p, 3 q -/
def s55 (P : Program) (arg0 arg1 : Value) (K : Value → WP) : WP :=
  Do P (V (Instr.box 44 arg0)) fun p1 =>
  Do P (V (Instr.box 44 arg1)) fun q2 =>
  Do P (V (Instr.loadAt 44 p1)) fun t3_5 =>
  Do P (V (Instr.loadAt 44 q2)) fun t4_6 =>
  Do P (vCall (.func (.func 24) #[] ⟨[]⟩) [t3_5, t4_6]) fun t5_7 =>
  Do P (V (EqG .eql 3 (.tmp 7) (.const (.int .i64 0)) t5_7 (.int .i64 0))) fun t6_8 =>
  K t6_8
def A55 : Ann := .s (.n) (.s (.n) (.n))
set_option maxRecDepth 100000 in
theorem c55 (arg0 arg1 : Value) (K : Value → WP) (w : World) (h : s55 Tryz.prog arg0 arg1 K w) : Runs Tryz.prog 55 [arg0, arg1] K w :=
  runs_of_E wide (fn := Tryz.f55) (c := Tryz.f55.body.getD .skip) 9 A55 [arg0, arg1] w K Tryz.func55 (by kernel_rfl) (by kernel_rfl) (by kernel_rfl) (by kernel_rfl)
    (Eq.mp (by kernel_rfl : s55 Tryz.prog arg0 arg1 K w = E Tryz.prog (Tryz.f55.body.getD .skip) A55 (topK Tryz.prog K Tryz.f55.results) (fun i => (([arg0, arg1] : List Value)[i]?).getD undef) w) h)
theorem ct55 {arg0 arg1 : Value} {h : Hp} {post : Hp → Value → Prop} (hg : ∀ w0, Gs w0 h h [] (s55 Tryz.prog arg0 arg1 (RetP w0 h post))) : Ct Tryz.prog 55 [arg0, arg1] h post := Ct.of (sf := s55 Tryz.prog arg0 arg1) (c55 arg0 arg1) hg
theorem in55 {arg0 arg1 : Value} {S : WP} {K : Value → WP} (hg : G S (s55 Tryz.prog arg0 arg1 K)) : G S (Do Tryz.prog (vCall (.func (.func 55) #[] ⟨[]⟩) [arg0, arg1]) K) := Gs.into (args := [arg0, arg1]) (caps := []) (sf := s55 Tryz.prog arg0 arg1) (c55 arg0 arg1) hg

/- cmp.Or[int] : names 0 vals, 1 vals, 3 zero, 4 _, 5 val -/
def s56 (P : Program) (arg0 : Value) (K : Value → WP) : WP :=
  Do P (vBuiltin .len #[33] 3 [arg0]) fun t1_7 =>
  Lp (α := Value) (fun c2 s2 => Jk fun _ => -- t8
   Do P (V (binOp .lss 3 s2 t1_7)) fun t3_9 =>
   If t3_9 (
    Do P (V (Instr.indexAt 33 arg0 s2)) fun t4_10 =>
    Do P (V (Instr.loadAt 3 t4_10)) fun t5_11 =>
    Do P (V (EqG .neq 3 (.tmp 12) (.tmp 13) t5_11 (.int .i64 0))) fun t6_14 =>
    If t6_14 (
     K t5_11
    ) (
     Do P (V (binOp .add 3 s2 (.int .i64 1))) fun t7_16 =>
     c2 t7_16
    )
   ) (
    K (.int .i64 0)
   )
  ) (.int .i64 0)
def A56 : Ann := .s (.n) (.s (.n) (.s (.s (.n) (.lp [8] 130852 (.s (.n) (.s (.s (.n) (.n)) (.s (.s (.n) (.s (.n) (.s (.s (.n) (.n)) (.n)))) (.n)))))) (.s (.n) (.n))))
set_option maxRecDepth 100000 in
theorem c56 (arg0 : Value) (K : Value → WP) (w : World) (h : s56 Tryz.prog arg0 K w) : Runs Tryz.prog 56 [arg0] K w :=
  runs_of_E wide (fn := Tryz.f56) (c := Tryz.f56.body.getD .skip) 18 A56 [arg0] w K Tryz.func56 (by kernel_rfl) (by kernel_rfl) (by kernel_rfl) (by kernel_rfl)
    (Eq.mp (by kernel_rfl : s56 Tryz.prog arg0 K w = E Tryz.prog (Tryz.f56.body.getD .skip) A56 (topK Tryz.prog K Tryz.f56.results) (fun i => (([arg0] : List Value)[i]?).getD undef) w) h)
theorem ct56 {arg0 : Value} {h : Hp} {post : Hp → Value → Prop} (hg : ∀ w0, Gs w0 h h [] (s56 Tryz.prog arg0 (RetP w0 h post))) : Ct Tryz.prog 56 [arg0] h post := Ct.of (sf := s56 Tryz.prog arg0) (c56 arg0) hg
theorem in56 {arg0 : Value} {S : WP} {K : Value → WP} (hg : G S (s56 Tryz.prog arg0 K)) : G S (Do Tryz.prog (vCall (.func (.func 56) #[] ⟨[]⟩) [arg0]) K) := Gs.into (args := [arg0]) (caps := []) (sf := s56 Tryz.prog arg0) (c56 arg0) hg

/- slices.Compare[[]int,int] : names 0 s1, 1 s2, 2 s1, 3 s2, 5 i, 6 v1, 7 v2, 8 c -/
def s57 (P : Program) (arg0 arg1 : Value) (K : Value → WP) : WP :=
  Do P (vBuiltin .len #[33] 3 [arg0]) fun t1_10 =>
  Lp (α := Value) (fun c2 s2 => Jk fun _ => -- t11
   Do P (V (binOp .lss 3 s2 t1_10)) fun t3_12 =>
   If t3_12 (
    Do P (V (Instr.indexAt 33 arg0 s2)) fun t4_14 =>
    Do P (V (Instr.loadAt 3 t4_14)) fun t5_15 =>
    Do P (vBuiltin .len #[33] 3 [arg1]) fun t6_18 =>
    Do P (V (binOp .geq 3 s2 t6_18)) fun t7_19 =>
    If t7_19 (
     K (.int .i64 1)
    ) (
     Do P (V (Instr.indexAt 33 arg1 s2)) fun t8_22 =>
     Do P (V (Instr.loadAt 3 t8_22)) fun t9_23 =>
     Do P (vCall (.func (.func 58) #[] ⟨[]⟩) [t5_15, t9_23]) fun t10_26 =>
     Do P (V (EqG .neq 3 (.tmp 27) (.const (.int .i64 0)) t10_26 (.int .i64 0))) fun t11_28 =>
     If t11_28 (
      K t10_26
     ) (
      Do P (V (binOp .add 3 s2 (.int .i64 1))) fun t12_30 =>
      c2 t12_30
     )
    )
   ) (
    Do P (vBuiltin .len #[33] 3 [arg0]) fun t13_32 =>
    Do P (vBuiltin .len #[33] 3 [arg1]) fun t14_34 =>
    Do P (V (binOp .lss 3 t13_32 t14_34)) fun t15_35 =>
    If t15_35 (
     K (.int .i64 (-1))
    ) (
     K (.int .i64 0)
    )
   )
  ) (.int .i64 0)
def A57 : Ann := .s (.n) (.s (.s (.n) (.lp [11] 2147482096 (.s (.n) (.s (.s (.n) (.n)) (.s (.s (.n) (.s (.s (.n) (.s (.s (.n) (.n)) (.n))) (.s (.n) (.s (.n) (.s (.n) (.s (.s (.n) (.n)) (.n))))))) (.n)))))) (.s (.s (.n) (.s (.s (.n) (.n)) (.n))) (.s (.n) (.n))))
set_option maxRecDepth 100000 in
theorem c57 (arg0 arg1 : Value) (K : Value → WP) (w : World) (h : s57 Tryz.prog arg0 arg1 K w) : Runs Tryz.prog 57 [arg0, arg1] K w :=
  runs_of_E wide (fn := Tryz.f57) (c := Tryz.f57.body.getD .skip) 36 A57 [arg0, arg1] w K Tryz.func57 (by kernel_rfl) (by kernel_rfl) (by kernel_rfl) (by kernel_rfl)
    (Eq.mp (by kernel_rfl : s57 Tryz.prog arg0 arg1 K w = E Tryz.prog (Tryz.f57.body.getD .skip) A57 (topK Tryz.prog K Tryz.f57.results) (fun i => (([arg0, arg1] : List Value)[i]?).getD undef) w) h)
theorem ct57 {arg0 arg1 : Value} {h : Hp} {post : Hp → Value → Prop} (hg : ∀ w0, Gs w0 h h [] (s57 Tryz.prog arg0 arg1 (RetP w0 h post))) : Ct Tryz.prog 57 [arg0, arg1] h post := Ct.of (sf := s57 Tryz.prog arg0 arg1) (c57 arg0 arg1) hg
theorem in57 {arg0 arg1 : Value} {S : WP} {K : Value → WP} (hg : G S (s57 Tryz.prog arg0 arg1 K)) : G S (Do Tryz.prog (vCall (.func (.func 57) #[] ⟨[]⟩) [arg0, arg1]) K) := Gs.into (args := [arg0, arg1]) (caps := []) (sf := s57 Tryz.prog arg0 arg1) (c57 arg0 arg1) hg

/- cmp.Compare[int] : names 0 x, 1 y, 2 x, 3 y, 5 xNaN, 6 yNaN -/
def s58 (P : Program) (arg0 arg1 : Value) (K : Value → WP) : WP :=
  Do P (vCall (.func (.func 91) #[] ⟨[]⟩) [arg0]) fun t1_8 =>
  Do P (vCall (.func (.func 91) #[] ⟨[]⟩) [arg1]) fun t2_10 =>
  If t1_8 (
   If t2_10 (
    K (.int .i64 0)
   ) (
    K (.int .i64 (-1))
   )
  ) (
   If t2_10 (
    K (.int .i64 1)
   ) (
    Do P (V (binOp .lss 3 arg0 arg1)) fun t3_16 =>
    If t3_16 (
     K (.int .i64 (-1))
    ) (
     Do P (V (binOp .gtr 3 arg0 arg1)) fun t4_19 =>
     If t4_19 (
      K (.int .i64 1)
     ) (
      K (.int .i64 0)
     )
    )
   )
  )
def A58 : Ann := .s (.n) (.s (.n) (.s (.n) (.s (.s (.n) (.s (.s (.s (.n) (.s (.s (.n) (.n)) (.n))) (.s (.n) (.n))) (.n))) (.s (.s (.n) (.s (.s (.n) (.n)) (.n))) (.s (.s (.n) (.s (.s (.n) (.n)) (.n))) (.s (.s (.n) (.s (.s (.n) (.n)) (.n))) (.s (.n) (.n))))))))
set_option maxRecDepth 100000 in
theorem c58 (arg0 arg1 : Value) (K : Value → WP) (w : World) (h : s58 Tryz.prog arg0 arg1 K w) : Runs Tryz.prog 58 [arg0, arg1] K w :=
  runs_of_E wide (fn := Tryz.f58) (c := Tryz.f58.body.getD .skip) 20 A58 [arg0, arg1] w K Tryz.func58 (by kernel_rfl) (by kernel_rfl) (by kernel_rfl) (by kernel_rfl)
    (Eq.mp (by kernel_rfl : s58 Tryz.prog arg0 arg1 K w = E Tryz.prog (Tryz.f58.body.getD .skip) A58 (topK Tryz.prog K Tryz.f58.results) (fun i => (([arg0, arg1] : List Value)[i]?).getD undef) w) h)
theorem ct58 {arg0 arg1 : Value} {h : Hp} {post : Hp → Value → Prop} (hg : ∀ w0, Gs w0 h h [] (s58 Tryz.prog arg0 arg1 (RetP w0 h post))) : Ct Tryz.prog 58 [arg0, arg1] h post := Ct.of (sf := s58 Tryz.prog arg0 arg1) (c58 arg0 arg1) hg
theorem in58 {arg0 arg1 : Value} {S : WP} {K : Value → WP} (hg : G S (s58 Tryz.prog arg0 arg1 K)) : G S (Do Tryz.prog (vCall (.func (.func 58) #[] ⟨[]⟩) [arg0, arg1]) K) := Gs.into (args := [arg0, arg1]) (caps := []) (sf := s58 Tryz.prog arg0 arg1) (c58 arg0 arg1) hg

/- skewer/skewerref04.list : names 0 a, 1 b, 2 a, 3 b, 5 i -/
def s59 (P : Program) (arg0 arg1 : Value) (K : Value → WP) : WP :=
  Lp (α := Value) (fun c1 s1 => Jk fun _ => -- i
   Jn (α := Value) (fun j2 => Jk fun _ => -- t15
    If j2 (
     Dr <|
     Qk P (V (Instr.indexAt 33 arg0 s1)) fun C3 t3_20 =>
     Qk P (V (Instr.loadAt 3 t3_20)) fun C4 t4_21 =>
     Qk P (V (Instr.indexAt 33 arg1 s1)) fun C5 t5_24 =>
     Qk P (V (Instr.loadAt 3 t5_24)) fun C6 t6_25 =>
     Qk P (V (EqG .neq 3 (.tmp 21) (.tmp 25) t4_21 t6_25)) fun C7 t7_26 =>
     If t7_26 (
      Dr <|
      Qk P (V (Instr.indexAt 33 arg0 s1)) fun C8 t8_29 =>
      Qk P (V (Instr.loadAt 3 t8_29)) fun C9 t9_30 =>
      Qk P (V (Instr.indexAt 33 arg1 s1)) fun C10 t10_33 =>
      Qk P (V (Instr.loadAt 3 t10_33)) fun C11 t11_34 =>
      Do P (vCall (.func (.func 60) #[] ⟨[]⟩) [t9_30, t11_34]) fun t12_35 =>
      K t12_35
     ) (
      Do P (V (binOp .add 3 s1 (.int .i64 1))) fun t13_17 =>
      c1 t13_17
     )
    ) (
     Do P (vBuiltin .len #[33] 3 [arg0]) fun t14_37 =>
     Do P (vBuiltin .len #[33] 3 [arg1]) fun t15_39 =>
     Do P (vCall (.func (.func 60) #[] ⟨[]⟩) [t14_37, t15_39]) fun t16_40 =>
     K t16_40
    )
   ) fun k2 =>
   Do P (vBuiltin .len #[33] 3 [arg0]) fun t17_8 =>
   Do P (V (binOp .lss 3 s1 t17_8)) fun t18_9 =>
   Gd t18_9 true (
    Do P (vBuiltin .len #[33] 3 [arg1]) fun t19_13 =>
    Do P (V (binOp .lss 3 s1 t19_13)) fun t20_14 =>
    k2 t20_14
   ) (
    k2 (.bool false)
   )
  ) (.int .i64 0)
def A59 : Ann := .s (.n) (.s (.s (.n) (.lp [5] 68719476720 (.s (.j [15] 65472 (.n) (.s (.n) (.n))) (.s (.s (.plan [(0, 1, 262144), (0, 32, 524288), (3, 786432, 1048576), (4, 1048576, 2097152), (0, 2, 4194304), (0, 32, 8388608), (48, 12582912, 16777216), (64, 16777216, 33554432), (136, 35651584, 67108864)] (.q 0 (.q 1 (.q 2 (.q 3 (.q 4 (.q 5 (.q 6 (.q 7 (.q 8 .done)))))))))) (.s (.s (.plan [(0, 1, 134217728), (0, 32, 268435456), (3, 402653184, 536870912), (4, 536870912, 1073741824), (0, 2, 2147483648), (0, 32, 4294967296), (48, 6442450944, 8589934592), (64, 8589934592, 17179869184), (136, 18253611008, 34359738368), (511, 34359738368, 16)] (.q 0 (.q 1 (.q 2 (.q 3 (.q 4 (.q 5 (.q 6 (.q 7 (.l 8 (.q 9 .done))))))))))) (.n)) (.n))) (.n))))) (.s (.n) (.n)))
set_option maxRecDepth 100000 in
theorem c59 (arg0 arg1 : Value) (K : Value → WP) (w : World) (h : s59 Tryz.prog arg0 arg1 K w) : Runs Tryz.prog 59 [arg0, arg1] K w :=
  runs_of_E wide (fn := Tryz.f59) (c := Tryz.f59.body.getD .skip) 41 A59 [arg0, arg1] w K Tryz.func59 (by kernel_rfl) (by kernel_rfl) (by kernel_rfl) (by kernel_rfl)
    (Eq.mp (by kernel_rfl : s59 Tryz.prog arg0 arg1 K w = E Tryz.prog (Tryz.f59.body.getD .skip) A59 (topK Tryz.prog K Tryz.f59.results) (fun i => (([arg0, arg1] : List Value)[i]?).getD undef) w) h)
theorem ct59 {arg0 arg1 : Value} {h : Hp} {post : Hp → Value → Prop} (hg : ∀ w0, Gs w0 h h [] (s59 Tryz.prog arg0 arg1 (RetP w0 h post))) : Ct Tryz.prog 59 [arg0, arg1] h post := Ct.of (sf := s59 Tryz.prog arg0 arg1) (c59 arg0 arg1) hg
theorem in59 {arg0 arg1 : Value} {S : WP} {K : Value → WP} (hg : G S (s59 Tryz.prog arg0 arg1 K)) : G S (Do Tryz.prog (vCall (.func (.func 59) #[] ⟨[]⟩) [arg0, arg1]) K) := Gs.into (args := [arg0, arg1]) (caps := []) (sf := s59 Tryz.prog arg0 arg1) (c59 arg0 arg1) hg

/- skewer/skewerref04.number : names 0 a, 1 b, 2 a, 3 b -/
def s60 (P : Program) (arg0 arg1 : Value) (K : Value → WP) : WP :=
  Do P (V (binOp .lss 3 arg0 arg1)) fun t1_7 =>
  If t1_7 (
   K (.int .i64 (-1))
  ) (
   Do P (V (binOp .gtr 3 arg0 arg1)) fun t2_10 =>
   If t2_10 (
    K (.int .i64 1)
   ) (
    K (.int .i64 0)
   )
  )
def A60 : Ann := .s (.n) (.s (.s (.n) (.s (.s (.n) (.n)) (.n))) (.s (.s (.n) (.s (.s (.n) (.n)) (.n))) (.s (.n) (.n))))
set_option maxRecDepth 100000 in
theorem c60 (arg0 arg1 : Value) (K : Value → WP) (w : World) (h : s60 Tryz.prog arg0 arg1 K w) : Runs Tryz.prog 60 [arg0, arg1] K w :=
  runs_of_E wide (fn := Tryz.f60) (c := Tryz.f60.body.getD .skip) 11 A60 [arg0, arg1] w K Tryz.func60 (by kernel_rfl) (by kernel_rfl) (by kernel_rfl) (by kernel_rfl)
    (Eq.mp (by kernel_rfl : s60 Tryz.prog arg0 arg1 K w = E Tryz.prog (Tryz.f60.body.getD .skip) A60 (topK Tryz.prog K Tryz.f60.results) (fun i => (([arg0, arg1] : List Value)[i]?).getD undef) w) h)
theorem ct60 {arg0 arg1 : Value} {h : Hp} {post : Hp → Value → Prop} (hg : ∀ w0, Gs w0 h h [] (s60 Tryz.prog arg0 arg1 (RetP w0 h post))) : Ct Tryz.prog 60 [arg0, arg1] h post := Ct.of (sf := s60 Tryz.prog arg0 arg1) (c60 arg0 arg1) hg
theorem in60 {arg0 arg1 : Value} {S : WP} {K : Value → WP} (hg : G S (s60 Tryz.prog arg0 arg1 K)) : G S (Do Tryz.prog (vCall (.func (.func 60) #[] ⟨[]⟩) [arg0, arg1]) K) := Gs.into (args := [arg0, arg1]) (caps := []) (sf := s60 Tryz.prog arg0 arg1) (c60 arg0 arg1) hg

/- slices.Concat[[]int,int] : names 0 slices, 1 slices, 3 size, 4 _, 5 s, 6 newslice, 7 _, 8 s -/
def s61 (P : Program) (arg0 : Value) (K : Value → WP) : WP :=
  Do P (vBuiltin .len #[32] 3 [arg0]) fun t1_10 =>
  Lp (α := Value × Value) (fun c2 s2 => Jk fun _ => -- size t11
   Do P (V (binOp .lss 3 s2.2 t1_10)) fun t3_12 =>
   If t3_12 (
    Jn (α := Value) (fun j4 => Jk fun _ => -- size
     Do P (V (binOp .add 3 s2.2 (.int .i64 1))) fun t5_22 =>
     c2 (j4, t5_22)
    ) fun k4 =>
    Do P (V (Instr.indexAt 32 arg0 s2.2)) fun t6_13 =>
    Do P (V (Instr.loadAt 33 t6_13)) fun t7_14 =>
    Do P (vBuiltin .len #[33] 3 [t7_14]) fun t8_17 =>
    Do P (V (binOp .add 3 s2.1 t8_17)) fun t9_18 =>
    Do P (V (binOp .lss 3 t9_18 (.int .i64 0))) fun t10_20 =>
    If t10_20 (
     Do P (V (Instr.makeInterface 9 (.string ⟨#[108, 101, 110, 32, 111, 117, 116, 32, 111, 102, 32, 114, 97, 110, 103, 101]⟩))) fun t11_21 =>
     Do P (V (Instr.panic t11_21)) fun t12_x =>
     k4 t9_18
    ) (
     k4 t9_18
    )
   ) (
    Do P (vCall (.func (.func 92) #[] ⟨[]⟩) [(.slice none 0 0), s2.1]) fun t13_24 =>
    Do P (vBuiltin .len #[32] 3 [arg0]) fun t14_26 =>
    Lp (α := Value × Value) (fun c15 s15 => Jk fun _ => -- newslice t27
     Do P (V (binOp .lss 3 s15.2 t14_26)) fun t16_28 =>
     If t16_28 (
      Do P (V (Instr.indexAt 32 arg0 s15.2)) fun t17_29 =>
      Do P (V (Instr.loadAt 33 t17_29)) fun t18_30 =>
      Do P (vBuiltin .append #[33, 33] 33 [s15.1, t18_30]) fun t19_33 =>
      Do P (V (binOp .add 3 s15.2 (.int .i64 1))) fun t20_34 =>
      c15 (t19_33, t20_34)
     ) (
      K s15.1
     )
    ) (t13_24, (.int .i64 0))
   )
  ) ((.int .i64 0), (.int .i64 0))
def A61 : Ann := .s (.n) (.s (.n) (.s (.s (.n) (.lp [3, 11] 8386600 (.s (.n) (.s (.s (.n) (.n)) (.j [3] 4186152 (.s (.n) (.s (.n) (.s (.n) (.s (.n) (.n))))) (.n)))))) (.s (.n) (.s (.s (.n) (.lp [6, 27] 34225520960 (.s (.n) (.s (.s (.n) (.n)) (.s (.s (.n) (.n)) (.n)))))) (.s (.n) (.n))))))
set_option maxRecDepth 100000 in
theorem c61 (arg0 : Value) (K : Value → WP) (w : World) (h : s61 Tryz.prog arg0 K w) : Runs Tryz.prog 61 [arg0] K w :=
  runs_of_E wide (fn := Tryz.f61) (c := Tryz.f61.body.getD .skip) 36 A61 [arg0] w K Tryz.func61 (by kernel_rfl) (by kernel_rfl) (by kernel_rfl) (by kernel_rfl)
    (Eq.mp (by kernel_rfl : s61 Tryz.prog arg0 K w = E Tryz.prog (Tryz.f61.body.getD .skip) A61 (topK Tryz.prog K Tryz.f61.results) (fun i => (([arg0] : List Value)[i]?).getD undef) w) h)
theorem ct61 {arg0 : Value} {h : Hp} {post : Hp → Value → Prop} (hg : ∀ w0, Gs w0 h h [] (s61 Tryz.prog arg0 (RetP w0 h post))) : Ct Tryz.prog 61 [arg0] h post := Ct.of (sf := s61 Tryz.prog arg0) (c61 arg0) hg
theorem in61 {arg0 : Value} {S : WP} {K : Value → WP} (hg : G S (s61 Tryz.prog arg0 K)) : G S (Do Tryz.prog (vCall (.func (.func 61) #[] ⟨[]⟩) [arg0]) K) := Gs.into (args := [arg0]) (caps := []) (sf := s61 Tryz.prog arg0) (c61 arg0) hg

/- skewer/skewerref04.Numbers : names 0 p, 1 p, 3 out -/
def s62 (P : Program) (arg0 : Value) (K : Value → WP) : WP :=
  Do P (V (Instr.box 44 arg0)) fun p1 =>
  Do P (vBuildSlice 33 0 []) fun t2_4 =>
  Do P (V (Instr.fieldAt 44 p1 0)) fun t3_5 =>
  Do P (V (Instr.loadAt 33 t3_5)) fun t4_6 =>
  Do P (vBuiltin .append #[33, 33] 33 [t2_4, t4_6]) fun t5_7 =>
  Do P (V (Instr.fieldAt 44 p1 1)) fun t6_9 =>
  Do P (V (Instr.indexAt 42 t6_9 (.int .i64 0))) fun t7_10 =>
  Do P (V (Instr.loadAt 33 t7_10)) fun t8_11 =>
  Do P (vBuiltin .append #[33, 33] 33 [t5_7, t8_11]) fun t9_12 =>
  Do P (V (Instr.fieldAt 44 p1 1)) fun t10_14 =>
  Do P (V (Instr.indexAt 42 t10_14 (.int .i64 1))) fun t11_15 =>
  Do P (V (Instr.loadAt 33 t11_15)) fun t12_16 =>
  Do P (vBuiltin .append #[33, 33] 33 [t9_12, t12_16]) fun t13_17 =>
  Do P (V (Instr.fieldAt 44 p1 2)) fun t14_19 =>
  Do P (V (Instr.loadAt 3 t14_19)) fun t15_20 =>
  Do P (V (Instr.fieldAt 44 p1 3)) fun t16_21 =>
  Do P (V (Instr.loadAt 3 t16_21)) fun t17_22 =>
  Do P (vBuildSlice 33 2 [(0, t15_20), (1, t17_22)]) fun t18_23 =>
  Do P (vBuiltin .append #[33, 33] 33 [t13_17, t18_23]) fun t19_24 =>
  K t19_24
def A62 : Ann := .s (.n) (.s (.n) (.s (.n) (.s (.n) (.s (.n) (.n)))))
set_option maxRecDepth 100000 in
theorem c62 (arg0 : Value) (K : Value → WP) (w : World) (h : s62 Tryz.prog arg0 K w) : Runs Tryz.prog 62 [arg0] K w :=
  runs_of_E wide (fn := Tryz.f62) (c := Tryz.f62.body.getD .skip) 25 A62 [arg0] w K Tryz.func62 (by kernel_rfl) (by kernel_rfl) (by kernel_rfl) (by kernel_rfl)
    (Eq.mp (by kernel_rfl : s62 Tryz.prog arg0 K w = E Tryz.prog (Tryz.f62.body.getD .skip) A62 (topK Tryz.prog K Tryz.f62.results) (fun i => (([arg0] : List Value)[i]?).getD undef) w) h)
theorem ct62 {arg0 : Value} {h : Hp} {post : Hp → Value → Prop} (hg : ∀ w0, Gs w0 h h [] (s62 Tryz.prog arg0 (RetP w0 h post))) : Ct Tryz.prog 62 [arg0] h post := Ct.of (sf := s62 Tryz.prog arg0) (c62 arg0) hg
theorem in62 {arg0 : Value} {S : WP} {K : Value → WP} (hg : G S (s62 Tryz.prog arg0 K)) : G S (Do Tryz.prog (vCall (.func (.func 62) #[] ⟨[]⟩) [arg0]) K) := Gs.into (args := [arg0]) (caps := []) (sf := s62 Tryz.prog arg0) (c62 arg0) hg

/- skewer/skewerref04.hands : names 0 g, 1 l, 2 g, 3 l, 5 i -/
def s63 (P : Program) (arg0 arg1 : Value) (K : Value → WP) : WP :=
  Do P (V (Instr.box 39 arg0)) fun g1 =>
  Do P (vBuiltin .len #[33] 3 [arg1]) fun t2_7 =>
  Do P (V (Instr.fieldAt 39 g1 1)) fun t3_8 =>
  Do P (V (Instr.loadAt 36 t3_8)) fun t4_9 =>
  Do P (vBuiltin .len #[36] 3 [t4_9]) fun t5_10 =>
  Do P (V (EqG .neq 3 (.tmp 7) (.tmp 10) t2_7 t5_10)) fun t6_11 =>
  If t6_11 (
   K (.bool false)
  ) (
   Lp (α := Value) (fun c7 s7 => Jk fun _ => -- i
    Do P (vBuiltin .len #[33] 3 [arg1]) fun t8_14 =>
    Do P (V (binOp .lss 3 s7 t8_14)) fun t9_15 =>
    If t9_15 (
     Jn (α := Value) (fun j10 => Jk fun _ => -- t45
      If j10 (
       K (.bool false)
      ) (
       Do P (V (binOp .add 3 s7 (.int .i64 1))) fun t11_17 =>
       c7 t11_17
      )
     ) fun k10 =>
     Do P (V (Instr.indexAt 33 arg1 s7)) fun t12_20 =>
     Do P (V (Instr.loadAt 3 t12_20)) fun t13_21 =>
     Do P (V (binOp .lss 3 t13_21 (.int .i64 0))) fun t14_22 =>
     Gd t14_22 false (
      Do P (V (Instr.indexAt 33 arg1 s7)) fun t15_26 =>
      Do P (V (Instr.loadAt 3 t15_26)) fun t16_27 =>
      Do P (V (binOp .gtr 3 t16_27 (.int .i64 8))) fun t17_28 =>
      Gd t17_28 false (
       Do P (V (Instr.indexAt 33 arg1 s7)) fun t18_33 =>
       Do P (V (Instr.loadAt 3 t18_33)) fun t19_34 =>
       Do P (V (binOp .gtr 3 t19_34 (.int .i64 0))) fun t20_35 =>
       Gd t20_35 true (
        Do P (V (Instr.fieldAt 39 g1 1)) fun t21_37 =>
        Do P (V (Instr.loadAt 36 t21_37)) fun t22_38 =>
        Do P (V (Instr.indexAt 36 t22_38 s7)) fun t23_40 =>
        Do P (V (Instr.fieldAt 59 t23_40 2)) fun t24_41 =>
        Do P (V (Instr.loadAt 4 t24_41)) fun t25_42 =>
        Do P (V (Op.unary .not t25_42)) fun t26_43 =>
        k10 t26_43
       ) (
        k10 (.bool false)
       )
      ) (
       k10 (.bool true)
      )
     ) (
      k10 (.bool true)
     )
    ) (
     K (.bool true)
    )
   ) (.int .i64 0)
  )
def A63 : Ann := .s (.n) (.s (.s (.n) (.s (.s (.n) (.n)) (.n))) (.s (.s (.n) (.lp [5] 70368744173616 (.s (.s (.n) (.s (.n) (.n))) (.s (.j [45] 70368743915520 (.n) (.s (.s (.n) (.n)) (.n))) (.n))))) (.s (.n) (.n))))
set_option maxRecDepth 100000 in
theorem c63 (arg0 arg1 : Value) (K : Value → WP) (w : World) (h : s63 Tryz.prog arg0 arg1 K w) : Runs Tryz.prog 63 [arg0, arg1] K w :=
  runs_of_E wide (fn := Tryz.f63) (c := Tryz.f63.body.getD .skip) 46 A63 [arg0, arg1] w K Tryz.func63 (by kernel_rfl) (by kernel_rfl) (by kernel_rfl) (by kernel_rfl)
    (Eq.mp (by kernel_rfl : s63 Tryz.prog arg0 arg1 K w = E Tryz.prog (Tryz.f63.body.getD .skip) A63 (topK Tryz.prog K Tryz.f63.results) (fun i => (([arg0, arg1] : List Value)[i]?).getD undef) w) h)
theorem ct63 {arg0 arg1 : Value} {h : Hp} {post : Hp → Value → Prop} (hg : ∀ w0, Gs w0 h h [] (s63 Tryz.prog arg0 arg1 (RetP w0 h post))) : Ct Tryz.prog 63 [arg0, arg1] h post := Ct.of (sf := s63 Tryz.prog arg0 arg1) (c63 arg0 arg1) hg
theorem in63 {arg0 arg1 : Value} {S : WP} {K : Value → WP} (hg : G S (s63 Tryz.prog arg0 arg1 K)) : G S (Do Tryz.prog (vCall (.func (.func 63) #[] ⟨[]⟩) [arg0, arg1]) K) := Gs.into (args := [arg0, arg1]) (caps := []) (sf := s63 Tryz.prog arg0 arg1) (c63 arg0 arg1) hg

/- slices.BinarySearchFunc[[]skewer/api.Pos,skewer/api.Pos,skewer/api.Pos] : names 0 x, 1 target, 2 cmp, 3 x, 4 target, 5 cmp, 8 n, 9 i, 10 j, 11 h -/
def s64 (P : Program) (arg0 arg1 arg2 : Value) (K : Value → WP) : WP :=
  Do P (V (Instr.box 44 arg1)) fun target1 =>
  Do P (vBuiltin .len #[64] 3 [arg0]) fun t2_13 =>
  Lp (α := Value × Value) (fun c3 s3 => Jk fun _ => -- i j
   Do P (V (binOp .lss 3 s3.1 s3.2)) fun t4_17 =>
   If t4_17 (
    Do P (V (binOp .add 3 s3.1 s3.2)) fun t5_20 =>
    Do P (V (convert 3 141 t5_20)) fun t6_21 =>
    Do P (V (binOp .shr 141 t6_21 (.int .u64 1))) fun t7_22 =>
    Do P (V (convert 141 3 t7_22)) fun t8_23 =>
    Dr <|
    Qk P (V (Instr.indexAt 64 arg0 t8_23)) fun C9 t9_27 =>
    Qk P (V (Instr.loadAt 44 t9_27)) fun C10 t10_28 =>
    Qk P (V (Instr.loadAt 44 target1)) fun C11 t11_29 =>
    Do P (vCall arg2 [t10_28, t11_29]) fun t12_30 =>
    Qk P (V (binOp .lss 3 t12_30 (.int .i64 0))) fun C13 t13_31 =>
    If t13_31 (
     Do P (V (binOp .add 3 t8_23 (.int .i64 1))) fun t14_33 =>
     c3 (t14_33, s3.2)
    ) (
     c3 (s3.1, t8_23)
    )
   ) (
    Dr <|
    Qk P (V (binOp .lss 3 s3.1 t2_13)) fun C15 t15_38 =>
    Gd t15_38 true (
     Qk P (V (Instr.indexAt 64 arg0 s3.1)) fun C16 t16_43 =>
     Qk P (V (Instr.loadAt 44 t16_43)) fun C17 t17_44 =>
     Qk P (V (Instr.loadAt 44 target1)) fun C18 t18_45 =>
     Do P (vCall arg2 [t17_44, t18_45]) fun t19_46 =>
     Qk P (V (EqG .eql 3 (.tmp 46) (.const (.int .i64 0)) t19_46 (.int .i64 0))) fun C20 t20_47 =>
     K (.tuple #[s3.1, t20_47])
    ) (
     K (.tuple #[s3.1, (.bool false)])
    )
   )
  ) ((.int .i64 0), t2_13)
def A64 : Ann := .s (.n) (.s (.n) (.s (.n) (.s (.lp [9, 10] 34359709184 (.s (.s (.n) (.s (.n) (.n))) (.s (.n) (.s (.plan [(0, 4, 16777216), (0, 1, 33554432), (0, 2048, 67108864), (6, 100663296, 134217728), (8, 134217728, 268435456), (0, 16, 536870912), (49, 822083584, 1073741824), (64, 1073741824, 2147483648)] (.q 0 (.q 1 (.q 2 (.q 3 (.q 4 (.q 5 (.l 6 (.q 7 .done))))))))) (.s (.n) (.n)))))) (.s (.plan [(0, 512, 34359738368), (0, 512, 68719476736), (0, 256, 137438953472), (6, 206158430208, 274877906944), (8, 274877906944, 549755813888), (16, 549755813892, 1099511627776), (16, 549755813889, 2199023255552), (16, 549755814400, 4398046511104), (208, 7146825580544, 8796093022208), (272, 9345848836096, 17592186044416), (16, 549755813904, 35184372088832), (1584, 54425825574912, 70368744177664), (2064, 70918499991552, 140737488355328), (4112, 141287244169216, 281474976710656), (2049, 34359738368, 64), (32767, 281474976710656, 128)] (.q 0 (.q 1 (.q 2 (.q 3 (.q 4 (.q 5 (.q 6 (.q 7 (.q 8 (.q 9 (.q 10 (.l 11 (.q 12 (.q 13 (.q 14 (.q 15 .done))))))))))))))))) (.n)))))
set_option maxRecDepth 100000 in
theorem c64 (arg0 arg1 arg2 : Value) (K : Value → WP) (w : World) (h : s64 Tryz.prog arg0 arg1 arg2 K w) : Runs Tryz.prog 64 [arg0, arg1, arg2] K w :=
  runs_of_E wide (fn := Tryz.f64) (c := Tryz.f64.body.getD .skip) 49 A64 [arg0, arg1, arg2] w K Tryz.func64 (by kernel_rfl) (by kernel_rfl) (by kernel_rfl) (by kernel_rfl)
    (Eq.mp (by kernel_rfl : s64 Tryz.prog arg0 arg1 arg2 K w = E Tryz.prog (Tryz.f64.body.getD .skip) A64 (topK Tryz.prog K Tryz.f64.results) (fun i => (([arg0, arg1, arg2] : List Value)[i]?).getD undef) w) h)
theorem ct64 {arg0 arg1 arg2 : Value} {h : Hp} {post : Hp → Value → Prop} (hg : ∀ w0, Gs w0 h h [] (s64 Tryz.prog arg0 arg1 arg2 (RetP w0 h post))) : Ct Tryz.prog 64 [arg0, arg1, arg2] h post := Ct.of (sf := s64 Tryz.prog arg0 arg1 arg2) (c64 arg0 arg1 arg2) hg
theorem in64 {arg0 arg1 arg2 : Value} {S : WP} {K : Value → WP} (hg : G S (s64 Tryz.prog arg0 arg1 arg2 K)) : G S (Do Tryz.prog (vCall (.func (.func 64) #[] ⟨[]⟩) [arg0, arg1, arg2]) K) := Gs.into (args := [arg0, arg1, arg2]) (caps := []) (sf := s64 Tryz.prog arg0 arg1 arg2) (c64 arg0 arg1 arg2) hg

/- (*strings.Builder).WriteByte : names 0 b, 1 c, 2 b, 3 c -/
def s65 (P : Program) (arg0 arg1 : Value) (K : Value → WP) : WP :=
  Do P (vCall (.func (.func 93) #[] ⟨[]⟩) [arg0]) fun t1_6 =>
  Do P (vNil arg0) fun t2_9 =>
  Do P (V (Instr.fieldAt 116 t2_9 1)) fun t3_10 =>
  Do P (V (Instr.loadAt 22 t3_10)) fun t4_11 =>
  Do P (vBuildSlice 22 1 [(0, arg1)]) fun t5_13 =>
  Do P (vBuiltin .append #[22, 22] 22 [t4_11, t5_13]) fun t6_14 =>
  Do P (vNil arg0) fun t7_15 =>
  Do P (V (Instr.fieldAt 116 t7_15 1)) fun t8_16 =>
  Do P (U (Instr.storeAt 22 t8_16 t6_14)) fun t9_x =>
  K .nilIface
def A65 : Ann := .s (.n) (.s (.n) (.s (.n) (.s (.n) (.n))))
set_option maxRecDepth 100000 in
theorem c65 (arg0 arg1 : Value) (K : Value → WP) (w : World) (h : s65 Tryz.prog arg0 arg1 K w) : Runs Tryz.prog 65 [arg0, arg1] K w :=
  runs_of_E wide (fn := Tryz.f65) (c := Tryz.f65.body.getD .skip) 17 A65 [arg0, arg1] w K Tryz.func65 (by kernel_rfl) (by kernel_rfl) (by kernel_rfl) (by kernel_rfl)
    (Eq.mp (by kernel_rfl : s65 Tryz.prog arg0 arg1 K w = E Tryz.prog (Tryz.f65.body.getD .skip) A65 (topK Tryz.prog K Tryz.f65.results) (fun i => (([arg0, arg1] : List Value)[i]?).getD undef) w) h)
theorem ct65 {arg0 arg1 : Value} {h : Hp} {post : Hp → Value → Prop} (hg : ∀ w0, Gs w0 h h [] (s65 Tryz.prog arg0 arg1 (RetP w0 h post))) : Ct Tryz.prog 65 [arg0, arg1] h post := Ct.of (sf := s65 Tryz.prog arg0 arg1) (c65 arg0 arg1) hg
theorem in65 {arg0 arg1 : Value} {S : WP} {K : Value → WP} (hg : G S (s65 Tryz.prog arg0 arg1 K)) : G S (Do Tryz.prog (vCall (.func (.func 65) #[] ⟨[]⟩) [arg0, arg1]) K) := Gs.into (args := [arg0, arg1]) (caps := []) (sf := s65 Tryz.prog arg0 arg1) (c65 arg0 arg1) hg

/- skewer/pos.sign : names 0 n, 1 n -/
def s66 (P : Program) (arg0 : Value) (K : Value → WP) : WP :=
  Do P (V (EqG .eql 3 (.tmp 4) (.const (.int .i64 0)) arg0 (.int .i64 0))) fun t1_5 =>
  If t1_5 (
   K (.int .u8 46)
  ) (
   Do P (V (binOp .rem 3 arg0 (.int .i64 2))) fun t2_8 =>
   Do P (V (EqG .eql 3 (.tmp 8) (.const (.int .i64 1)) t2_8 (.int .i64 1))) fun t3_9 =>
   If t3_9 (
    Do P (V (binOp .quo 3 arg0 (.int .i64 2))) fun t4_11 =>
    Do P (V (binOp .add 3 (.int .i64 65) t4_11)) fun t5_12 =>
    Do P (V (convert 3 5 t5_12)) fun t6_13 =>
    K t6_13
   ) (
    Do P (V (binOp .quo 3 arg0 (.int .i64 2))) fun t7_15 =>
    Do P (V (binOp .add 3 (.int .i64 97) t7_15)) fun t8_16 =>
    Do P (V (binOp .sub 3 t8_16 (.int .i64 1))) fun t9_17 =>
    Do P (V (convert 3 5 t9_17)) fun t10_18 =>
    K t10_18
   )
  )
def A66 : Ann := .s (.n) (.s (.s (.n) (.s (.s (.n) (.n)) (.s (.n) (.s (.s (.n) (.n)) (.n))))) (.s (.n) (.n)))
set_option maxRecDepth 100000 in
theorem c66 (arg0 : Value) (K : Value → WP) (w : World) (h : s66 Tryz.prog arg0 K w) : Runs Tryz.prog 66 [arg0] K w :=
  runs_of_E wide (fn := Tryz.f66) (c := Tryz.f66.body.getD .skip) 19 A66 [arg0] w K Tryz.func66 (by kernel_rfl) (by kernel_rfl) (by kernel_rfl) (by kernel_rfl)
    (Eq.mp (by kernel_rfl : s66 Tryz.prog arg0 K w = E Tryz.prog (Tryz.f66.body.getD .skip) A66 (topK Tryz.prog K Tryz.f66.results) (fun i => (([arg0] : List Value)[i]?).getD undef) w) h)
theorem ct66 {arg0 : Value} {h : Hp} {post : Hp → Value → Prop} (hg : ∀ w0, Gs w0 h h [] (s66 Tryz.prog arg0 (RetP w0 h post))) : Ct Tryz.prog 66 [arg0] h post := Ct.of (sf := s66 Tryz.prog arg0) (c66 arg0) hg
theorem in66 {arg0 : Value} {S : WP} {K : Value → WP} (hg : G S (s66 Tryz.prog arg0 K)) : G S (Do Tryz.prog (vCall (.func (.func 66) #[] ⟨[]⟩) [arg0]) K) := Gs.into (args := [arg0]) (caps := []) (sf := s66 Tryz.prog arg0) (c66 arg0) hg

/- (*strings.Builder).String : names 0 b, 1 b -/
def s68 (P : Program) (arg0 : Value) (K : Value → WP) : WP :=
  Dr <|
  Qk P (vNil arg0) fun C1 t1_4 =>
  Qk P (V (Instr.fieldAt 116 t1_4 1)) fun C2 t2_5 =>
  Qk P (V (Instr.loadAt 22 t2_5)) fun C3 t3_6 =>
  Qk P (vNil arg0) fun C4 t4_9 =>
  Qk P (V (Instr.fieldAt 116 t4_9 1)) fun C5 t5_10 =>
  Qk P (V (Instr.loadAt 22 t5_10)) fun C6 t6_11 =>
  Qk P (vBuiltin .len #[22] 3 [t6_11]) fun C7 t7_12 =>
  Do P (vBuiltin .unsafeSliceData #[22] 144 [t3_6]) fun t8_7 =>
  With C7 <|
  With C6 <|
  With C5 <|
  With C4 <|
  Do P (vBuiltin .unsafeString #[144, 3] 9 [t8_7, t7_12]) fun t9_13 =>
  K t9_13
def A68 : Ann := .s (.n) (.s (.plan [(0, 1, 8), (1, 8, 16), (2, 16, 32), (4, 32, 64), (8, 64, 128), (0, 1, 256), (32, 256, 512), (64, 512, 1024), (128, 1024, 2048), (256, 2048, 4096), (528, 4224, 8192), (2047, 8192, 4)] (.q 0 (.q 1 (.q 2 (.q 3 (.q 5 (.q 6 (.q 7 (.q 8 (.q 9 (.l 4 (.l 10 (.q 11 .done))))))))))))) (.n))
set_option maxRecDepth 100000 in
theorem c68 (arg0 : Value) (K : Value → WP) (w : World) (h : s68 Tryz.prog arg0 K w) : Runs Tryz.prog 68 [arg0] K w :=
  runs_of_E wide (fn := Tryz.f68) (c := Tryz.f68.body.getD .skip) 14 A68 [arg0] w K Tryz.func68 (by kernel_rfl) (by kernel_rfl) (by kernel_rfl) (by kernel_rfl)
    (Eq.mp (by kernel_rfl : s68 Tryz.prog arg0 K w = E Tryz.prog (Tryz.f68.body.getD .skip) A68 (topK Tryz.prog K Tryz.f68.results) (fun i => (([arg0] : List Value)[i]?).getD undef) w) h)
theorem ct68 {arg0 : Value} {h : Hp} {post : Hp → Value → Prop} (hg : ∀ w0, Gs w0 h h [] (s68 Tryz.prog arg0 (RetP w0 h post))) : Ct Tryz.prog 68 [arg0] h post := Ct.of (sf := s68 Tryz.prog arg0) (c68 arg0) hg
theorem in68 {arg0 : Value} {S : WP} {K : Value → WP} (hg : G S (s68 Tryz.prog arg0 K)) : G S (Do Tryz.prog (vCall (.func (.func 68) #[] ⟨[]⟩) [arg0]) K) := Gs.into (args := [arg0]) (caps := []) (sf := s68 Tryz.prog arg0) (c68 arg0) hg

/- skewer/pos.digits : names 0 l, 1 l, 3 out, 4 _, 5 n -/
def s69 (P : Program) (arg0 : Value) (K : Value → WP) : WP :=
  Do P (V (Instr.alloc 116 true (.tuple #[]))) fun out1 =>
  Do P (vBuiltin .len #[33] 3 [arg0]) fun t2_7 =>
  Lp (α := Value) (fun c3 s3 => Jk fun _ => -- t8
   Do P (V (binOp .lss 3 s3 t2_7)) fun t4_9 =>
   If t4_9 (
    Do P (V (Instr.indexAt 33 arg0 s3)) fun t5_10 =>
    Do P (V (Instr.loadAt 3 t5_10)) fun t6_11 =>
    Do P (vCall (.func (.func 70) #[] ⟨[]⟩) [t6_11]) fun t7_13 =>
    Do P (vCall (.func (.func 95) #[] ⟨[]⟩) [out1, t7_13]) fun t8_14 =>
    Do P (V (binOp .add 3 s3 (.int .i64 1))) fun t9_15 =>
    c3 t9_15
   ) (
    Do P (vCall (.func (.func 68) #[] ⟨[]⟩) [out1]) fun t10_16 =>
    K t10_16
   )
  ) (.int .i64 0)
def A69 : Ann := .s (.n) (.s (.n) (.s (.s (.n) (.lp [8] 65312 (.s (.n) (.s (.s (.n) (.n)) (.s (.s (.n) (.n)) (.n)))))) (.s (.n) (.n))))
set_option maxRecDepth 100000 in
theorem c69 (arg0 : Value) (K : Value → WP) (w : World) (h : s69 Tryz.prog arg0 K w) : Runs Tryz.prog 69 [arg0] K w :=
  runs_of_E wide (fn := Tryz.f69) (c := Tryz.f69.body.getD .skip) 17 A69 [arg0] w K Tryz.func69 (by kernel_rfl) (by kernel_rfl) (by kernel_rfl) (by kernel_rfl)
    (Eq.mp (by kernel_rfl : s69 Tryz.prog arg0 K w = E Tryz.prog (Tryz.f69.body.getD .skip) A69 (topK Tryz.prog K Tryz.f69.results) (fun i => (([arg0] : List Value)[i]?).getD undef) w) h)
theorem ct69 {arg0 : Value} {h : Hp} {post : Hp → Value → Prop} (hg : ∀ w0, Gs w0 h h [] (s69 Tryz.prog arg0 (RetP w0 h post))) : Ct Tryz.prog 69 [arg0] h post := Ct.of (sf := s69 Tryz.prog arg0) (c69 arg0) hg
theorem in69 {arg0 : Value} {S : WP} {K : Value → WP} (hg : G S (s69 Tryz.prog arg0 K)) : G S (Do Tryz.prog (vCall (.func (.func 69) #[] ⟨[]⟩) [arg0]) K) := Gs.into (args := [arg0]) (caps := []) (sf := s69 Tryz.prog arg0) (c69 arg0) hg

/- skewer/skewerref01.Grid : names 0 w, 1 h, 2 w, 3 h, 6 dx, 7 dy, 8 b, 9 d, 10 l, 11 c, 12 x, 13 y, 14 to -/
def s71 (P : Program) (arg0 arg1 : Value) (K : Value → WP) : WP :=
  Do P (V (Instr.alloc 35 true (.tuple #[]))) fun t1_4 =>
  Jn (α := Value) (fun j2 => Jk fun _ => -- t34
   If j2 (
    Do P (vBuild 35 []) fun t3_35 =>
    Do P (U (Instr.storeAt 35 t1_4 t3_35)) fun t4_x =>
    RetC P 35 t1_4 fun r => K (.tuple #[r, (.int .i64 1)])
   ) (
    Do P (vBuildSlice 33 8 [(0, (.int .i64 0)), (1, (.int .i64 1)), (2, (.int .i64 1)), (3, (.int .i64 1)), (4, (.int .i64 0)), (5, (.int .i64 (-1))), (6, (.int .i64 (-1))), (7, (.int .i64 (-1)))]) fun t5_36 =>
    Do P (vBuildSlice 33 8 [(0, (.int .i64 (-1))), (1, (.int .i64 (-1))), (2, (.int .i64 0)), (3, (.int .i64 1)), (4, (.int .i64 1)), (5, (.int .i64 1)), (6, (.int .i64 0)), (7, (.int .i64 (-1)))]) fun t6_37 =>
    Do P (V (binOp .mul 3 arg0 arg1)) fun t7_40 =>
    Do P (vBuild 35 [(0, t7_40)]) fun t8_41 =>
    Do P (V (Instr.alloc 35 true (.tuple #[]))) fun b9 =>
    Do P (U (Instr.storeAt 35 b9 t8_41)) fun t10_x =>
    Lp (α := Value) (fun c11 s11 => Jk fun _ => -- d
     Do P (V (binOp .lss 3 s11 (.int .i64 8))) fun t12_43 =>
     If t12_43 (
      Do P (vBuildSlice 33 0 []) fun t13_46 =>
      Lp (α := Value × Value) (fun c14 s14 => Jk fun _ => -- l c
       Do P (V (binOp .mul 3 arg0 arg1)) fun t15_50 =>
       Do P (V (binOp .lss 3 s14.2 t15_50)) fun t16_51 =>
       If t16_51 (
        Dr <|
        Qk P (V (binOp .rem 3 s14.2 arg0)) fun C17 t17_56 =>
        Qk P (V (Instr.indexAt 33 t5_36 s11)) fun C18 t18_59 =>
        Qk P (V (Instr.loadAt 3 t18_59)) fun C19 t19_60 =>
        Qk P (V (binOp .add 3 t17_56 t19_60)) fun C20 t20_61 =>
        Dr <|
        Qk P (V (binOp .quo 3 s14.2 arg0)) fun C21 t21_64 =>
        Qk P (V (Instr.indexAt 33 t6_37 s11)) fun C22 t22_67 =>
        Qk P (V (Instr.loadAt 3 t22_67)) fun C23 t23_68 =>
        Qk P (V (binOp .add 3 t21_64 t23_68)) fun C24 t24_69 =>
        Jn (α := Value) (fun j25 => Jk fun _ => -- to
         Do P (vBuildSlice 33 1 [(0, j25)]) fun t26_93 =>
         Do P (vBuiltin .append #[33, 33] 33 [s14.1, t26_93]) fun t27_94 =>
         Do P (V (binOp .add 3 s14.2 (.int .i64 1))) fun t28_53 =>
         c14 (t27_94, t28_53)
        ) fun k25 =>
        Jn (α := Value) (fun j29 => Jk fun _ => -- t85
         If j29 (
          Do P (V (binOp .mul 3 t24_69 arg0)) fun t30_88 =>
          Do P (V (binOp .add 3 t30_88 t20_61)) fun t31_90 =>
          k25 t31_90
         ) (
          k25 (.int .i64 (-1))
         )
        ) fun k29 =>
        Do P (V (binOp .geq 3 t20_61 (.int .i64 0))) fun t32_71 =>
        Gd t32_71 true (
         Do P (V (binOp .lss 3 t20_61 arg0)) fun t33_75 =>
         Gd t33_75 true (
          Do P (V (binOp .geq 3 t24_69 (.int .i64 0))) fun t34_79 =>
          Gd t34_79 true (
           Do P (V (binOp .lss 3 t24_69 arg1)) fun t35_84 =>
           k29 t35_84
          ) (
           k29 (.bool false)
          )
         ) (
          k29 (.bool false)
         )
        ) (
         k29 (.bool false)
        )
       ) (
        Do P (V (Instr.fieldAt 35 b9 1)) fun t36_95 =>
        Do P (V (Instr.loadAt 32 t36_95)) fun t37_96 =>
        Do P (vBuildSlice 32 1 [(0, s14.1)]) fun t38_98 =>
        Do P (vBuiltin .append #[32, 32] 32 [t37_96, t38_98]) fun t39_99 =>
        Do P (V (Instr.fieldAt 35 b9 1)) fun t40_100 =>
        Do P (U (Instr.storeAt 32 t40_100 t39_99)) fun t41_x =>
        Do P (V (Instr.fieldAt 35 b9 2)) fun t42_101 =>
        Do P (V (Instr.loadAt 33 t42_101)) fun t43_102 =>
        Do P (V (binOp .add 3 s11 (.int .i64 4))) fun t44_104 =>
        Do P (V (binOp .rem 3 t44_104 (.int .i64 8))) fun t45_105 =>
        Do P (vBuildSlice 33 1 [(0, t45_105)]) fun t46_106 =>
        Do P (vBuiltin .append #[33, 33] 33 [t43_102, t46_106]) fun t47_107 =>
        Do P (V (Instr.fieldAt 35 b9 2)) fun t48_108 =>
        Do P (U (Instr.storeAt 33 t48_108 t47_107)) fun t49_x =>
        Do P (V (binOp .add 3 s11 (.int .i64 1))) fun t50_45 =>
        c11 t50_45
       )
      ) (t13_46, (.int .i64 0))
     ) (
      Do P (V (Instr.loadAt 35 b9)) fun t51_109 =>
      Do P (U (Instr.storeAt 35 t1_4 t51_109)) fun t52_x =>
      RetC P 35 t1_4 fun r => K (.tuple #[r, (.int .i64 0)])
     )
    ) (.int .i64 0)
   )
  ) fun k2 =>
  Do P (V (binOp .lss 3 arg0 (.int .i64 1))) fun t53_16 =>
  Gd t53_16 false (
   Do P (V (binOp .lss 3 arg1 (.int .i64 1))) fun t54_19 =>
   Gd t54_19 false (
    Do P (V (binOp .gtr 3 arg0 (.int .i64 64))) fun t55_23 =>
    Gd t55_23 false (
     Do P (V (binOp .gtr 3 arg1 (.int .i64 64))) fun t56_27 =>
     Gd t56_27 false (
      Do P (V (binOp .mul 3 arg0 arg1)) fun t57_32 =>
      Do P (V (binOp .gtr 3 t57_32 (.int .i64 64))) fun t58_33 =>
      k2 t58_33
     ) (
      k2 (.bool true)
     )
    ) (
     k2 (.bool true)
    )
   ) (
    k2 (.bool true)
   )
  ) (
   k2 (.bool true)
  )
def A71 : Ann := .s (.n) (.s (.j [34] 34359705600 (.n) (.s (.s (.n) (.n)) (.n))) (.s (.n) (.s (.n) (.s (.n) (.s (.s (.n) (.lp [9] 649037107316853453561913994673664 (.s (.s (.n) (.s (.n) (.n))) (.s (.s (.n) (.s (.s (.n) (.lp [10, 11] 39614081257132028059283651584 (.s (.s (.n) (.s (.n) (.n))) (.s (.s (.plan [(0, 2048, 18014398509481984), (0, 1, 36028797018963968), (3, 54043195528445952, 72057594037927936), (0, 64, 144115188075855872), (0, 512, 288230376151711744), (24, 432345564227567616, 576460752303423488), (32, 576460752303423488, 1152921504606846976), (68, 1224979098644774912, 2305843009213693952), (255, 2305843009213693952, 4096)] (.q 0 (.q 1 (.q 2 (.q 3 (.q 4 (.q 5 (.q 6 (.q 7 (.q 8 .done)))))))))) (.s (.plan [(0, 2048, 4611686018427387904), (0, 1, 9223372036854775808), (3, 13835058055282163712, 18446744073709551616), (0, 128, 36893488147419103232), (0, 512, 73786976294838206464), (24, 110680464442257309696, 147573952589676412928), (32, 147573952589676412928, 295147905179352825856), (68, 313594649253062377472, 590295810358705651712), (255, 590295810358705651712, 8192)] (.q 0 (.q 1 (.q 2 (.q 3 (.q 4 (.q 5 (.q 6 (.q 7 (.q 8 .done)))))))))) (.s (.n) (.j [14] 2475878897979139832386961408 (.j [85] 77370071863715549769891840 (.n) (.s (.n) (.n))) (.n))))) (.n))))) (.s (.n) (.n)))) (.n))))) (.s (.n) (.n)))))))
set_option maxRecDepth 100000 in
theorem c71 (arg0 arg1 : Value) (K : Value → WP) (w : World) (h : s71 Tryz.prog arg0 arg1 K w) : Runs Tryz.prog 71 [arg0, arg1] K w :=
  runs_of_E wide (fn := Tryz.f71) (c := Tryz.f71.body.getD .skip) 110 A71 [arg0, arg1] w K Tryz.func71 (by kernel_rfl) (by kernel_rfl) (by kernel_rfl) (by kernel_rfl)
    (Eq.mp (by kernel_rfl : s71 Tryz.prog arg0 arg1 K w = E Tryz.prog (Tryz.f71.body.getD .skip) A71 (topK Tryz.prog K Tryz.f71.results) (fun i => (([arg0, arg1] : List Value)[i]?).getD undef) w) h)
theorem ct71 {arg0 arg1 : Value} {h : Hp} {post : Hp → Value → Prop} (hg : ∀ w0, Gs w0 h h [] (s71 Tryz.prog arg0 arg1 (RetP w0 h post))) : Ct Tryz.prog 71 [arg0, arg1] h post := Ct.of (sf := s71 Tryz.prog arg0 arg1) (c71 arg0 arg1) hg
theorem in71 {arg0 arg1 : Value} {S : WP} {K : Value → WP} (hg : G S (s71 Tryz.prog arg0 arg1 K)) : G S (Do Tryz.prog (vCall (.func (.func 71) #[] ⟨[]⟩) [arg0, arg1]) K) := Gs.into (args := [arg0, arg1]) (caps := []) (sf := s71 Tryz.prog arg0 arg1) (c71 arg0 arg1) hg

/- skewer/skewerref01.Without : names 0 b, 1 c, 2 b, 3 c, 6 out, 7 d, 8 l, 9 x, 10 to -/
def s72 (P : Program) (arg0 arg1 : Value) (K : Value → WP) : WP :=
  Do P (V (Instr.box 35 arg0)) fun b1 =>
  Do P (V (Instr.alloc 35 true (.tuple #[]))) fun t2_4 =>
  Jn (α := Value) (fun j3 => Jk fun _ => -- t18
   If j3 (
    Do P (vBuild 35 []) fun t4_19 =>
    Do P (U (Instr.storeAt 35 t2_4 t4_19)) fun t5_x =>
    RetC P 35 t2_4 fun r => K (.tuple #[r, (.int .i64 1)])
   ) (
    Jn (α := Value) (fun j6 => Jk fun _ => -- out
     Lp (α := Value) (fun c7 s7 => Jk fun _ => -- d
      Do P (V (Instr.fieldAt 35 b1 1)) fun t8_28 =>
      Do P (V (Instr.loadAt 32 t8_28)) fun t9_29 =>
      Do P (vBuiltin .len #[32] 3 [t9_29]) fun t10_30 =>
      Do P (V (binOp .lss 3 s7 t10_30)) fun t11_31 =>
      If t11_31 (
       Do P (vBuildSlice 33 0 []) fun t12_34 =>
       Lp (α := Value × Value) (fun c13 s13 => Jk fun _ => -- l x
        Do P (V (Instr.fieldAt 35 b1 0)) fun t14_36 =>
        Do P (V (Instr.loadAt 3 t14_36)) fun t15_37 =>
        Do P (V (binOp .lss 3 s13.2 t15_37)) fun t16_38 =>
        If t16_38 (
         Do P (V (Instr.fieldAt 35 b1 1)) fun t17_41 =>
         Do P (V (Instr.loadAt 32 t17_41)) fun t18_42 =>
         Do P (V (Instr.indexAt 32 t18_42 s7)) fun t19_44 =>
         Do P (V (Instr.loadAt 33 t19_44)) fun t20_45 =>
         Do P (V (Instr.indexAt 33 t20_45 s13.2)) fun t21_47 =>
         Do P (V (Instr.loadAt 3 t21_47)) fun t22_48 =>
         Jn (α := Value) (fun j23 => Jk fun _ => -- to
          Do P (vBuildSlice 33 1 [(0, j23)]) fun t24_59 =>
          Do P (vBuiltin .append #[33, 33] 33 [s13.1, t24_59]) fun t25_60 =>
          Do P (V (binOp .add 3 s13.2 (.int .i64 1))) fun t26_40 =>
          c13 (t25_60, t26_40)
         ) fun k23 =>
         Jn (α := Value) (fun j27 => Jk fun _ => -- t56
          If j27 (
           k23 (.int .i64 (-1))
          ) (
           k23 t22_48
          )
         ) fun k27 =>
         Do P (V (EqG .eql 3 (.tmp 49) (.tmp 50) s13.2 arg1)) fun t28_51 =>
         Gd t28_51 false (
          Do P (V (EqG .eql 3 (.tmp 53) (.tmp 54) t22_48 arg1)) fun t29_55 =>
          k27 t29_55
         ) (
          k27 (.bool true)
         )
        ) (
         Do P (V (Instr.fieldAt 35 j6 1)) fun t30_61 =>
         Do P (V (Instr.loadAt 32 t30_61)) fun t31_62 =>
         Do P (vBuildSlice 32 1 [(0, s13.1)]) fun t32_64 =>
         Do P (vBuiltin .append #[32, 32] 32 [t31_62, t32_64]) fun t33_65 =>
         Do P (V (Instr.fieldAt 35 j6 1)) fun t34_66 =>
         Do P (U (Instr.storeAt 32 t34_66 t33_65)) fun t35_x =>
         Do P (V (binOp .add 3 s7 (.int .i64 1))) fun t36_33 =>
         c7 t36_33
        )
       ) (t12_34, (.int .i64 0))
      ) (
       Do P (V (Instr.loadAt 35 j6)) fun t37_67 =>
       Do P (U (Instr.storeAt 35 t2_4 t37_67)) fun t38_x =>
       RetC P 35 t2_4 fun r => K (.tuple #[r, (.int .i64 0)])
      )
     ) (.int .i64 0)
    ) fun k6 =>
    Dr <|
    Qk P (V (Instr.fieldAt 35 b1 0)) fun C39 t39_20 =>
    Qk P (V (Instr.loadAt 3 t39_20)) fun C40 t40_21 =>
    Qk P (V (Instr.fieldAt 35 b1 2)) fun C41 t41_23 =>
    Qk P (V (Instr.loadAt 33 t41_23)) fun C42 t42_24 =>
    Or2 (
     Do P (vBuildSlice 33 0 []) fun t43_22 =>
     With C42 <|
     With C41 <|
     With C40 <|
     With C39 <|
     Or2 (
      Do P (vBuiltin .append #[33, 33] 33 [t43_22, t42_24]) fun t44_25 =>
      With C40 <|
      With C39 <|
      Qk P (vBuild 35 [(0, t40_21), (2, t44_25)]) fun C45 t45_26 =>
      Do P (V (Instr.alloc 35 true (.tuple #[]))) fun out46 =>
      With C45 <|
      With C42 <|
      With C41 <|
      With C40 <|
      With C39 <|
      Do P (U (Instr.storeAt 35 out46 t45_26)) fun t47_x =>
      k6 out46
     ) (
      Do P (V (Instr.alloc 35 true (.tuple #[]))) fun out48 =>
      With C42 <|
      With C41 <|
      With C40 <|
      With C39 <|
      Do P (vBuiltin .append #[33, 33] 33 [t43_22, t42_24]) fun t49_25 =>
      With C40 <|
      With C39 <|
      Qk P (vBuild 35 [(0, t40_21), (2, t49_25)]) fun C50 t50_26 =>
      Do P (U (Instr.storeAt 35 out48 t50_26)) fun t51_x =>
      k6 out48
     )
    ) (
     Do P (V (Instr.alloc 35 true (.tuple #[]))) fun out52 =>
     With C42 <|
     With C41 <|
     With C40 <|
     With C39 <|
     Do P (vBuildSlice 33 0 []) fun t53_22 =>
     With C42 <|
     With C41 <|
     With C40 <|
     With C39 <|
     Do P (vBuiltin .append #[33, 33] 33 [t53_22, t42_24]) fun t54_25 =>
     With C40 <|
     With C39 <|
     Qk P (vBuild 35 [(0, t40_21), (2, t54_25)]) fun C55 t55_26 =>
     Do P (U (Instr.storeAt 35 out52 t55_26)) fun t56_x =>
     k6 out52
    )
   )
  ) fun k3 =>
  Do P (V (binOp .lss 3 arg1 (.int .i64 0))) fun t57_12 =>
  Gd t57_12 false (
   Do P (V (Instr.fieldAt 35 b1 0)) fun t58_15 =>
   Do P (V (Instr.loadAt 3 t58_15)) fun t59_16 =>
   Do P (V (binOp .geq 3 arg1 t59_16)) fun t60_17 =>
   k3 t60_17
  ) (
   k3 (.bool true)
  )
def A72 : Ann := .s (.n) (.s (.j [18] 522240 (.n) (.s (.s (.n) (.n)) (.n))) (.j [6] 133169216 (.plan [(0, 4, 1048576), (1, 1048576, 2097152), (0, 0, 4194304), (0, 4, 8388608), (8, 8388608, 16777216), (20, 20971520, 33554432), (34, 35651584, 67108864), (0, 0, 64), (255, 67108928, 0)] (.q 0 (.q 1 (.q 3 (.q 4 (.or (.l 2 (.or (.l 5 (.q 6 (.l 7 (.l 8 .done)))) (.l 7 (.l 5 (.q 6 (.l 8 .done)))))) (.l 7 (.l 2 (.l 5 (.q 6 (.l 8 .done))))))))))) (.s (.s (.n) (.lp [7] 147573952589542197120 (.s (.s (.n) (.s (.n) (.n))) (.s (.s (.n) (.s (.s (.n) (.lp [8, 9] 2305842974853957376 (.s (.s (.n) (.s (.n) (.n))) (.s (.s (.n) (.j [10] 143552238122435584 (.j [56] 143552238122434560 (.n) (.s (.n) (.n))) (.n))) (.n))))) (.n))) (.n))))) (.s (.n) (.n)))))
set_option maxRecDepth 100000 in
theorem c72 (arg0 arg1 : Value) (K : Value → WP) (w : World) (h : s72 Tryz.prog arg0 arg1 K w) : Runs Tryz.prog 72 [arg0, arg1] K w :=
  runs_of_E wide (fn := Tryz.f72) (c := Tryz.f72.body.getD .skip) 68 A72 [arg0, arg1] w K Tryz.func72 (by kernel_rfl) (by kernel_rfl) (by kernel_rfl) (by kernel_rfl)
    (Eq.mp (by kernel_rfl : s72 Tryz.prog arg0 arg1 K w = E Tryz.prog (Tryz.f72.body.getD .skip) A72 (topK Tryz.prog K Tryz.f72.results) (fun i => (([arg0, arg1] : List Value)[i]?).getD undef) w) h)
theorem ct72 {arg0 arg1 : Value} {h : Hp} {post : Hp → Value → Prop} (hg : ∀ w0, Gs w0 h h [] (s72 Tryz.prog arg0 arg1 (RetP w0 h post))) : Ct Tryz.prog 72 [arg0, arg1] h post := Ct.of (sf := s72 Tryz.prog arg0 arg1) (c72 arg0 arg1) hg
theorem in72 {arg0 arg1 : Value} {S : WP} {K : Value → WP} (hg : G S (s72 Tryz.prog arg0 arg1 K)) : G S (Do Tryz.prog (vCall (.func (.func 72) #[] ⟨[]⟩) [arg0, arg1]) K) := Gs.into (args := [arg0, arg1]) (caps := []) (sf := s72 Tryz.prog arg0 arg1) (c72 arg0 arg1) hg

/- skewer/skewerref02.Fit : names 0 p, 1 dirs, 2 kinds, 3 rights, 4 p, 5 dirs, 6 kinds, 7 rights, 9 out, 10 i, 11 x -/
def s73 (P : Program) (arg0 arg1 arg2 arg3 : Value) (K : Value → WP) : WP :=
  Do P (vBuildSlice 85 0 []) fun t1_12 =>
  Lp (α := Value × Value) (fun c2 s2 => Jk fun _ => -- out i
   Do P (vBuiltin .len #[85] 3 [arg0]) fun t3_15 =>
   Do P (V (binOp .lss 3 s2.2 t3_15)) fun t4_16 =>
   If t4_16 (
    Jn (α := Value) (fun j5 => Jk fun _ => -- out
     Do P (V (binOp .add 3 s2.2 (.int .i64 1))) fun t6_18 =>
     c2 (j5, t6_18)
    ) fun k5 =>
    Do P (V (Instr.indexAt 85 arg0 s2.2)) fun t7_21 =>
    Do P (V (Instr.loadAt 146 t7_21)) fun t8_22 =>
    Do P (V (Instr.alloc 146 true (.tuple #[]))) fun x9 =>
    Do P (U (Instr.storeAt 146 x9 t8_22)) fun t10_x =>
    Jn (α := Unit) (fun j11 => Jk fun _ => -- 
     Do P (V (Instr.loadAt 146 x9)) fun t12_52 =>
     Do P (vBuildSlice 85 1 [(0, t12_52)]) fun t13_53 =>
     Do P (vBuiltin .append #[85, 85] 85 [s2.1, t13_53]) fun t14_54 =>
     k5 t14_54
    ) fun k11 =>
    Do P (V (Instr.fieldAt 146 x9 0)) fun t15_23 =>
    Do P (V (Instr.loadAt 3 t15_23)) fun t16_24 =>
    Jn (α := Value) (fun j17 => Jk fun _ => -- t25
     If j17 (
      Do P (V (Instr.fieldAt 146 x9 1)) fun t18_29 =>
      Do P (V (Instr.loadAt 3 t18_29)) fun t19_30 =>
      Do P (V (binOp .rem 3 t19_30 arg1)) fun t20_32 =>
      Do P (V (Instr.fieldAt 146 x9 1)) fun t21_33 =>
      Do P (U (Instr.storeAt 3 t21_33 t20_32)) fun t22_x =>
      k11 ()
     ) (
      Do P (V (EqG .eql 3 (.tmp 24) (.const (.int .i64 8)) t16_24 (.int .i64 8))) fun t23_35 =>
      If t23_35 (
       Do P (V (Instr.fieldAt 146 x9 1)) fun t24_36 =>
       Do P (V (Instr.loadAt 3 t24_36)) fun t25_37 =>
       Do P (V (binOp .rem 3 t25_37 arg2)) fun t26_39 =>
       Do P (V (Instr.fieldAt 146 x9 1)) fun t27_40 =>
       Do P (U (Instr.storeAt 3 t27_40 t26_39)) fun t28_x =>
       k11 ()
      ) (
       Jn (α := Value) (fun j29 => Jk fun _ => -- t41
        If j29 (
         Do P (V (EqG .eql 3 (.tmp 44) (.const (.int .i64 0)) arg3 (.int .i64 0))) fun t30_45 =>
         If t30_45 (
          k5 s2.1
         ) (
          Do P (V (Instr.fieldAt 146 x9 1)) fun t31_46 =>
          Do P (V (Instr.loadAt 3 t31_46)) fun t32_47 =>
          Do P (V (binOp .rem 3 t32_47 arg3)) fun t33_49 =>
          Do P (V (Instr.fieldAt 146 x9 1)) fun t34_50 =>
          Do P (U (Instr.storeAt 3 t34_50 t33_49)) fun t35_x =>
          k11 ()
         )
        ) (
         k11 ()
        )
       ) fun k29 =>
       Do P (V (EqG .eql 3 (.tmp 24) (.const (.int .i64 9)) t16_24 (.int .i64 9))) fun t36_42 =>
       If t36_42 (
        k29 t36_42
       ) (
        Do P (V (EqG .eql 3 (.tmp 24) (.const (.int .i64 10)) t16_24 (.int .i64 10))) fun t37_43 =>
        k29 t37_43
       )
      )
     )
    ) fun k17 =>
    Do P (V (EqG .eql 3 (.tmp 24) (.const (.int .i64 1)) t16_24 (.int .i64 1))) fun t38_26 =>
    If t38_26 (
     k17 t38_26
    ) (
     Do P (V (EqG .eql 3 (.tmp 24) (.const (.int .i64 2)) t16_24 (.int .i64 2))) fun t39_27 =>
     If t39_27 (
      k17 t39_27
     ) (
      Do P (V (EqG .eql 3 (.tmp 24) (.const (.int .i64 7)) t16_24 (.int .i64 7))) fun t40_28 =>
      k17 t40_28
     )
    )
   ) (
    Do P (vBuiltin .len #[85] 3 [s2.1]) fun t41_56 =>
    Do P (V (EqG .eql 3 (.tmp 56) (.const (.int .i64 0)) t41_56 (.int .i64 0))) fun t42_57 =>
    If t42_57 (
     Do P (vBuild 146 [(0, (.int .i64 3))]) fun t43_58 =>
     Do P (vBuildSlice 85 1 [(0, t43_58)]) fun t44_59 =>
     K t44_59
    ) (
     K s2.1
    )
   )
  ) (t1_12, (.int .i64 0))
def A73 : Ann := .s (.n) (.s (.n) (.s (.s (.n) (.lp [9, 10] 36028797018959360 (.s (.s (.n) (.s (.n) (.n))) (.j [9] 36028797018442240 (.s (.n) (.j [] 2251799805296640 (.s (.n) (.j [25] 503316480 (.s (.n) (.s (.n) (.s (.n) (.s (.n) (.n))))) (.s (.n) (.s (.n) (.s (.n) (.j [41] 15393162788864 (.s (.n) (.s (.n) (.n))) (.s (.s (.s (.n) (.s (.n) (.n))) (.n)) (.n)))))))) (.n))) (.n))))) (.s (.s (.n) (.s (.s (.n) (.n)) (.n))) (.s (.n) (.n)))))
set_option maxRecDepth 100000 in
theorem c73 (arg0 arg1 arg2 arg3 : Value) (K : Value → WP) (w : World) (h : s73 Tryz.prog arg0 arg1 arg2 arg3 K w) : Runs Tryz.prog 73 [arg0, arg1, arg2, arg3] K w :=
  runs_of_E wide (fn := Tryz.f73) (c := Tryz.f73.body.getD .skip) 61 A73 [arg0, arg1, arg2, arg3] w K Tryz.func73 (by kernel_rfl) (by kernel_rfl) (by kernel_rfl) (by kernel_rfl)
    (Eq.mp (by kernel_rfl : s73 Tryz.prog arg0 arg1 arg2 arg3 K w = E Tryz.prog (Tryz.f73.body.getD .skip) A73 (topK Tryz.prog K Tryz.f73.results) (fun i => (([arg0, arg1, arg2, arg3] : List Value)[i]?).getD undef) w) h)
theorem ct73 {arg0 arg1 arg2 arg3 : Value} {h : Hp} {post : Hp → Value → Prop} (hg : ∀ w0, Gs w0 h h [] (s73 Tryz.prog arg0 arg1 arg2 arg3 (RetP w0 h post))) : Ct Tryz.prog 73 [arg0, arg1, arg2, arg3] h post := Ct.of (sf := s73 Tryz.prog arg0 arg1 arg2 arg3) (c73 arg0 arg1 arg2 arg3) hg
theorem in73 {arg0 arg1 arg2 arg3 : Value} {S : WP} {K : Value → WP} (hg : G S (s73 Tryz.prog arg0 arg1 arg2 arg3 K)) : G S (Do Tryz.prog (vCall (.func (.func 73) #[] ⟨[]⟩) [arg0, arg1, arg2, arg3]) K) := Gs.into (args := [arg0, arg1, arg2, arg3]) (caps := []) (sf := s73 Tryz.prog arg0 arg1 arg2 arg3) (c73 arg0 arg1 arg2 arg3) hg

/- skewer/skewerref02.Lib : names 0 l, 1 l, 3 d, 4 e, 5 k, 6 r, 7 step, 8 other, 9 back, 10 slide, 11 push, 12 empty, 13 enemy, 14 friend, 15 take, 16 become, 17 need, 18 lose, 19 library -/
def s74 (P : Program) (arg0 : Value) (K : Value → WP) : WP :=
  Do P (vCall (.func (.func 97) #[] ⟨[]⟩) [arg0, (.int .i64 1)]) fun t1_21 =>
  Do P (V (binOp .rem 3 t1_21 (.int .i64 8))) fun t2_22 =>
  Do P (vCall (.func (.func 97) #[] ⟨[]⟩) [arg0, (.int .i64 2)]) fun t3_24 =>
  Do P (V (binOp .rem 3 t3_24 (.int .i64 8))) fun t4_25 =>
  Do P (vCall (.func (.func 97) #[] ⟨[]⟩) [arg0, (.int .i64 3)]) fun t5_27 =>
  Do P (V (binOp .rem 3 t5_27 (.int .i64 6))) fun t6_28 =>
  Do P (vCall (.func (.func 97) #[] ⟨[]⟩) [arg0, (.int .i64 4)]) fun t7_30 =>
  Do P (V (binOp .rem 3 t7_30 (.int .i64 4))) fun t8_31 =>
  Do P (vBuild 146 [(0, (.int .i64 1)), (1, t2_22)]) fun t9_33 =>
  Do P (vBuild 146 [(0, (.int .i64 1)), (1, t4_25)]) fun t10_35 =>
  Do P (V (binOp .add 3 t2_22 (.int .i64 4))) fun t11_37 =>
  Do P (V (binOp .rem 3 t11_37 (.int .i64 8))) fun t12_38 =>
  Do P (vBuild 146 [(0, (.int .i64 1)), (1, t12_38)]) fun t13_39 =>
  Do P (V (Instr.alloc 146 true (.tuple #[]))) fun step14 =>
  Do P (V (Instr.alloc 146 true (.tuple #[]))) fun other15 =>
  Do P (V (Instr.alloc 146 true (.tuple #[]))) fun back16 =>
  Do P (U (Instr.storeAt 146 step14 t9_33)) fun t17_x =>
  Do P (U (Instr.storeAt 146 other15 t10_35)) fun t18_x =>
  Do P (U (Instr.storeAt 146 back16 t13_39)) fun t19_x =>
  Do P (vBuild 146 [(0, (.int .i64 2)), (1, t2_22)]) fun t20_41 =>
  Do P (vBuild 146 [(0, (.int .i64 7)), (1, t2_22)]) fun t21_43 =>
  Do P (V (Instr.alloc 146 true (.tuple #[]))) fun slide22 =>
  Do P (V (Instr.alloc 146 true (.tuple #[]))) fun push23 =>
  Do P (U (Instr.storeAt 146 slide22 t20_41)) fun t24_x =>
  Do P (U (Instr.storeAt 146 push23 t21_43)) fun t25_x =>
  Do P (vBuild 146 [(0, (.int .i64 3))]) fun t26_44 =>
  Do P (vBuild 146 [(0, (.int .i64 4))]) fun t27_45 =>
  Do P (vBuild 146 [(0, (.int .i64 5))]) fun t28_46 =>
  Do P (vBuild 146 [(0, (.int .i64 6))]) fun t29_47 =>
  Do P (V (Instr.alloc 146 true (.tuple #[]))) fun empty30 =>
  Do P (V (Instr.alloc 146 true (.tuple #[]))) fun enemy31 =>
  Do P (V (Instr.alloc 146 true (.tuple #[]))) fun friend32 =>
  Do P (V (Instr.alloc 146 true (.tuple #[]))) fun take33 =>
  Do P (U (Instr.storeAt 146 empty30 t26_44)) fun t34_x =>
  Do P (U (Instr.storeAt 146 enemy31 t27_45)) fun t35_x =>
  Do P (U (Instr.storeAt 146 friend32 t28_46)) fun t36_x =>
  Do P (U (Instr.storeAt 146 take33 t29_47)) fun t37_x =>
  Do P (vBuild 146 [(0, (.int .i64 8)), (1, t6_28)]) fun t38_49 =>
  Do P (vBuild 146 [(0, (.int .i64 9)), (1, t8_31)]) fun t39_51 =>
  Do P (vBuild 146 [(0, (.int .i64 10)), (1, t8_31)]) fun t40_53 =>
  Do P (V (Instr.alloc 146 true (.tuple #[]))) fun become41 =>
  Do P (V (Instr.alloc 146 true (.tuple #[]))) fun need42 =>
  Do P (V (Instr.alloc 146 true (.tuple #[]))) fun lose43 =>
  Do P (U (Instr.storeAt 146 become41 t38_49)) fun t44_x =>
  Do P (U (Instr.storeAt 146 need42 t39_51)) fun t45_x =>
  Do P (U (Instr.storeAt 146 lose43 t40_53)) fun t46_x =>
  Do P (V (Instr.loadAt 146 step14)) fun t47_54 =>
  Do P (V (Instr.loadAt 146 empty30)) fun t48_55 =>
  Do P (vBuildSlice 85 2 [(0, t47_54), (1, t48_55)]) fun t49_56 =>
  Do P (V (Instr.loadAt 146 step14)) fun t50_57 =>
  Do P (V (Instr.loadAt 146 enemy31)) fun t51_58 =>
  Do P (V (Instr.loadAt 146 take33)) fun t52_59 =>
  Do P (vBuildSlice 85 3 [(0, t50_57), (1, t51_58), (2, t52_59)]) fun t53_60 =>
  Do P (V (Instr.loadAt 146 slide22)) fun t54_61 =>
  Do P (vBuildSlice 85 1 [(0, t54_61)]) fun t55_62 =>
  Do P (V (Instr.loadAt 146 slide22)) fun t56_63 =>
  Do P (V (Instr.loadAt 146 enemy31)) fun t57_64 =>
  Do P (V (Instr.loadAt 146 take33)) fun t58_65 =>
  Do P (vBuildSlice 85 3 [(0, t56_63), (1, t57_64), (2, t58_65)]) fun t59_66 =>
  Do P (V (Instr.loadAt 146 step14)) fun t60_67 =>
  Do P (V (Instr.loadAt 146 enemy31)) fun t61_68 =>
  Do P (V (Instr.loadAt 146 take33)) fun t62_69 =>
  Do P (V (Instr.loadAt 146 step14)) fun t63_70 =>
  Do P (vBuildSlice 85 4 [(0, t60_67), (1, t61_68), (2, t62_69), (3, t63_70)]) fun t64_71 =>
  Do P (V (Instr.loadAt 146 step14)) fun t65_72 =>
  Do P (V (Instr.loadAt 146 other15)) fun t66_73 =>
  Do P (vBuildSlice 85 2 [(0, t65_72), (1, t66_73)]) fun t67_74 =>
  Do P (V (Instr.loadAt 146 step14)) fun t68_75 =>
  Do P (V (Instr.loadAt 146 push23)) fun t69_76 =>
  Do P (vBuildSlice 85 2 [(0, t68_75), (1, t69_76)]) fun t70_77 =>
  Do P (V (Instr.loadAt 146 step14)) fun t71_78 =>
  Do P (V (Instr.loadAt 146 empty30)) fun t72_79 =>
  Do P (V (Instr.loadAt 146 become41)) fun t73_80 =>
  Do P (vBuildSlice 85 3 [(0, t71_78), (1, t72_79), (2, t73_80)]) fun t74_81 =>
  Do P (V (Instr.loadAt 146 need42)) fun t75_82 =>
  Do P (V (Instr.loadAt 146 step14)) fun t76_83 =>
  Do P (V (Instr.loadAt 146 step14)) fun t77_84 =>
  Do P (V (Instr.loadAt 146 lose43)) fun t78_85 =>
  Do P (vBuildSlice 85 4 [(0, t75_82), (1, t76_83), (2, t77_84), (3, t78_85)]) fun t79_86 =>
  Do P (V (Instr.loadAt 146 step14)) fun t80_87 =>
  Do P (V (Instr.loadAt 146 friend32)) fun t81_88 =>
  Do P (V (Instr.loadAt 146 step14)) fun t82_89 =>
  Do P (V (Instr.loadAt 146 empty30)) fun t83_90 =>
  Do P (vBuildSlice 85 4 [(0, t80_87), (1, t81_88), (2, t82_89), (3, t83_90)]) fun t84_91 =>
  Do P (V (Instr.loadAt 146 lose43)) fun t85_92 =>
  Do P (V (Instr.loadAt 146 step14)) fun t86_93 =>
  Do P (vBuildSlice 85 2 [(0, t85_92), (1, t86_93)]) fun t87_94 =>
  Do P (V (Instr.loadAt 146 step14)) fun t88_95 =>
  Do P (V (Instr.loadAt 146 enemy31)) fun t89_96 =>
  Do P (V (Instr.loadAt 146 take33)) fun t90_97 =>
  Do P (V (Instr.loadAt 146 back16)) fun t91_98 =>
  Do P (vBuildSlice 85 4 [(0, t88_95), (1, t89_96), (2, t90_97), (3, t91_98)]) fun t92_99 =>
  Do P (V (Instr.loadAt 146 step14)) fun t93_100 =>
  Do P (V (Instr.loadAt 146 enemy31)) fun t94_101 =>
  Do P (V (Instr.loadAt 146 take33)) fun t95_102 =>
  Do P (V (Instr.loadAt 146 other15)) fun t96_103 =>
  Do P (V (Instr.loadAt 146 enemy31)) fun t97_104 =>
  Do P (V (Instr.loadAt 146 take33)) fun t98_105 =>
  Do P (vBuildSlice 85 6 [(0, t93_100), (1, t94_101), (2, t95_102), (3, t96_103), (4, t97_104), (5, t98_105)]) fun t99_106 =>
  Do P (V (Instr.loadAt 146 slide22)) fun t100_107 =>
  Do P (V (Instr.loadAt 146 friend32)) fun t101_108 =>
  Do P (V (Instr.loadAt 146 step14)) fun t102_109 =>
  Do P (vBuildSlice 85 3 [(0, t100_107), (1, t101_108), (2, t102_109)]) fun t103_110 =>
  Do P (V (Instr.loadAt 146 step14)) fun t104_111 =>
  Do P (V (Instr.loadAt 146 enemy31)) fun t105_112 =>
  Do P (V (Instr.loadAt 146 take33)) fun t106_113 =>
  Do P (V (Instr.loadAt 146 become41)) fun t107_114 =>
  Do P (vBuildSlice 85 4 [(0, t104_111), (1, t105_112), (2, t106_113), (3, t107_114)]) fun t108_115 =>
  Do P (V (Instr.loadAt 146 step14)) fun t109_116 =>
  Do P (V (Instr.loadAt 146 push23)) fun t110_117 =>
  Do P (V (Instr.loadAt 146 other15)) fun t111_118 =>
  Do P (vBuildSlice 85 3 [(0, t109_116), (1, t110_117), (2, t111_118)]) fun t112_119 =>
  Do P (vBuildSlice 57 16 [(0, t49_56), (1, t53_60), (2, t55_62), (3, t59_66), (4, t64_71), (5, t67_74), (6, t70_77), (7, t74_81), (8, t79_86), (9, t84_91), (10, t87_94), (11, t92_99), (12, t99_106), (13, t103_110), (14, t108_115), (15, t112_119)]) fun t113_120 =>
  Do P (vCall (.func (.func 97) #[] ⟨[]⟩) [arg0, (.int .i64 0)]) fun t114_123 =>
  Do P (vBuiltin .len #[57] 3 [t113_120]) fun t115_125 =>
  Do P (V (binOp .rem 3 t114_123 t115_125)) fun t116_126 =>
  Do P (V (Instr.indexAt 57 t113_120 t116_126)) fun t117_127 =>
  Do P (V (Instr.loadAt 85 t117_127)) fun t118_128 =>
  K t118_128
def A74 : Ann := .s (.n) (.s (.n) (.s (.n) (.s (.n) (.s (.n) (.s (.n) (.s (.n) (.s (.n) (.n))))))))
set_option maxRecDepth 100000 in
theorem c74 (arg0 : Value) (K : Value → WP) (w : World) (h : s74 Tryz.prog arg0 K w) : Runs Tryz.prog 74 [arg0] K w :=
  runs_of_E wide (fn := Tryz.f74) (c := Tryz.f74.body.getD .skip) 129 A74 [arg0] w K Tryz.func74 (by kernel_rfl) (by kernel_rfl) (by kernel_rfl) (by kernel_rfl)
    (Eq.mp (by kernel_rfl : s74 Tryz.prog arg0 K w = E Tryz.prog (Tryz.f74.body.getD .skip) A74 (topK Tryz.prog K Tryz.f74.results) (fun i => (([arg0] : List Value)[i]?).getD undef) w) h)
theorem ct74 {arg0 : Value} {h : Hp} {post : Hp → Value → Prop} (hg : ∀ w0, Gs w0 h h [] (s74 Tryz.prog arg0 (RetP w0 h post))) : Ct Tryz.prog 74 [arg0] h post := Ct.of (sf := s74 Tryz.prog arg0) (c74 arg0) hg
theorem in74 {arg0 : Value} {S : WP} {K : Value → WP} (hg : G S (s74 Tryz.prog arg0 K)) : G S (Do Tryz.prog (vCall (.func (.func 74) #[] ⟨[]⟩) [arg0]) K) := Gs.into (args := [arg0]) (caps := []) (sf := s74 Tryz.prog arg0) (c74 arg0) hg

/- skewer/board.Valid : names 0 b, 1 b, 3 dirs, 4 in, 5 d, 6 l -/
def s76 (P : Program) (arg0 : Value) (K : Value → WP) : WP :=
  Do P (V (Instr.box 35 arg0)) fun b1 =>
  Do P (V (Instr.fieldAt 35 b1 1)) fun t2_7 =>
  Do P (V (Instr.loadAt 32 t2_7)) fun t3_8 =>
  Do P (vBuiltin .len #[32] 3 [t3_8]) fun t4_9 =>
  Do P (V (Instr.alloc 150 true (.tuple #[]))) fun t5_4 =>
  Do P (U (Instr.storeAt 150 t5_4 (.func (.func 101) #[] ⟨[]⟩))) fun t6_x =>
  Jn (α := Value) (fun j7 => Jk fun _ => -- t27
   If j7 (
    K (.bool false)
   ) (
    Do P (V (Instr.fieldAt 35 b1 1)) fun t8_28 =>
    Do P (V (Instr.loadAt 32 t8_28)) fun t9_29 =>
    Do P (vBuiltin .len #[32] 3 [t9_29]) fun t10_30 =>
    Lp (α := Value) (fun c11 s11 => Jk fun _ => -- t31
     Do P (V (binOp .lss 3 s11 t10_30)) fun t12_32 =>
     If t12_32 (
      Do P (V (Instr.indexAt 32 t9_29 s11)) fun t13_34 =>
      Do P (V (Instr.loadAt 33 t13_34)) fun t14_35 =>
      Jn (α := Value) (fun j15 => Jk fun _ => -- t45
       If j15 (
        K (.bool false)
       ) (
        Jn (α := Value) (fun j16 => Jk fun _ => -- t68
         If j16 (
          K (.bool false)
         ) (
          Do P (V (binOp .add 3 s11 (.int .i64 1))) fun t17_69 =>
          c11 t17_69
         )
        ) fun k16 =>
        Dr <|
        Qk P (V (Instr.loadAt 150 t5_4)) fun C18 t18_46 =>
        Qk P (V (Instr.fieldAt 35 b1 2)) fun C19 t19_47 =>
        Qk P (V (Instr.loadAt 33 t19_47)) fun C20 t20_48 =>
        Qk P (V (Instr.indexAt 33 t20_48 s11)) fun C21 t21_50 =>
        Qk P (V (Instr.loadAt 3 t21_50)) fun C22 t22_51 =>
        Qk P (V (binOp .sub 3 t4_9 (.int .i64 1))) fun C23 t23_53 =>
        Do P (vCall t18_46 [t22_51, (.int .i64 0), t23_53]) fun t24_54 =>
        Qk P (V (Op.unary .not t24_54)) fun C25 t25_55 =>
        Gd t25_55 false (
         Qk P (V (Instr.fieldAt 35 b1 2)) fun C26 t26_57 =>
         Qk P (V (Instr.loadAt 33 t26_57)) fun C27 t27_58 =>
         Qk P (V (Instr.fieldAt 35 b1 2)) fun C28 t28_59 =>
         Qk P (V (Instr.loadAt 33 t28_59)) fun C29 t29_60 =>
         Qk P (V (Instr.indexAt 33 t29_60 s11)) fun C30 t30_62 =>
         Qk P (V (Instr.loadAt 3 t30_62)) fun C31 t31_63 =>
         Qk P (V (Instr.indexAt 33 t27_58 t31_63)) fun C32 t32_64 =>
         Qk P (V (Instr.loadAt 3 t32_64)) fun C33 t33_65 =>
         Qk P (V (EqG .neq 3 (.tmp 65) (.tmp 66) t33_65 s11)) fun C34 t34_67 =>
         k16 t34_67
        ) (
         k16 (.bool true)
        )
       )
      ) fun k15 =>
      Do P (vBuiltin .len #[33] 3 [t14_35]) fun t35_37 =>
      Do P (V (Instr.fieldAt 35 b1 0)) fun t36_38 =>
      Do P (V (Instr.loadAt 3 t36_38)) fun t37_39 =>
      Do P (V (EqG .neq 3 (.tmp 37) (.tmp 39) t35_37 t37_39)) fun t38_40 =>
      Gd t38_40 false (
       Do P (vCall (.func (.func 49) #[] ⟨[]⟩) [t14_35, (.func (.func 102) #[] ⟨[t5_4, b1]⟩)]) fun t39_44 =>
       k15 t39_44
      ) (
       k15 (.bool true)
      )
     ) (
      K (.bool true)
     )
    ) (.int .i64 0)
   )
  ) fun k7 =>
  Do P (V (Instr.loadAt 150 t5_4)) fun t40_10 =>
  Do P (V (Instr.fieldAt 35 b1 0)) fun t41_11 =>
  Do P (V (Instr.loadAt 3 t41_11)) fun t42_12 =>
  Do P (vCall t40_10 [t42_12, (.int .i64 1), (.int .i64 64)]) fun t43_13 =>
  Do P (V (Op.unary .not t43_13)) fun t44_14 =>
  Gd t44_14 false (
   Do P (V (Instr.loadAt 150 t5_4)) fun t45_16 =>
   Do P (vCall t45_16 [t4_9, (.int .i64 1), (.int .i64 8)]) fun t46_18 =>
   Do P (V (Op.unary .not t46_18)) fun t47_19 =>
   Gd t47_19 false (
    Do P (V (Instr.fieldAt 35 b1 2)) fun t48_22 =>
    Do P (V (Instr.loadAt 33 t48_22)) fun t49_23 =>
    Do P (vBuiltin .len #[33] 3 [t49_23]) fun t50_24 =>
    Do P (V (EqG .neq 3 (.tmp 24) (.tmp 25) t50_24 t4_9)) fun t51_26 =>
    k7 t51_26
   ) (
    k7 (.bool true)
   )
  ) (
   k7 (.bool true)
  )
def A76 : Ann := .s (.n) (.s (.n) (.s (.n) (.s (.j [27] 268434432 (.n) (.s (.s (.n) (.n)) (.n))) (.s (.s (.n) (.lp [31] 1180591620715263819876 (.s (.n) (.s (.s (.n) (.n)) (.s (.s (.n) (.s (.j [45] 70300024700928 (.n) (.s (.s (.n) (.n)) (.n))) (.j [68] 590295739989961474048 (.plan [(0, 16, 70368744177664), (0, 2, 140737488355328), (2, 140737488355328, 281474976710656), (0, 32, 562949953421312), (12, 844424930131968, 1125899906842624), (16, 1125899906842624, 2251799813685248), (0, 8, 4503599627370496), (64, 4503599627370496, 9007199254740992), (161, 11329367812603904, 18014398509481984), (256, 18014398509481984, 36028797018963968), (768, 36028797018963968, 72057594037927936), (1024, 72057594037927938, 144115188075855872), (3072, 216172782113783808, 288230376151711744), (1024, 72057594037927938, 576460752303423488), (9216, 648518346341351424, 1152921504606846976), (1024, 72057594037927968, 2305843009213693952), (50176, 3530822107858468864, 4611686018427387904), (66560, 4683743612465315840, 9223372036854775808), (136192, 9583660007044415488, 18446744073709551616), (263168, 18518801667747479552, 36893488147419103232), (1024, 72057594037927968, 73786976294838206464), (1573888, 110752522036295237632, 147573952589676412928), (2098176, 147646010183714340864, 295147905179352825856)] (.q 0 (.q 1 (.q 2 (.q 3 (.q 4 (.q 5 (.q 6 (.q 7 (.l 8 (.q 9 (.q 10 (.q 11 (.q 12 (.q 13 (.q 14 (.q 15 (.q 16 (.q 17 (.q 18 (.q 19 (.q 20 (.q 21 (.q 22 .done)))))))))))))))))))))))) (.s (.s (.n) (.n)) (.n))))) (.n)))))) (.s (.n) (.n))))))
set_option maxRecDepth 100000 in
theorem c76 (arg0 : Value) (K : Value → WP) (w : World) (h : s76 Tryz.prog arg0 K w) : Runs Tryz.prog 76 [arg0] K w :=
  runs_of_E wide (fn := Tryz.f76) (c := Tryz.f76.body.getD .skip) 70 A76 [arg0] w K Tryz.func76 (by kernel_rfl) (by kernel_rfl) (by kernel_rfl) (by kernel_rfl)
    (Eq.mp (by kernel_rfl : s76 Tryz.prog arg0 K w = E Tryz.prog (Tryz.f76.body.getD .skip) A76 (topK Tryz.prog K Tryz.f76.results) (fun i => (([arg0] : List Value)[i]?).getD undef) w) h)
theorem ct76 {arg0 : Value} {h : Hp} {post : Hp → Value → Prop} (hg : ∀ w0, Gs w0 h h [] (s76 Tryz.prog arg0 (RetP w0 h post))) : Ct Tryz.prog 76 [arg0] h post := Ct.of (sf := s76 Tryz.prog arg0) (c76 arg0) hg
theorem in76 {arg0 : Value} {S : WP} {K : Value → WP} (hg : G S (s76 Tryz.prog arg0 K)) : G S (Do Tryz.prog (vCall (.func (.func 76) #[] ⟨[]⟩) [arg0]) K) := Gs.into (args := [arg0]) (caps := []) (sf := s76 Tryz.prog arg0) (c76 arg0) hg

/- skewer/game.isResult : names 0 n, 1 n -/
def s77 (P : Program) (arg0 : Value) (K : Value → WP) : WP :=
  Do P (V (binOp .geq 3 arg0 (.int .i64 1))) fun t1_4 =>
  Gd t1_4 true (
   Do P (V (binOp .leq 3 arg0 (.int .i64 3))) fun t2_7 =>
   K t2_7
  ) (
   K (.bool false)
  )
def A77 : Ann := .s (.n) (.s (.n) (.n))
set_option maxRecDepth 100000 in
theorem c77 (arg0 : Value) (K : Value → WP) (w : World) (h : s77 Tryz.prog arg0 K w) : Runs Tryz.prog 77 [arg0] K w :=
  runs_of_E wide (fn := Tryz.f77) (c := Tryz.f77.body.getD .skip) 9 A77 [arg0] w K Tryz.func77 (by kernel_rfl) (by kernel_rfl) (by kernel_rfl) (by kernel_rfl)
    (Eq.mp (by kernel_rfl : s77 Tryz.prog arg0 K w = E Tryz.prog (Tryz.f77.body.getD .skip) A77 (topK Tryz.prog K Tryz.f77.results) (fun i => (([arg0] : List Value)[i]?).getD undef) w) h)
theorem ct77 {arg0 : Value} {h : Hp} {post : Hp → Value → Prop} (hg : ∀ w0, Gs w0 h h [] (s77 Tryz.prog arg0 (RetP w0 h post))) : Ct Tryz.prog 77 [arg0] h post := Ct.of (sf := s77 Tryz.prog arg0) (c77 arg0) hg
theorem in77 {arg0 : Value} {S : WP} {K : Value → WP} (hg : G S (s77 Tryz.prog arg0 K)) : G S (Do Tryz.prog (vCall (.func (.func 77) #[] ⟨[]⟩) [arg0]) K) := Gs.into (args := [arg0]) (caps := []) (sf := s77 Tryz.prog arg0) (c77 arg0) hg

/- skewer/game.Valid$1 : names 0 p, 2 p -/
def s78 (P : Program) (arg0 arg1 : Value) (K : Value → WP) : WP :=
  Do P (V (Instr.fieldAt 39 arg1 0)) fun t1_5 =>
  Do P (V (Instr.fieldAt 35 t1_5 1)) fun t2_6 =>
  Do P (V (Instr.loadAt 32 t2_6)) fun t3_7 =>
  Do P (vBuiltin .len #[32] 3 [t3_7]) fun t4_8 =>
  Do P (V (Instr.fieldAt 39 arg1 1)) fun t5_9 =>
  Do P (V (Instr.loadAt 36 t5_9)) fun t6_10 =>
  Do P (vBuiltin .len #[36] 3 [t6_10]) fun t7_11 =>
  Do P (V (Instr.fieldAt 39 arg1 2)) fun t8_12 =>
  Do P (V (Instr.loadAt 3 t8_12)) fun t9_13 =>
  Do P (vCall (.func (.func 79) #[] ⟨[]⟩) [arg0, t4_8, t7_11, t9_13]) fun t10_14 =>
  Do P (V (Op.unary .not t10_14)) fun t11_15 =>
  K t11_15
def A78 : Ann := .s (.n) (.s (.n) (.n))
set_option maxRecDepth 100000 in
theorem c78 (arg0 arg1 : Value) (K : Value → WP) (w : World) (h : s78 Tryz.prog arg0 arg1 K w) : Runs Tryz.prog 78 [arg0, arg1] K w :=
  runs_of_E wide (fn := Tryz.f78) (c := Tryz.f78.body.getD .skip) 16 A78 [arg0, arg1] w K Tryz.func78 (by kernel_rfl) (by kernel_rfl) (by kernel_rfl) (by kernel_rfl)
    (Eq.mp (by kernel_rfl : s78 Tryz.prog arg0 arg1 K w = E Tryz.prog (Tryz.f78.body.getD .skip) A78 (topK Tryz.prog K Tryz.f78.results) (fun i => (([arg0, arg1] : List Value)[i]?).getD undef) w) h)
theorem ct78 {arg0 arg1 : Value} {h : Hp} {post : Hp → Value → Prop} (hg : ∀ w0, Gs w0 h h [] (s78 Tryz.prog arg0 arg1 (RetP w0 h post))) : Ct Tryz.prog 78 [arg0, arg1] h post := Ct.of (sf := s78 Tryz.prog arg0 arg1) (c78 arg0 arg1) hg
theorem in78 {arg0 arg1 : Value} {S : WP} {K : Value → WP} (hg : G S (s78 Tryz.prog arg0 arg1 K)) : G S (Do Tryz.prog (vCall (.func (.func 78) #[] ⟨[arg1]⟩) [arg0]) K) := Gs.into (args := [arg0]) (caps := [arg1]) (sf := s78 Tryz.prog arg0 arg1) (c78 arg0 arg1) hg

/- skewer/prog.Valid : names 0 p, 1 dirs, 2 kinds, 3 rights, 4 p, 5 dirs, 6 kinds, 7 rights, 9 limits, 10 odd -/
def s79 (P : Program) (arg0 arg1 arg2 arg3 : Value) (K : Value → WP) : WP :=
  Do P (vBuild 151 [(0, (.int .i64 1)), (1, arg1), (2, arg2), (3, arg3)]) fun t1_14 =>
  Do P (V (Instr.alloc 151 true (.tuple #[]))) fun limits2 =>
  Do P (U (Instr.storeAt 151 limits2 t1_14)) fun t3_x =>
  Do P (vBuiltin .len #[85] 3 [arg0]) fun t4_17 =>
  Do P (V (binOp .gtr 3 t4_17 (.int .i64 0))) fun t5_18 =>
  Gd t5_18 true (
   Do P (vBuiltin .len #[85] 3 [arg0]) fun t6_21 =>
   Do P (V (binOp .leq 3 t6_21 (.int .i64 8))) fun t7_22 =>
   Gd t7_22 true (
    Do P (vCall (.func (.func 105) #[] ⟨[]⟩) [arg0, (.func (.func 103) #[] ⟨[limits2]⟩)]) fun t8_27 =>
    Do P (V (Op.unary .not t8_27)) fun t9_28 =>
    Gd t9_28 true (
     Do P (vCall (.func (.func 106) #[] ⟨[]⟩) [arg0, (.int .i64 6)]) fun t10_32 =>
     Do P (V (binOp .leq 3 t10_32 (.int .i64 2))) fun t11_33 =>
     Gd t11_33 true (
      Do P (vCall (.func (.func 106) #[] ⟨[]⟩) [arg0, (.int .i64 7)]) fun t12_37 =>
      Do P (V (binOp .leq 3 t12_37 (.int .i64 1))) fun t13_38 =>
      Gd t13_38 true (
       Do P (vCall (.func (.func 106) #[] ⟨[]⟩) [arg0, (.int .i64 8)]) fun t14_42 =>
       Do P (V (binOp .leq 3 t14_42 (.int .i64 1))) fun t15_43 =>
       K t15_43
      ) (
       K (.bool false)
      )
     ) (
      K (.bool false)
     )
    ) (
     K (.bool false)
    )
   ) (
    K (.bool false)
   )
  ) (
   K (.bool false)
  )
def A79 : Ann := .s (.n) (.s (.n) (.s (.n) (.s (.n) (.n))))
set_option maxRecDepth 100000 in
theorem c79 (arg0 arg1 arg2 arg3 : Value) (K : Value → WP) (w : World) (h : s79 Tryz.prog arg0 arg1 arg2 arg3 K w) : Runs Tryz.prog 79 [arg0, arg1, arg2, arg3] K w :=
  runs_of_E wide (fn := Tryz.f79) (c := Tryz.f79.body.getD .skip) 45 A79 [arg0, arg1, arg2, arg3] w K Tryz.func79 (by kernel_rfl) (by kernel_rfl) (by kernel_rfl) (by kernel_rfl)
    (Eq.mp (by kernel_rfl : s79 Tryz.prog arg0 arg1 arg2 arg3 K w = E Tryz.prog (Tryz.f79.body.getD .skip) A79 (topK Tryz.prog K Tryz.f79.results) (fun i => (([arg0, arg1, arg2, arg3] : List Value)[i]?).getD undef) w) h)
theorem ct79 {arg0 arg1 arg2 arg3 : Value} {h : Hp} {post : Hp → Value → Prop} (hg : ∀ w0, Gs w0 h h [] (s79 Tryz.prog arg0 arg1 arg2 arg3 (RetP w0 h post))) : Ct Tryz.prog 79 [arg0, arg1, arg2, arg3] h post := Ct.of (sf := s79 Tryz.prog arg0 arg1 arg2 arg3) (c79 arg0 arg1 arg2 arg3) hg
theorem in79 {arg0 arg1 arg2 arg3 : Value} {S : WP} {K : Value → WP} (hg : G S (s79 Tryz.prog arg0 arg1 arg2 arg3 K)) : G S (Do Tryz.prog (vCall (.func (.func 79) #[] ⟨[]⟩) [arg0, arg1, arg2, arg3]) K) := Gs.into (args := [arg0, arg1, arg2, arg3]) (caps := []) (sf := s79 Tryz.prog arg0 arg1 arg2 arg3) (c79 arg0 arg1 arg2 arg3) hg

/- skewer/game.validName : names 0 s, 1 s -/
def s80 (P : Program) (arg0 : Value) (K : Value → WP) : WP :=
  Do P (V (EqG .neq 9 (.tmp 3) (.const (.string ⟨#[]⟩)) arg0 (.string ⟨#[]⟩))) fun t1_4 =>
  Gd t1_4 true (
   Do P (vBuiltin .len #[9] 3 [arg0]) fun t2_7 =>
   Do P (V (binOp .leq 3 t2_7 (.int .i64 8))) fun t3_8 =>
   Gd t3_8 true (
    Do P (vCall (.func (.func 107) #[] ⟨[]⟩) [arg0, (.func (.func 108) #[] ⟨[]⟩)]) fun t4_12 =>
    Do P (V (binOp .lss 3 t4_12 (.int .i64 0))) fun t5_13 =>
    K t5_13
   ) (
    K (.bool false)
   )
  ) (
   K (.bool false)
  )
def A80 : Ann := .s (.n) (.s (.n) (.n))
set_option maxRecDepth 100000 in
theorem c80 (arg0 : Value) (K : Value → WP) (w : World) (h : s80 Tryz.prog arg0 K w) : Runs Tryz.prog 80 [arg0] K w :=
  runs_of_E wide (fn := Tryz.f80) (c := Tryz.f80.body.getD .skip) 15 A80 [arg0] w K Tryz.func80 (by kernel_rfl) (by kernel_rfl) (by kernel_rfl) (by kernel_rfl)
    (Eq.mp (by kernel_rfl : s80 Tryz.prog arg0 K w = E Tryz.prog (Tryz.f80.body.getD .skip) A80 (topK Tryz.prog K Tryz.f80.results) (fun i => (([arg0] : List Value)[i]?).getD undef) w) h)
theorem ct80 {arg0 : Value} {h : Hp} {post : Hp → Value → Prop} (hg : ∀ w0, Gs w0 h h [] (s80 Tryz.prog arg0 (RetP w0 h post))) : Ct Tryz.prog 80 [arg0] h post := Ct.of (sf := s80 Tryz.prog arg0) (c80 arg0) hg
theorem in80 {arg0 : Value} {S : WP} {K : Value → WP} (hg : G S (s80 Tryz.prog arg0 K)) : G S (Do Tryz.prog (vCall (.func (.func 80) #[] ⟨[]⟩) [arg0]) K) := Gs.into (args := [arg0]) (caps := []) (sf := s80 Tryz.prog arg0) (c80 arg0) hg

/- skewer/game.Find : names 0 g, 1 name, 2 g, 3 name -/
def s81 (P : Program) (arg0 arg1 : Value) (K : Value → WP) : WP :=
  Do P (V (Instr.box 39 arg0)) fun g1 =>
  Do P (V (Instr.box 9 arg1)) fun name2 =>
  Do P (V (Instr.fieldAt 39 g1 1)) fun t3_5 =>
  Do P (V (Instr.loadAt 36 t3_5)) fun t4_6 =>
  Do P (vCall (.func (.func 109) #[] ⟨[]⟩) [t4_6, (.func (.func 110) #[] ⟨[name2]⟩)]) fun t5_8 =>
  K t5_8
def A81 : Ann := .s (.n) (.s (.n) (.n))
set_option maxRecDepth 100000 in
theorem c81 (arg0 arg1 : Value) (K : Value → WP) (w : World) (h : s81 Tryz.prog arg0 arg1 K w) : Runs Tryz.prog 81 [arg0, arg1] K w :=
  runs_of_E wide (fn := Tryz.f81) (c := Tryz.f81.body.getD .skip) 9 A81 [arg0, arg1] w K Tryz.func81 (by kernel_rfl) (by kernel_rfl) (by kernel_rfl) (by kernel_rfl)
    (Eq.mp (by kernel_rfl : s81 Tryz.prog arg0 arg1 K w = E Tryz.prog (Tryz.f81.body.getD .skip) A81 (topK Tryz.prog K Tryz.f81.results) (fun i => (([arg0, arg1] : List Value)[i]?).getD undef) w) h)
theorem ct81 {arg0 arg1 : Value} {h : Hp} {post : Hp → Value → Prop} (hg : ∀ w0, Gs w0 h h [] (s81 Tryz.prog arg0 arg1 (RetP w0 h post))) : Ct Tryz.prog 81 [arg0, arg1] h post := Ct.of (sf := s81 Tryz.prog arg0 arg1) (c81 arg0 arg1) hg
theorem in81 {arg0 arg1 : Value} {S : WP} {K : Value → WP} (hg : G S (s81 Tryz.prog arg0 arg1 K)) : G S (Do Tryz.prog (vCall (.func (.func 81) #[] ⟨[]⟩) [arg0, arg1]) K) := Gs.into (args := [arg0, arg1]) (caps := []) (sf := s81 Tryz.prog arg0 arg1) (c81 arg0 arg1) hg

/- slices.ContainsFunc[[]skewer/api.Prog,skewer/api.Prog] : names 0 s, 1 f, 2 s, 3 f -/
def s82 (P : Program) (arg0 arg1 : Value) (K : Value → WP) : WP :=
  Do P (vCall (.func (.func 111) #[] ⟨[]⟩) [arg0, arg1]) fun t1_7 =>
  Do P (V (binOp .geq 3 t1_7 (.int .i64 0))) fun t2_8 =>
  K t2_8
def A82 : Ann := .s (.n) (.s (.n) (.n))
set_option maxRecDepth 100000 in
theorem c82 (arg0 arg1 : Value) (K : Value → WP) (w : World) (h : s82 Tryz.prog arg0 arg1 K w) : Runs Tryz.prog 82 [arg0, arg1] K w :=
  runs_of_E wide (fn := Tryz.f82) (c := Tryz.f82.body.getD .skip) 9 A82 [arg0, arg1] w K Tryz.func82 (by kernel_rfl) (by kernel_rfl) (by kernel_rfl) (by kernel_rfl)
    (Eq.mp (by kernel_rfl : s82 Tryz.prog arg0 arg1 K w = E Tryz.prog (Tryz.f82.body.getD .skip) A82 (topK Tryz.prog K Tryz.f82.results) (fun i => (([arg0, arg1] : List Value)[i]?).getD undef) w) h)
theorem ct82 {arg0 arg1 : Value} {h : Hp} {post : Hp → Value → Prop} (hg : ∀ w0, Gs w0 h h [] (s82 Tryz.prog arg0 arg1 (RetP w0 h post))) : Ct Tryz.prog 82 [arg0, arg1] h post := Ct.of (sf := s82 Tryz.prog arg0 arg1) (c82 arg0 arg1) hg
theorem in82 {arg0 arg1 : Value} {S : WP} {K : Value → WP} (hg : G S (s82 Tryz.prog arg0 arg1 K)) : G S (Do Tryz.prog (vCall (.func (.func 82) #[] ⟨[]⟩) [arg0, arg1]) K) := Gs.into (args := [arg0, arg1]) (caps := []) (sf := s82 Tryz.prog arg0 arg1) (c82 arg0 arg1) hg

/- slices.ContainsFunc[[]skewer/api.Clause,skewer/api.Clause] : names 0 s, 1 f, 2 s, 3 f -/
def s83 (P : Program) (arg0 arg1 : Value) (K : Value → WP) : WP :=
  Do P (vCall (.func (.func 112) #[] ⟨[]⟩) [arg0, arg1]) fun t1_7 =>
  Do P (V (binOp .geq 3 t1_7 (.int .i64 0))) fun t2_8 =>
  K t2_8
def A83 : Ann := .s (.n) (.s (.n) (.n))
set_option maxRecDepth 100000 in
theorem c83 (arg0 arg1 : Value) (K : Value → WP) (w : World) (h : s83 Tryz.prog arg0 arg1 K w) : Runs Tryz.prog 83 [arg0, arg1] K w :=
  runs_of_E wide (fn := Tryz.f83) (c := Tryz.f83.body.getD .skip) 9 A83 [arg0, arg1] w K Tryz.func83 (by kernel_rfl) (by kernel_rfl) (by kernel_rfl) (by kernel_rfl)
    (Eq.mp (by kernel_rfl : s83 Tryz.prog arg0 arg1 K w = E Tryz.prog (Tryz.f83.body.getD .skip) A83 (topK Tryz.prog K Tryz.f83.results) (fun i => (([arg0, arg1] : List Value)[i]?).getD undef) w) h)
theorem ct83 {arg0 arg1 : Value} {h : Hp} {post : Hp → Value → Prop} (hg : ∀ w0, Gs w0 h h [] (s83 Tryz.prog arg0 arg1 (RetP w0 h post))) : Ct Tryz.prog 83 [arg0, arg1] h post := Ct.of (sf := s83 Tryz.prog arg0 arg1) (c83 arg0 arg1) hg
theorem in83 {arg0 arg1 : Value} {S : WP} {K : Value → WP} (hg : G S (s83 Tryz.prog arg0 arg1 K)) : G S (Do Tryz.prog (vCall (.func (.func 83) #[] ⟨[]⟩) [arg0, arg1]) K) := Gs.into (args := [arg0, arg1]) (caps := []) (sf := s83 Tryz.prog arg0 arg1) (c83 arg0 arg1) hg

/- skewer/game.Valid$2 : names 0 c, 2 c -/
def s84 (P : Program) (arg0 arg1 : Value) (K : Value → WP) : WP :=
  Do P (V (Instr.box 89 arg0)) fun c1 =>
  Do P (V (Instr.loadAt 39 arg1)) fun t2_4 =>
  Do P (V (Instr.loadAt 89 c1)) fun t3_5 =>
  Do P (vCall (.func (.func 85) #[] ⟨[]⟩) [t2_4, t3_5]) fun t4_6 =>
  Do P (V (Op.unary .not t4_6)) fun t5_7 =>
  K t5_7
def A84 : Ann := .s (.n) (.s (.n) (.n))
set_option maxRecDepth 100000 in
theorem c84 (arg0 arg1 : Value) (K : Value → WP) (w : World) (h : s84 Tryz.prog arg0 arg1 K w) : Runs Tryz.prog 84 [arg0, arg1] K w :=
  runs_of_E wide (fn := Tryz.f84) (c := Tryz.f84.body.getD .skip) 8 A84 [arg0, arg1] w K Tryz.func84 (by kernel_rfl) (by kernel_rfl) (by kernel_rfl) (by kernel_rfl)
    (Eq.mp (by kernel_rfl : s84 Tryz.prog arg0 arg1 K w = E Tryz.prog (Tryz.f84.body.getD .skip) A84 (topK Tryz.prog K Tryz.f84.results) (fun i => (([arg0, arg1] : List Value)[i]?).getD undef) w) h)
theorem ct84 {arg0 arg1 : Value} {h : Hp} {post : Hp → Value → Prop} (hg : ∀ w0, Gs w0 h h [] (s84 Tryz.prog arg0 arg1 (RetP w0 h post))) : Ct Tryz.prog 84 [arg0, arg1] h post := Ct.of (sf := s84 Tryz.prog arg0 arg1) (c84 arg0 arg1) hg
theorem in84 {arg0 arg1 : Value} {S : WP} {K : Value → WP} (hg : G S (s84 Tryz.prog arg0 arg1 K)) : G S (Do Tryz.prog (vCall (.func (.func 84) #[] ⟨[arg1]⟩) [arg0]) K) := Gs.into (args := [arg0]) (caps := [arg1]) (sf := s84 Tryz.prog arg0 arg1) (c84 arg0 arg1) hg

/- skewer/game.right : names 0 g, 1 c, 2 g, 3 c, 5 kind -/
def s85 (P : Program) (arg0 arg1 : Value) (K : Value → WP) : WP :=
  Do P (V (Instr.box 39 arg0)) fun g1 =>
  Do P (V (Instr.box 89 arg1)) fun c2 =>
  Jn (α := Value) (fun j3 => Jk fun _ => -- kind
   Do P (V (Instr.fieldAt 89 c2 3)) fun t4_18 =>
   Do P (V (Instr.loadAt 3 t4_18)) fun t5_19 =>
   Do P (vCall (.func (.func 77) #[] ⟨[]⟩) [t5_19]) fun t6_20 =>
   Do P (V (Op.unary .not t6_20)) fun t7_21 =>
   If t7_21 (
    K (.bool false)
   ) (
    Do P (V (Instr.fieldAt 89 c2 0)) fun t8_23 =>
    Do P (V (Instr.loadAt 3 t8_23)) fun t9_24 =>
    Do P (V (EqG .eql 3 (.tmp 24) (.const (.int .i64 1)) t9_24 (.int .i64 1))) fun t10_25 =>
    If t10_25 (
     Gd j3 true (
      Do P (V (Instr.fieldAt 89 c2 2)) fun t11_28 =>
      Do P (V (Instr.loadAt 3 t11_28)) fun t12_29 =>
      Do P (V (EqG .eql 3 (.tmp 29) (.const (.int .i64 0)) t12_29 (.int .i64 0))) fun t13_30 =>
      K t13_30
     ) (
      K (.bool false)
     )
    ) (
     Do P (V (Instr.fieldAt 89 c2 0)) fun t14_33 =>
     Do P (V (Instr.loadAt 3 t14_33)) fun t15_34 =>
     Do P (V (EqG .eql 3 (.tmp 34) (.const (.int .i64 2)) t15_34 (.int .i64 2))) fun t16_35 =>
     If t16_35 (
      Gd j3 true (
       Do P (V (Instr.fieldAt 89 c2 2)) fun t17_38 =>
       Do P (V (Instr.loadAt 3 t17_38)) fun t18_39 =>
       Do P (V (binOp .geq 3 t18_39 (.int .i64 0))) fun t19_40 =>
       Gd t19_40 true (
        Do P (V (Instr.fieldAt 89 c2 2)) fun t20_43 =>
        Do P (V (Instr.loadAt 3 t20_43)) fun t21_44 =>
        Do P (V (Instr.fieldAt 39 g1 0)) fun t22_45 =>
        Do P (V (Instr.fieldAt 35 t22_45 0)) fun t23_46 =>
        Do P (V (Instr.loadAt 3 t23_46)) fun t24_47 =>
        Do P (V (binOp .lss 3 t21_44 t24_47)) fun t25_48 =>
        K t25_48
       ) (
        K (.bool false)
       )
      ) (
       K (.bool false)
      )
     ) (
      Do P (V (Instr.fieldAt 89 c2 0)) fun t26_50 =>
      Do P (V (Instr.loadAt 3 t26_50)) fun t27_51 =>
      Do P (V (EqG .eql 3 (.tmp 51) (.const (.int .i64 3)) t27_51 (.int .i64 3))) fun t28_52 =>
      Gd t28_52 true (
       Do P (V (Instr.fieldAt 89 c2 1)) fun t29_54 =>
       Do P (V (Instr.loadAt 3 t29_54)) fun t30_55 =>
       Do P (V (EqG .eql 3 (.tmp 55) (.const (.int .i64 0)) t30_55 (.int .i64 0))) fun t31_56 =>
       Gd t31_56 true (
        Do P (V (Instr.fieldAt 89 c2 2)) fun t32_59 =>
        Do P (V (Instr.loadAt 3 t32_59)) fun t33_60 =>
        Do P (V (binOp .geq 3 t33_60 (.int .i64 0))) fun t34_61 =>
        Gd t34_61 true (
         Do P (V (Instr.fieldAt 89 c2 2)) fun t35_64 =>
         Do P (V (Instr.loadAt 3 t35_64)) fun t36_65 =>
         Do P (V (binOp .leq 3 t36_65 (.int .i64 64))) fun t37_66 =>
         K t37_66
        ) (
         K (.bool false)
        )
       ) (
        K (.bool false)
       )
      ) (
       K (.bool false)
      )
     )
    )
   )
  ) fun k3 =>
  Do P (V (Instr.fieldAt 89 c2 1)) fun t38_6 =>
  Do P (V (Instr.loadAt 3 t38_6)) fun t39_7 =>
  Do P (V (binOp .geq 3 t39_7 (.int .i64 0))) fun t40_8 =>
  Gd t40_8 true (
   Do P (V (Instr.fieldAt 89 c2 1)) fun t41_10 =>
   Do P (V (Instr.loadAt 3 t41_10)) fun t42_11 =>
   Do P (V (Instr.fieldAt 39 g1 1)) fun t43_12 =>
   Do P (V (Instr.loadAt 36 t43_12)) fun t44_13 =>
   Do P (vBuiltin .len #[36] 3 [t44_13]) fun t45_14 =>
   Do P (V (binOp .lss 3 t42_11 t45_14)) fun t46_15 =>
   k3 t46_15
  ) (
   k3 (.bool false)
  )
def A85 : Ann := .s (.n) (.j [5] 131040 (.n) (.s (.s (.n) (.s (.s (.n) (.n)) (.s (.n) (.s (.s (.n) (.n)) (.s (.n) (.s (.s (.n) (.n)) (.n))))))) (.s (.n) (.n))))
set_option maxRecDepth 100000 in
theorem c85 (arg0 arg1 : Value) (K : Value → WP) (w : World) (h : s85 Tryz.prog arg0 arg1 K w) : Runs Tryz.prog 85 [arg0, arg1] K w :=
  runs_of_E wide (fn := Tryz.f85) (c := Tryz.f85.body.getD .skip) 68 A85 [arg0, arg1] w K Tryz.func85 (by kernel_rfl) (by kernel_rfl) (by kernel_rfl) (by kernel_rfl)
    (Eq.mp (by kernel_rfl : s85 Tryz.prog arg0 arg1 K w = E Tryz.prog (Tryz.f85.body.getD .skip) A85 (topK Tryz.prog K Tryz.f85.results) (fun i => (([arg0, arg1] : List Value)[i]?).getD undef) w) h)
theorem ct85 {arg0 arg1 : Value} {h : Hp} {post : Hp → Value → Prop} (hg : ∀ w0, Gs w0 h h [] (s85 Tryz.prog arg0 arg1 (RetP w0 h post))) : Ct Tryz.prog 85 [arg0, arg1] h post := Ct.of (sf := s85 Tryz.prog arg0 arg1) (c85 arg0 arg1) hg
theorem in85 {arg0 arg1 : Value} {S : WP} {K : Value → WP} (hg : G S (s85 Tryz.prog arg0 arg1 K)) : G S (Do Tryz.prog (vCall (.func (.func 85) #[] ⟨[]⟩) [arg0, arg1]) K) := Gs.into (args := [arg0, arg1]) (caps := []) (sf := s85 Tryz.prog arg0 arg1) (c85 arg0 arg1) hg

/- slices.IndexFunc[[]int,int] : names 0 s, 1 f, 2 s, 3 f, 5 i -/
def s88 (P : Program) (arg0 arg1 : Value) (K : Value → WP) : WP :=
  Do P (vBuiltin .len #[33] 3 [arg0]) fun t1_7 =>
  Lp (α := Value) (fun c2 s2 => Jk fun _ => -- t8
   Do P (V (binOp .lss 3 s2 t1_7)) fun t3_9 =>
   If t3_9 (
    Do P (V (Instr.indexAt 33 arg0 s2)) fun t4_14 =>
    Do P (V (Instr.loadAt 3 t4_14)) fun t5_15 =>
    Do P (vCall arg1 [t5_15]) fun t6_16 =>
    If t6_16 (
     K s2
    ) (
     Do P (V (binOp .add 3 s2 (.int .i64 1))) fun t7_18 =>
     c2 t7_18
    )
   ) (
    K (.int .i64 (-1))
   )
  ) (.int .i64 0)
def A88 : Ann := .s (.n) (.s (.s (.n) (.lp [8] 524080 (.s (.n) (.s (.s (.n) (.n)) (.s (.s (.n) (.s (.n) (.s (.s (.n) (.n)) (.n)))) (.n)))))) (.s (.n) (.n)))
set_option maxRecDepth 100000 in
theorem c88 (arg0 arg1 : Value) (K : Value → WP) (w : World) (h : s88 Tryz.prog arg0 arg1 K w) : Runs Tryz.prog 88 [arg0, arg1] K w :=
  runs_of_E wide (fn := Tryz.f88) (c := Tryz.f88.body.getD .skip) 19 A88 [arg0, arg1] w K Tryz.func88 (by kernel_rfl) (by kernel_rfl) (by kernel_rfl) (by kernel_rfl)
    (Eq.mp (by kernel_rfl : s88 Tryz.prog arg0 arg1 K w = E Tryz.prog (Tryz.f88.body.getD .skip) A88 (topK Tryz.prog K Tryz.f88.results) (fun i => (([arg0, arg1] : List Value)[i]?).getD undef) w) h)
theorem ct88 {arg0 arg1 : Value} {h : Hp} {post : Hp → Value → Prop} (hg : ∀ w0, Gs w0 h h [] (s88 Tryz.prog arg0 arg1 (RetP w0 h post))) : Ct Tryz.prog 88 [arg0, arg1] h post := Ct.of (sf := s88 Tryz.prog arg0 arg1) (c88 arg0 arg1) hg
theorem in88 {arg0 arg1 : Value} {S : WP} {K : Value → WP} (hg : G S (s88 Tryz.prog arg0 arg1 K)) : G S (Do Tryz.prog (vCall (.func (.func 88) #[] ⟨[]⟩) [arg0, arg1]) K) := Gs.into (args := [arg0, arg1]) (caps := []) (sf := s88 Tryz.prog arg0 arg1) (c88 arg0 arg1) hg

/- cmp.isNaN[int] : names 0 x, 1 x -/
def s91 (P : Program) (arg0 : Value) (K : Value → WP) : WP :=
  Do P (V (EqG .neq 3 (.tmp 3) (.tmp 4) arg0 arg0)) fun t1_5 =>
  K t1_5
def A91 : Ann := .s (.n) (.s (.n) (.n))
set_option maxRecDepth 100000 in
theorem c91 (arg0 : Value) (K : Value → WP) (w : World) (h : s91 Tryz.prog arg0 K w) : Runs Tryz.prog 91 [arg0] K w :=
  runs_of_E wide (fn := Tryz.f91) (c := Tryz.f91.body.getD .skip) 6 A91 [arg0] w K Tryz.func91 (by kernel_rfl) (by kernel_rfl) (by kernel_rfl) (by kernel_rfl)
    (Eq.mp (by kernel_rfl : s91 Tryz.prog arg0 K w = E Tryz.prog (Tryz.f91.body.getD .skip) A91 (topK Tryz.prog K Tryz.f91.results) (fun i => (([arg0] : List Value)[i]?).getD undef) w) h)
theorem ct91 {arg0 : Value} {h : Hp} {post : Hp → Value → Prop} (hg : ∀ w0, Gs w0 h h [] (s91 Tryz.prog arg0 (RetP w0 h post))) : Ct Tryz.prog 91 [arg0] h post := Ct.of (sf := s91 Tryz.prog arg0) (c91 arg0) hg
theorem in91 {arg0 : Value} {S : WP} {K : Value → WP} (hg : G S (s91 Tryz.prog arg0 K)) : G S (Do Tryz.prog (vCall (.func (.func 91) #[] ⟨[]⟩) [arg0]) K) := Gs.into (args := [arg0]) (caps := []) (sf := s91 Tryz.prog arg0) (c91 arg0) hg

/- slices.Grow[[]int,int] : names 0 s, 1 n, 2 s, 3 n -/
def s92 (P : Program) (arg0 arg1 : Value) (K : Value → WP) : WP :=
  Jn (α := Unit) (fun j1 => Jk fun _ => -- 
   Do P (vBuiltin .cap #[33] 3 [arg0]) fun t2_10 =>
   Do P (vBuiltin .len #[33] 3 [arg0]) fun t3_12 =>
   Do P (V (binOp .sub 3 t2_10 t3_12)) fun t4_13 =>
   Do P (V (binOp .sub 3 arg1 t4_13)) fun t5_14 =>
   Do P (V (binOp .gtr 3 t5_14 (.int .i64 0))) fun t6_16 =>
   If t6_16 (
    Do P (vBuiltin .cap #[33] 3 [arg0]) fun t7_19 =>
    Do P (V (Instr.sliceAt 33 arg0 none (some t7_19) none)) fun t8_20 =>
    Do P (vBuiltin .append #[33, 3] 33 [t8_20, t5_14]) fun t9_22 =>
    Do P (vBuiltin .len #[33] 3 [arg0]) fun t10_24 =>
    Do P (V (Instr.sliceAt 33 t9_22 none (some t10_24) none)) fun t11_25 =>
    K t11_25
   ) (
    K arg0
   )
  ) fun k1 =>
  Do P (V (binOp .lss 3 arg1 (.int .i64 0))) fun t12_6 =>
  If t12_6 (
   Do P (V (Instr.makeInterface 9 (.string ⟨#[99, 97, 110, 110, 111, 116, 32, 98, 101, 32, 110, 101, 103, 97, 116, 105, 118, 101]⟩))) fun t13_7 =>
   Do P (V (Instr.panic t13_7)) fun t14_x =>
   k1 ()
  ) (
   k1 ()
  )
def A92 : Ann := .s (.n) (.j [] 224 (.s (.n) (.s (.n) (.n))) (.s (.s (.n) (.s (.n) (.s (.n) (.n)))) (.s (.n) (.n))))
set_option maxRecDepth 100000 in
theorem c92 (arg0 arg1 : Value) (K : Value → WP) (w : World) (h : s92 Tryz.prog arg0 arg1 K w) : Runs Tryz.prog 92 [arg0, arg1] K w :=
  runs_of_E wide (fn := Tryz.f92) (c := Tryz.f92.body.getD .skip) 27 A92 [arg0, arg1] w K Tryz.func92 (by kernel_rfl) (by kernel_rfl) (by kernel_rfl) (by kernel_rfl)
    (Eq.mp (by kernel_rfl : s92 Tryz.prog arg0 arg1 K w = E Tryz.prog (Tryz.f92.body.getD .skip) A92 (topK Tryz.prog K Tryz.f92.results) (fun i => (([arg0, arg1] : List Value)[i]?).getD undef) w) h)
theorem ct92 {arg0 arg1 : Value} {h : Hp} {post : Hp → Value → Prop} (hg : ∀ w0, Gs w0 h h [] (s92 Tryz.prog arg0 arg1 (RetP w0 h post))) : Ct Tryz.prog 92 [arg0, arg1] h post := Ct.of (sf := s92 Tryz.prog arg0 arg1) (c92 arg0 arg1) hg
theorem in92 {arg0 arg1 : Value} {S : WP} {K : Value → WP} (hg : G S (s92 Tryz.prog arg0 arg1 K)) : G S (Do Tryz.prog (vCall (.func (.func 92) #[] ⟨[]⟩) [arg0, arg1]) K) := Gs.into (args := [arg0, arg1]) (caps := []) (sf := s92 Tryz.prog arg0 arg1) (c92 arg0 arg1) hg

/- (*strings.Builder).copyCheck : names 0 b, 1 b -/
def s93 (P : Program) (arg0 : Value) (K : Value → WP) : WP :=
  Do P (vNil arg0) fun t1_3 =>
  Do P (V (Instr.fieldAt 116 t1_3 0)) fun t2_4 =>
  Do P (V (Instr.loadAt 114 t2_4)) fun t3_5 =>
  Do P (V (EqG .eql 114 (.tmp 5) (.const (.pointer none)) t3_5 (.pointer none))) fun t4_6 =>
  If t4_6 (
   Do P (V (convert 114 181 arg0)) fun t5_9 =>
   Do P (vCall (.func (.func 128) #[] ⟨[]⟩) [t5_9]) fun t6_10 =>
   Do P (V (convert 181 114 t6_10)) fun t7_11 =>
   Do P (vNil arg0) fun t8_12 =>
   Do P (V (Instr.fieldAt 116 t8_12 0)) fun t9_13 =>
   Do P (U (Instr.storeAt 114 t9_13 t7_11)) fun t10_x =>
   K (.tuple #[])
  ) (
   Do P (vNil arg0) fun t11_15 =>
   Do P (V (Instr.fieldAt 116 t11_15 0)) fun t12_16 =>
   Do P (V (Instr.loadAt 114 t12_16)) fun t13_17 =>
   Do P (V (EqG .neq 114 (.tmp 17) (.tmp 18) t13_17 arg0)) fun t14_19 =>
   If t14_19 (
    fun _ => False
   ) (
    K (.tuple #[])
   )
  )
def A93 : Ann := .s (.n) (.s (.n) (.s (.n) (.s (.n) (.n))))
set_option maxRecDepth 100000 in
theorem c93 (arg0 : Value) (K : Value → WP) (w : World) (h : s93 Tryz.prog arg0 K w) : Runs Tryz.prog 93 [arg0] K w :=
  runs_of_E wide (fn := Tryz.f93) (c := Tryz.f93.body.getD .skip) 20 A93 [arg0] w K Tryz.func93 (by kernel_rfl) (by kernel_rfl) (by kernel_rfl) (by kernel_rfl)
    (Eq.mp (by kernel_rfl : s93 Tryz.prog arg0 K w = E Tryz.prog (Tryz.f93.body.getD .skip) A93 (topK Tryz.prog K Tryz.f93.results) (fun i => (([arg0] : List Value)[i]?).getD undef) w) h)
theorem ct93 {arg0 : Value} {h : Hp} {post : Hp → Value → Prop} (hg : ∀ w0, Gs w0 h h [] (s93 Tryz.prog arg0 (RetP w0 h post))) : Ct Tryz.prog 93 [arg0] h post := Ct.of (sf := s93 Tryz.prog arg0) (c93 arg0) hg
theorem in93 {arg0 : Value} {S : WP} {K : Value → WP} (hg : G S (s93 Tryz.prog arg0 K)) : G S (Do Tryz.prog (vCall (.func (.func 93) #[] ⟨[]⟩) [arg0]) K) := Gs.into (args := [arg0]) (caps := []) (sf := s93 Tryz.prog arg0) (c93 arg0) hg

/- (*strings.Builder).WriteString : names 0 b, 1 s, 2 b, 3 s -/
def s95 (P : Program) (arg0 arg1 : Value) (K : Value → WP) : WP :=
  Do P (vCall (.func (.func 93) #[] ⟨[]⟩) [arg0]) fun t1_7 =>
  Do P (vNil arg0) fun t2_10 =>
  Do P (V (Instr.fieldAt 116 t2_10 1)) fun t3_11 =>
  Do P (V (Instr.loadAt 22 t3_11)) fun t4_12 =>
  Do P (vBuiltin .append #[22, 9] 22 [t4_12, arg1]) fun t5_14 =>
  Do P (vNil arg0) fun t6_15 =>
  Do P (V (Instr.fieldAt 116 t6_15 1)) fun t7_16 =>
  Do P (U (Instr.storeAt 22 t7_16 t5_14)) fun t8_x =>
  Do P (vBuiltin .len #[9] 3 [arg1]) fun t9_18 =>
  K (.tuple #[t9_18, .nilIface])
def A95 : Ann := .s (.n) (.s (.n) (.s (.n) (.s (.n) (.n))))
set_option maxRecDepth 100000 in
theorem c95 (arg0 arg1 : Value) (K : Value → WP) (w : World) (h : s95 Tryz.prog arg0 arg1 K w) : Runs Tryz.prog 95 [arg0, arg1] K w :=
  runs_of_E wide (fn := Tryz.f95) (c := Tryz.f95.body.getD .skip) 19 A95 [arg0, arg1] w K Tryz.func95 (by kernel_rfl) (by kernel_rfl) (by kernel_rfl) (by kernel_rfl)
    (Eq.mp (by kernel_rfl : s95 Tryz.prog arg0 arg1 K w = E Tryz.prog (Tryz.f95.body.getD .skip) A95 (topK Tryz.prog K Tryz.f95.results) (fun i => (([arg0, arg1] : List Value)[i]?).getD undef) w) h)
theorem ct95 {arg0 arg1 : Value} {h : Hp} {post : Hp → Value → Prop} (hg : ∀ w0, Gs w0 h h [] (s95 Tryz.prog arg0 arg1 (RetP w0 h post))) : Ct Tryz.prog 95 [arg0, arg1] h post := Ct.of (sf := s95 Tryz.prog arg0 arg1) (c95 arg0 arg1) hg
theorem in95 {arg0 arg1 : Value} {S : WP} {K : Value → WP} (hg : G S (s95 Tryz.prog arg0 arg1 K)) : G S (Do Tryz.prog (vCall (.func (.func 95) #[] ⟨[]⟩) [arg0, arg1]) K) := Gs.into (args := [arg0, arg1]) (caps := []) (sf := s95 Tryz.prog arg0 arg1) (c95 arg0 arg1) hg

/- skewer/skewerref02.at : names 0 l, 1 i, 2 l, 3 i -/
def s97 (P : Program) (arg0 arg1 : Value) (K : Value → WP) : WP :=
  Do P (vBuiltin .len #[22] 3 [arg0]) fun t1_7 =>
  Do P (V (binOp .lss 3 arg1 t1_7)) fun t2_8 =>
  If t2_8 (
   Do P (V (Instr.indexAt 22 arg0 arg1)) fun t3_11 =>
   Do P (V (Instr.loadAt 5 t3_11)) fun t4_12 =>
   Do P (V (convert 5 3 t4_12)) fun t5_13 =>
   K t5_13
  ) (
   K (.int .i64 0)
  )
def A97 : Ann := .s (.n) (.s (.s (.n) (.s (.s (.n) (.n)) (.n))) (.s (.n) (.n)))
set_option maxRecDepth 100000 in
theorem c97 (arg0 arg1 : Value) (K : Value → WP) (w : World) (h : s97 Tryz.prog arg0 arg1 K w) : Runs Tryz.prog 97 [arg0, arg1] K w :=
  runs_of_E wide (fn := Tryz.f97) (c := Tryz.f97.body.getD .skip) 14 A97 [arg0, arg1] w K Tryz.func97 (by kernel_rfl) (by kernel_rfl) (by kernel_rfl) (by kernel_rfl)
    (Eq.mp (by kernel_rfl : s97 Tryz.prog arg0 arg1 K w = E Tryz.prog (Tryz.f97.body.getD .skip) A97 (topK Tryz.prog K Tryz.f97.results) (fun i => (([arg0, arg1] : List Value)[i]?).getD undef) w) h)
theorem ct97 {arg0 arg1 : Value} {h : Hp} {post : Hp → Value → Prop} (hg : ∀ w0, Gs w0 h h [] (s97 Tryz.prog arg0 arg1 (RetP w0 h post))) : Ct Tryz.prog 97 [arg0, arg1] h post := Ct.of (sf := s97 Tryz.prog arg0 arg1) (c97 arg0 arg1) hg
theorem in97 {arg0 arg1 : Value} {S : WP} {K : Value → WP} (hg : G S (s97 Tryz.prog arg0 arg1 K)) : G S (Do Tryz.prog (vCall (.func (.func 97) #[] ⟨[]⟩) [arg0, arg1]) K) := Gs.into (args := [arg0, arg1]) (caps := []) (sf := s97 Tryz.prog arg0 arg1) (c97 arg0 arg1) hg

/- skewer/board.Valid$1 : names 0 n, 1 least, 2 most, 3 n, 4 least, 5 most -/
def s101 (P : Program) (arg0 arg1 arg2 : Value) (K : Value → WP) : WP :=
  Do P (V (binOp .leq 3 arg1 arg0)) fun t1_9 =>
  Gd t1_9 true (
   Do P (V (binOp .leq 3 arg0 arg2)) fun t2_13 =>
   K t2_13
  ) (
   K (.bool false)
  )
def A101 : Ann := .s (.n) (.s (.n) (.n))
set_option maxRecDepth 100000 in
theorem c101 (arg0 arg1 arg2 : Value) (K : Value → WP) (w : World) (h : s101 Tryz.prog arg0 arg1 arg2 K w) : Runs Tryz.prog 101 [arg0, arg1, arg2] K w :=
  runs_of_E wide (fn := Tryz.f101) (c := Tryz.f101.body.getD .skip) 15 A101 [arg0, arg1, arg2] w K Tryz.func101 (by kernel_rfl) (by kernel_rfl) (by kernel_rfl) (by kernel_rfl)
    (Eq.mp (by kernel_rfl : s101 Tryz.prog arg0 arg1 arg2 K w = E Tryz.prog (Tryz.f101.body.getD .skip) A101 (topK Tryz.prog K Tryz.f101.results) (fun i => (([arg0, arg1, arg2] : List Value)[i]?).getD undef) w) h)
theorem ct101 {arg0 arg1 arg2 : Value} {h : Hp} {post : Hp → Value → Prop} (hg : ∀ w0, Gs w0 h h [] (s101 Tryz.prog arg0 arg1 arg2 (RetP w0 h post))) : Ct Tryz.prog 101 [arg0, arg1, arg2] h post := Ct.of (sf := s101 Tryz.prog arg0 arg1 arg2) (c101 arg0 arg1 arg2) hg
theorem in101 {arg0 arg1 arg2 : Value} {S : WP} {K : Value → WP} (hg : G S (s101 Tryz.prog arg0 arg1 arg2 K)) : G S (Do Tryz.prog (vCall (.func (.func 101) #[] ⟨[]⟩) [arg0, arg1, arg2]) K) := Gs.into (args := [arg0, arg1, arg2]) (caps := []) (sf := s101 Tryz.prog arg0 arg1 arg2) (c101 arg0 arg1 arg2) hg

/- skewer/board.Valid$2 : names 0 c, 3 c -/
def s102 (P : Program) (arg0 arg1 arg2 : Value) (K : Value → WP) : WP :=
  Do P (V (Instr.loadAt 150 arg1)) fun t1_5 =>
  Do P (V (Instr.fieldAt 35 arg2 0)) fun t2_7 =>
  Do P (V (Instr.loadAt 3 t2_7)) fun t3_8 =>
  Do P (V (binOp .sub 3 t3_8 (.int .i64 1))) fun t4_9 =>
  Do P (vCall t1_5 [arg0, (.int .i64 (-1)), t4_9]) fun t5_10 =>
  Do P (V (Op.unary .not t5_10)) fun t6_11 =>
  K t6_11
def A102 : Ann := .s (.n) (.s (.n) (.n))
set_option maxRecDepth 100000 in
theorem c102 (arg0 arg1 arg2 : Value) (K : Value → WP) (w : World) (h : s102 Tryz.prog arg0 arg1 arg2 K w) : Runs Tryz.prog 102 [arg0, arg1, arg2] K w :=
  runs_of_E wide (fn := Tryz.f102) (c := Tryz.f102.body.getD .skip) 12 A102 [arg0, arg1, arg2] w K Tryz.func102 (by kernel_rfl) (by kernel_rfl) (by kernel_rfl) (by kernel_rfl)
    (Eq.mp (by kernel_rfl : s102 Tryz.prog arg0 arg1 arg2 K w = E Tryz.prog (Tryz.f102.body.getD .skip) A102 (topK Tryz.prog K Tryz.f102.results) (fun i => (([arg0, arg1, arg2] : List Value)[i]?).getD undef) w) h)
theorem ct102 {arg0 arg1 arg2 : Value} {h : Hp} {post : Hp → Value → Prop} (hg : ∀ w0, Gs w0 h h [] (s102 Tryz.prog arg0 arg1 arg2 (RetP w0 h post))) : Ct Tryz.prog 102 [arg0, arg1, arg2] h post := Ct.of (sf := s102 Tryz.prog arg0 arg1 arg2) (c102 arg0 arg1 arg2) hg
theorem in102 {arg0 arg1 arg2 : Value} {S : WP} {K : Value → WP} (hg : G S (s102 Tryz.prog arg0 arg1 arg2 K)) : G S (Do Tryz.prog (vCall (.func (.func 102) #[] ⟨[arg1, arg2]⟩) [arg0]) K) := Gs.into (args := [arg0]) (caps := [arg1, arg2]) (sf := s102 Tryz.prog arg0 arg1 arg2) (c102 arg0 arg1 arg2) hg

/- skewer/prog.Valid$1 : names 0 x, 2 x, 4 r, 5 ok -/
def s103 (P : Program) (arg0 arg1 : Value) (K : Value → WP) : WP :=
  Do P (V (Instr.box 146 arg0)) fun x1 =>
  Do P (V (Instr.fieldAt 146 x1 0)) fun t2_7 =>
  Do P (V (Instr.loadAt 3 t2_7)) fun t3_8 =>
  Do P (vCall (.func (.func 104) #[] ⟨[]⟩) [t3_8]) fun t4_9 =>
  Do P (V (Instr.extract t4_9 0)) fun t5_10 =>
  Do P (V (Instr.extract t4_9 1)) fun t6_11 =>
  Do P (V (Instr.alloc 153 true (.tuple #[]))) fun r7 =>
  Do P (U (Instr.storeAt 153 r7 t5_10)) fun t8_x =>
  Dr <|
  Qk P (V (Op.unary .not t6_11)) fun C9 t9_13 =>
  Gd t9_13 false (
   Qk P (V (Instr.fieldAt 146 x1 1)) fun C10 t10_15 =>
   Qk P (V (Instr.loadAt 3 t10_15)) fun C11 t11_16 =>
   Qk P (V (binOp .lss 3 t11_16 (.int .i64 0))) fun C12 t12_17 =>
   Gd t12_17 false (
    Qk P (V (Instr.fieldAt 146 x1 1)) fun C13 t13_20 =>
    Qk P (V (Instr.loadAt 3 t13_20)) fun C14 t14_21 =>
    Qk P (V (Instr.fieldAt 153 r7 1)) fun C15 t15_22 =>
    Qk P (V (Instr.loadAt 3 t15_22)) fun C16 t16_23 =>
    Qk P (V (Instr.indexAt 151 arg1 t16_23)) fun C17 t17_24 =>
    Qk P (V (Instr.loadAt 3 t17_24)) fun C18 t18_25 =>
    Qk P (V (binOp .geq 3 t14_21 t18_25)) fun C19 t19_26 =>
    K t19_26
   ) (
    K (.bool true)
   )
  ) (
   K (.bool true)
  )
def A103 : Ann := .s (.n) (.s (.n) (.s (.plan [(0, 32, 4096), (1, 4096, 8192), (2, 8192, 16384), (4, 16388, 32768), (12, 49152, 65536), (20, 81920, 131072), (36, 147456, 262144), (68, 262144, 524288), (128, 524292, 1048576), (384, 1572864, 2097152), (128, 524304, 4194304), (1152, 4718592, 8388608), (2176, 8912898, 16777216), (4224, 17301504, 33554432), (8832, 36175872, 67108864), (16512, 67633152, 134217728), (65535, 134217728, 8)] (.q 0 (.q 1 (.q 2 (.q 3 (.q 4 (.q 5 (.q 6 (.q 7 (.q 8 (.q 9 (.q 10 (.q 11 (.q 12 (.q 13 (.q 14 (.q 15 (.q 16 .done)))))))))))))))))) (.n)))
set_option maxRecDepth 100000 in
theorem c103 (arg0 arg1 : Value) (K : Value → WP) (w : World) (h : s103 Tryz.prog arg0 arg1 K w) : Runs Tryz.prog 103 [arg0, arg1] K w :=
  runs_of_E wide (fn := Tryz.f103) (c := Tryz.f103.body.getD .skip) 28 A103 [arg0, arg1] w K Tryz.func103 (by kernel_rfl) (by kernel_rfl) (by kernel_rfl) (by kernel_rfl)
    (Eq.mp (by kernel_rfl : s103 Tryz.prog arg0 arg1 K w = E Tryz.prog (Tryz.f103.body.getD .skip) A103 (topK Tryz.prog K Tryz.f103.results) (fun i => (([arg0, arg1] : List Value)[i]?).getD undef) w) h)
theorem ct103 {arg0 arg1 : Value} {h : Hp} {post : Hp → Value → Prop} (hg : ∀ w0, Gs w0 h h [] (s103 Tryz.prog arg0 arg1 (RetP w0 h post))) : Ct Tryz.prog 103 [arg0, arg1] h post := Ct.of (sf := s103 Tryz.prog arg0 arg1) (c103 arg0 arg1) hg
theorem in103 {arg0 arg1 : Value} {S : WP} {K : Value → WP} (hg : G S (s103 Tryz.prog arg0 arg1 K)) : G S (Do Tryz.prog (vCall (.func (.func 103) #[] ⟨[arg1]⟩) [arg0]) K) := Gs.into (args := [arg0]) (caps := [arg1]) (sf := s103 Tryz.prog arg0 arg1) (c103 arg0 arg1) hg

/- skewer/prog.find : names 0 op, 1 op -/
def s104 (P : Program) (arg0 : Value) (K : Value → WP) : WP :=
  Do P (V (Instr.alloc 153 true (.tuple #[]))) fun t1_2 =>
  Jn (α := Value) (fun j2 => Jk fun _ => -- t9
   If j2 (
    Do P (vBuild 153 []) fun t3_10 =>
    Do P (U (Instr.storeAt 153 t1_2 t3_10)) fun t4_x =>
    RetC P 153 t1_2 fun r => K (.tuple #[r, (.bool false)])
   ) (
    Do P (vCall (.func (.func 135) #[] ⟨[]⟩) []) fun t5_11 =>
    Do P (V (Instr.index 188 t5_11 arg0)) fun t6_13 =>
    Do P (U (Instr.storeAt 153 t1_2 t6_13)) fun t7_x =>
    RetC P 153 t1_2 fun r => K (.tuple #[r, (.bool true)])
   )
  ) fun k2 =>
  Do P (V (binOp .lss 3 arg0 (.int .i64 1))) fun t8_5 =>
  Gd t8_5 false (
   Do P (V (binOp .gtr 3 arg0 (.int .i64 10))) fun t9_8 =>
   k2 t9_8
  ) (
   k2 (.bool true)
  )
def A104 : Ann := .s (.n) (.s (.j [9] 1008 (.n) (.s (.s (.n) (.n)) (.n))) (.s (.n) (.n)))
set_option maxRecDepth 100000 in
theorem c104 (arg0 : Value) (K : Value → WP) (w : World) (h : s104 Tryz.prog arg0 K w) : Runs Tryz.prog 104 [arg0] K w :=
  runs_of_E wide (fn := Tryz.f104) (c := Tryz.f104.body.getD .skip) 14 A104 [arg0] w K Tryz.func104 (by kernel_rfl) (by kernel_rfl) (by kernel_rfl) (by kernel_rfl)
    (Eq.mp (by kernel_rfl : s104 Tryz.prog arg0 K w = E Tryz.prog (Tryz.f104.body.getD .skip) A104 (topK Tryz.prog K Tryz.f104.results) (fun i => (([arg0] : List Value)[i]?).getD undef) w) h)
theorem ct104 {arg0 : Value} {h : Hp} {post : Hp → Value → Prop} (hg : ∀ w0, Gs w0 h h [] (s104 Tryz.prog arg0 (RetP w0 h post))) : Ct Tryz.prog 104 [arg0] h post := Ct.of (sf := s104 Tryz.prog arg0) (c104 arg0) hg
theorem in104 {arg0 : Value} {S : WP} {K : Value → WP} (hg : G S (s104 Tryz.prog arg0 K)) : G S (Do Tryz.prog (vCall (.func (.func 104) #[] ⟨[]⟩) [arg0]) K) := Gs.into (args := [arg0]) (caps := []) (sf := s104 Tryz.prog arg0) (c104 arg0) hg

/- slices.ContainsFunc[skewer/api.Prog,skewer/api.Step] : names 0 s, 1 f, 2 s, 3 f -/
def s105 (P : Program) (arg0 arg1 : Value) (K : Value → WP) : WP :=
  Do P (vCall (.func (.func 136) #[] ⟨[]⟩) [arg0, arg1]) fun t1_7 =>
  Do P (V (binOp .geq 3 t1_7 (.int .i64 0))) fun t2_8 =>
  K t2_8
def A105 : Ann := .s (.n) (.s (.n) (.n))
set_option maxRecDepth 100000 in
theorem c105 (arg0 arg1 : Value) (K : Value → WP) (w : World) (h : s105 Tryz.prog arg0 arg1 K w) : Runs Tryz.prog 105 [arg0, arg1] K w :=
  runs_of_E wide (fn := Tryz.f105) (c := Tryz.f105.body.getD .skip) 9 A105 [arg0, arg1] w K Tryz.func105 (by kernel_rfl) (by kernel_rfl) (by kernel_rfl) (by kernel_rfl)
    (Eq.mp (by kernel_rfl : s105 Tryz.prog arg0 arg1 K w = E Tryz.prog (Tryz.f105.body.getD .skip) A105 (topK Tryz.prog K Tryz.f105.results) (fun i => (([arg0, arg1] : List Value)[i]?).getD undef) w) h)
theorem ct105 {arg0 arg1 : Value} {h : Hp} {post : Hp → Value → Prop} (hg : ∀ w0, Gs w0 h h [] (s105 Tryz.prog arg0 arg1 (RetP w0 h post))) : Ct Tryz.prog 105 [arg0, arg1] h post := Ct.of (sf := s105 Tryz.prog arg0 arg1) (c105 arg0 arg1) hg
theorem in105 {arg0 arg1 : Value} {S : WP} {K : Value → WP} (hg : G S (s105 Tryz.prog arg0 arg1 K)) : G S (Do Tryz.prog (vCall (.func (.func 105) #[] ⟨[]⟩) [arg0, arg1]) K) := Gs.into (args := [arg0, arg1]) (caps := []) (sf := s105 Tryz.prog arg0 arg1) (c105 arg0 arg1) hg

/- skewer/prog.count : names 0 p, 1 op, 2 p, 3 op, 5 n, 6 _, 7 x -/
def s106 (P : Program) (arg0 arg1 : Value) (K : Value → WP) : WP :=
  Do P (vBuiltin .len #[85] 3 [arg0]) fun t1_9 =>
  Lp (α := Value × Value) (fun c2 s2 => Jk fun _ => -- n t10
   Do P (V (binOp .lss 3 s2.2 t1_9)) fun t3_11 =>
   If t3_11 (
    Jn (α := Value) (fun j4 => Jk fun _ => -- n
     Do P (V (binOp .add 3 s2.2 (.int .i64 1))) fun t5_20 =>
     c2 (j4, t5_20)
    ) fun k4 =>
    Do P (V (Instr.indexAt 85 arg0 s2.2)) fun t6_12 =>
    Do P (V (Instr.loadAt 146 t6_12)) fun t7_13 =>
    Do P (V (Instr.alloc 146 true (.tuple #[]))) fun x8 =>
    Do P (U (Instr.storeAt 146 x8 t7_13)) fun t9_x =>
    Do P (V (Instr.fieldAt 146 x8 0)) fun t10_14 =>
    Do P (V (Instr.loadAt 3 t10_14)) fun t11_15 =>
    Do P (V (EqG .eql 3 (.tmp 15) (.tmp 16) t11_15 arg1)) fun t12_17 =>
    If t12_17 (
     Do P (V (binOp .add 3 s2.1 (.int .i64 1))) fun t13_19 =>
     k4 t13_19
    ) (
     k4 s2.1
    )
   ) (
    K s2.1
   )
  ) ((.int .i64 0), (.int .i64 0))
def A106 : Ann := .s (.n) (.s (.n) (.s (.s (.n) (.lp [5, 10] 2096288 (.s (.n) (.s (.s (.n) (.n)) (.j [5] 1044640 (.s (.n) (.s (.n) (.s (.n) (.n)))) (.n)))))) (.s (.n) (.n))))
set_option maxRecDepth 100000 in
theorem c106 (arg0 arg1 : Value) (K : Value → WP) (w : World) (h : s106 Tryz.prog arg0 arg1 K w) : Runs Tryz.prog 106 [arg0, arg1] K w :=
  runs_of_E wide (fn := Tryz.f106) (c := Tryz.f106.body.getD .skip) 22 A106 [arg0, arg1] w K Tryz.func106 (by kernel_rfl) (by kernel_rfl) (by kernel_rfl) (by kernel_rfl)
    (Eq.mp (by kernel_rfl : s106 Tryz.prog arg0 arg1 K w = E Tryz.prog (Tryz.f106.body.getD .skip) A106 (topK Tryz.prog K Tryz.f106.results) (fun i => (([arg0, arg1] : List Value)[i]?).getD undef) w) h)
theorem ct106 {arg0 arg1 : Value} {h : Hp} {post : Hp → Value → Prop} (hg : ∀ w0, Gs w0 h h [] (s106 Tryz.prog arg0 arg1 (RetP w0 h post))) : Ct Tryz.prog 106 [arg0, arg1] h post := Ct.of (sf := s106 Tryz.prog arg0 arg1) (c106 arg0 arg1) hg
theorem in106 {arg0 arg1 : Value} {S : WP} {K : Value → WP} (hg : G S (s106 Tryz.prog arg0 arg1 K)) : G S (Do Tryz.prog (vCall (.func (.func 106) #[] ⟨[]⟩) [arg0, arg1]) K) := Gs.into (args := [arg0, arg1]) (caps := []) (sf := s106 Tryz.prog arg0 arg1) (c106 arg0 arg1) hg

/- skewer/game.validName$1 : names 0 r, 1 r -/
def s108 (P : Program) (arg0 : Value) (K : Value → WP) : WP :=
  Do P (V (binOp .lss 21 arg0 (.int .i32 97))) fun t1_4 =>
  Gd t1_4 false (
   Do P (V (binOp .gtr 21 arg0 (.int .i32 122))) fun t2_7 =>
   K t2_7
  ) (
   K (.bool true)
  )
def A108 : Ann := .s (.n) (.s (.n) (.n))
set_option maxRecDepth 100000 in
theorem c108 (arg0 : Value) (K : Value → WP) (w : World) (h : s108 Tryz.prog arg0 K w) : Runs Tryz.prog 108 [arg0] K w :=
  runs_of_E wide (fn := Tryz.f108) (c := Tryz.f108.body.getD .skip) 9 A108 [arg0] w K Tryz.func108 (by kernel_rfl) (by kernel_rfl) (by kernel_rfl) (by kernel_rfl)
    (Eq.mp (by kernel_rfl : s108 Tryz.prog arg0 K w = E Tryz.prog (Tryz.f108.body.getD .skip) A108 (topK Tryz.prog K Tryz.f108.results) (fun i => (([arg0] : List Value)[i]?).getD undef) w) h)
theorem ct108 {arg0 : Value} {h : Hp} {post : Hp → Value → Prop} (hg : ∀ w0, Gs w0 h h [] (s108 Tryz.prog arg0 (RetP w0 h post))) : Ct Tryz.prog 108 [arg0] h post := Ct.of (sf := s108 Tryz.prog arg0) (c108 arg0) hg
theorem in108 {arg0 : Value} {S : WP} {K : Value → WP} (hg : G S (s108 Tryz.prog arg0 K)) : G S (Do Tryz.prog (vCall (.func (.func 108) #[] ⟨[]⟩) [arg0]) K) := Gs.into (args := [arg0]) (caps := []) (sf := s108 Tryz.prog arg0) (c108 arg0) hg

/- slices.IndexFunc[[]skewer/api.Kind,skewer/api.Kind] : names 0 s, 1 f, 2 s, 3 f, 5 i -/
def s109 (P : Program) (arg0 arg1 : Value) (K : Value → WP) : WP :=
  Do P (vBuiltin .len #[36] 3 [arg0]) fun t1_7 =>
  Lp (α := Value) (fun c2 s2 => Jk fun _ => -- t8
   Do P (V (binOp .lss 3 s2 t1_7)) fun t3_9 =>
   If t3_9 (
    Do P (V (Instr.indexAt 36 arg0 s2)) fun t4_14 =>
    Do P (V (Instr.loadAt 59 t4_14)) fun t5_15 =>
    Do P (vCall arg1 [t5_15]) fun t6_16 =>
    If t6_16 (
     K s2
    ) (
     Do P (V (binOp .add 3 s2 (.int .i64 1))) fun t7_18 =>
     c2 t7_18
    )
   ) (
    K (.int .i64 (-1))
   )
  ) (.int .i64 0)
def A109 : Ann := .s (.n) (.s (.s (.n) (.lp [8] 524080 (.s (.n) (.s (.s (.n) (.n)) (.s (.s (.n) (.s (.n) (.s (.s (.n) (.n)) (.n)))) (.n)))))) (.s (.n) (.n)))
set_option maxRecDepth 100000 in
theorem c109 (arg0 arg1 : Value) (K : Value → WP) (w : World) (h : s109 Tryz.prog arg0 arg1 K w) : Runs Tryz.prog 109 [arg0, arg1] K w :=
  runs_of_E wide (fn := Tryz.f109) (c := Tryz.f109.body.getD .skip) 19 A109 [arg0, arg1] w K Tryz.func109 (by kernel_rfl) (by kernel_rfl) (by kernel_rfl) (by kernel_rfl)
    (Eq.mp (by kernel_rfl : s109 Tryz.prog arg0 arg1 K w = E Tryz.prog (Tryz.f109.body.getD .skip) A109 (topK Tryz.prog K Tryz.f109.results) (fun i => (([arg0, arg1] : List Value)[i]?).getD undef) w) h)
theorem ct109 {arg0 arg1 : Value} {h : Hp} {post : Hp → Value → Prop} (hg : ∀ w0, Gs w0 h h [] (s109 Tryz.prog arg0 arg1 (RetP w0 h post))) : Ct Tryz.prog 109 [arg0, arg1] h post := Ct.of (sf := s109 Tryz.prog arg0 arg1) (c109 arg0 arg1) hg
theorem in109 {arg0 arg1 : Value} {S : WP} {K : Value → WP} (hg : G S (s109 Tryz.prog arg0 arg1 K)) : G S (Do Tryz.prog (vCall (.func (.func 109) #[] ⟨[]⟩) [arg0, arg1]) K) := Gs.into (args := [arg0, arg1]) (caps := []) (sf := s109 Tryz.prog arg0 arg1) (c109 arg0 arg1) hg

/- skewer/game.Find$1 : names 0 k, 2 k -/
def s110 (P : Program) (arg0 arg1 : Value) (K : Value → WP) : WP :=
  Do P (V (Instr.box 59 arg0)) fun k1 =>
  Do P (V (Instr.fieldAt 59 k1 0)) fun t2_4 =>
  Do P (V (Instr.loadAt 9 t2_4)) fun t3_5 =>
  Do P (V (Instr.loadAt 9 arg1)) fun t4_6 =>
  Do P (V (EqG .eql 9 (.tmp 5) (.tmp 6) t3_5 t4_6)) fun t5_7 =>
  K t5_7
def A110 : Ann := .s (.n) (.s (.n) (.n))
set_option maxRecDepth 100000 in
theorem c110 (arg0 arg1 : Value) (K : Value → WP) (w : World) (h : s110 Tryz.prog arg0 arg1 K w) : Runs Tryz.prog 110 [arg0, arg1] K w :=
  runs_of_E wide (fn := Tryz.f110) (c := Tryz.f110.body.getD .skip) 8 A110 [arg0, arg1] w K Tryz.func110 (by kernel_rfl) (by kernel_rfl) (by kernel_rfl) (by kernel_rfl)
    (Eq.mp (by kernel_rfl : s110 Tryz.prog arg0 arg1 K w = E Tryz.prog (Tryz.f110.body.getD .skip) A110 (topK Tryz.prog K Tryz.f110.results) (fun i => (([arg0, arg1] : List Value)[i]?).getD undef) w) h)
theorem ct110 {arg0 arg1 : Value} {h : Hp} {post : Hp → Value → Prop} (hg : ∀ w0, Gs w0 h h [] (s110 Tryz.prog arg0 arg1 (RetP w0 h post))) : Ct Tryz.prog 110 [arg0, arg1] h post := Ct.of (sf := s110 Tryz.prog arg0 arg1) (c110 arg0 arg1) hg
theorem in110 {arg0 arg1 : Value} {S : WP} {K : Value → WP} (hg : G S (s110 Tryz.prog arg0 arg1 K)) : G S (Do Tryz.prog (vCall (.func (.func 110) #[] ⟨[arg1]⟩) [arg0]) K) := Gs.into (args := [arg0]) (caps := [arg1]) (sf := s110 Tryz.prog arg0 arg1) (c110 arg0 arg1) hg

/- slices.IndexFunc[[]skewer/api.Prog,skewer/api.Prog] : names 0 s, 1 f, 2 s, 3 f, 5 i -/
def s111 (P : Program) (arg0 arg1 : Value) (K : Value → WP) : WP :=
  Do P (vBuiltin .len #[57] 3 [arg0]) fun t1_7 =>
  Lp (α := Value) (fun c2 s2 => Jk fun _ => -- t8
   Do P (V (binOp .lss 3 s2 t1_7)) fun t3_9 =>
   If t3_9 (
    Do P (V (Instr.indexAt 57 arg0 s2)) fun t4_14 =>
    Do P (V (Instr.loadAt 85 t4_14)) fun t5_15 =>
    Do P (vCall arg1 [t5_15]) fun t6_16 =>
    If t6_16 (
     K s2
    ) (
     Do P (V (binOp .add 3 s2 (.int .i64 1))) fun t7_18 =>
     c2 t7_18
    )
   ) (
    K (.int .i64 (-1))
   )
  ) (.int .i64 0)
def A111 : Ann := .s (.n) (.s (.s (.n) (.lp [8] 524080 (.s (.n) (.s (.s (.n) (.n)) (.s (.s (.n) (.s (.n) (.s (.s (.n) (.n)) (.n)))) (.n)))))) (.s (.n) (.n)))
set_option maxRecDepth 100000 in
theorem c111 (arg0 arg1 : Value) (K : Value → WP) (w : World) (h : s111 Tryz.prog arg0 arg1 K w) : Runs Tryz.prog 111 [arg0, arg1] K w :=
  runs_of_E wide (fn := Tryz.f111) (c := Tryz.f111.body.getD .skip) 19 A111 [arg0, arg1] w K Tryz.func111 (by kernel_rfl) (by kernel_rfl) (by kernel_rfl) (by kernel_rfl)
    (Eq.mp (by kernel_rfl : s111 Tryz.prog arg0 arg1 K w = E Tryz.prog (Tryz.f111.body.getD .skip) A111 (topK Tryz.prog K Tryz.f111.results) (fun i => (([arg0, arg1] : List Value)[i]?).getD undef) w) h)
theorem ct111 {arg0 arg1 : Value} {h : Hp} {post : Hp → Value → Prop} (hg : ∀ w0, Gs w0 h h [] (s111 Tryz.prog arg0 arg1 (RetP w0 h post))) : Ct Tryz.prog 111 [arg0, arg1] h post := Ct.of (sf := s111 Tryz.prog arg0 arg1) (c111 arg0 arg1) hg
theorem in111 {arg0 arg1 : Value} {S : WP} {K : Value → WP} (hg : G S (s111 Tryz.prog arg0 arg1 K)) : G S (Do Tryz.prog (vCall (.func (.func 111) #[] ⟨[]⟩) [arg0, arg1]) K) := Gs.into (args := [arg0, arg1]) (caps := []) (sf := s111 Tryz.prog arg0 arg1) (c111 arg0 arg1) hg

/- slices.IndexFunc[[]skewer/api.Clause,skewer/api.Clause] : names 0 s, 1 f, 2 s, 3 f, 5 i -/
def s112 (P : Program) (arg0 arg1 : Value) (K : Value → WP) : WP :=
  Do P (vBuiltin .len #[37] 3 [arg0]) fun t1_7 =>
  Lp (α := Value) (fun c2 s2 => Jk fun _ => -- t8
   Do P (V (binOp .lss 3 s2 t1_7)) fun t3_9 =>
   If t3_9 (
    Do P (V (Instr.indexAt 37 arg0 s2)) fun t4_14 =>
    Do P (V (Instr.loadAt 89 t4_14)) fun t5_15 =>
    Do P (vCall arg1 [t5_15]) fun t6_16 =>
    If t6_16 (
     K s2
    ) (
     Do P (V (binOp .add 3 s2 (.int .i64 1))) fun t7_18 =>
     c2 t7_18
    )
   ) (
    K (.int .i64 (-1))
   )
  ) (.int .i64 0)
def A112 : Ann := .s (.n) (.s (.s (.n) (.lp [8] 524080 (.s (.n) (.s (.s (.n) (.n)) (.s (.s (.n) (.s (.n) (.s (.s (.n) (.n)) (.n)))) (.n)))))) (.s (.n) (.n)))
set_option maxRecDepth 100000 in
theorem c112 (arg0 arg1 : Value) (K : Value → WP) (w : World) (h : s112 Tryz.prog arg0 arg1 K w) : Runs Tryz.prog 112 [arg0, arg1] K w :=
  runs_of_E wide (fn := Tryz.f112) (c := Tryz.f112.body.getD .skip) 19 A112 [arg0, arg1] w K Tryz.func112 (by kernel_rfl) (by kernel_rfl) (by kernel_rfl) (by kernel_rfl)
    (Eq.mp (by kernel_rfl : s112 Tryz.prog arg0 arg1 K w = E Tryz.prog (Tryz.f112.body.getD .skip) A112 (topK Tryz.prog K Tryz.f112.results) (fun i => (([arg0, arg1] : List Value)[i]?).getD undef) w) h)
theorem ct112 {arg0 arg1 : Value} {h : Hp} {post : Hp → Value → Prop} (hg : ∀ w0, Gs w0 h h [] (s112 Tryz.prog arg0 arg1 (RetP w0 h post))) : Ct Tryz.prog 112 [arg0, arg1] h post := Ct.of (sf := s112 Tryz.prog arg0 arg1) (c112 arg0 arg1) hg
theorem in112 {arg0 arg1 : Value} {S : WP} {K : Value → WP} (hg : G S (s112 Tryz.prog arg0 arg1 K)) : G S (Do Tryz.prog (vCall (.func (.func 112) #[] ⟨[]⟩) [arg0, arg1]) K) := Gs.into (args := [arg0, arg1]) (caps := []) (sf := s112 Tryz.prog arg0 arg1) (c112 arg0 arg1) hg

/- skewer/prog.rows : names  -/
def s135 (P : Program) (K : Value → WP) : WP :=
  Do P (V (Instr.alloc 188 true (.tuple #[]))) fun t1_0 =>
  Do P (vBuild 153 [(0, (.string ⟨#[103, 111]⟩)), (1, (.int .i64 1))]) fun t2_1 =>
  Do P (vBuild 153 [(0, (.string ⟨#[115, 108, 105, 100, 101]⟩)), (1, (.int .i64 1))]) fun t3_2 =>
  Do P (vBuild 153 [(0, (.string ⟨#[101, 109, 112, 116, 121]⟩)), (1, (.int .i64 0))]) fun t4_3 =>
  Do P (vBuild 153 [(0, (.string ⟨#[101, 110, 101, 109, 121]⟩)), (1, (.int .i64 0))]) fun t5_4 =>
  Do P (vBuild 153 [(0, (.string ⟨#[102, 114, 105, 101, 110, 100]⟩)), (1, (.int .i64 0))]) fun t6_5 =>
  Do P (vBuild 153 [(0, (.string ⟨#[116, 97, 107, 101]⟩)), (1, (.int .i64 0))]) fun t7_6 =>
  Do P (vBuild 153 [(0, (.string ⟨#[112, 117, 115, 104]⟩)), (1, (.int .i64 1))]) fun t8_7 =>
  Do P (vBuild 153 [(0, (.string ⟨#[98, 101, 99, 111, 109, 101]⟩)), (1, (.int .i64 2))]) fun t9_8 =>
  Do P (vBuild 153 [(0, (.string ⟨#[110, 101, 101, 100]⟩)), (1, (.int .i64 3))]) fun t10_9 =>
  Do P (vBuild 153 [(0, (.string ⟨#[108, 111, 115, 101]⟩)), (1, (.int .i64 3))]) fun t11_10 =>
  Do P (vBuild 188 [(1, t2_1), (2, t3_2), (3, t4_3), (4, t5_4), (5, t6_5), (6, t7_6), (7, t8_7), (8, t9_8), (9, t10_9), (10, t11_10)]) fun t12_11 =>
  Do P (U (Instr.storeAt 188 t1_0 t12_11)) fun t13_x =>
  RetC P 188 t1_0 K
def A135 : Ann := .s (.n) (.s (.n) (.n))
set_option maxRecDepth 100000 in
theorem c135 (K : Value → WP) (w : World) (h : s135 Tryz.prog  K w) : Runs Tryz.prog 135 [] K w :=
  runs_of_E wide (fn := Tryz.f135) (c := Tryz.f135.body.getD .skip) 12 A135 [] w K Tryz.func135 (by kernel_rfl) (by kernel_rfl) (by kernel_rfl) (by kernel_rfl)
    (Eq.mp (by kernel_rfl : s135 Tryz.prog  K w = E Tryz.prog (Tryz.f135.body.getD .skip) A135 (topK Tryz.prog K Tryz.f135.results) (fun i => (([] : List Value)[i]?).getD undef) w) h)
theorem ct135 {h : Hp} {post : Hp → Value → Prop} (hg : ∀ w0, Gs w0 h h [] (s135 Tryz.prog  (RetP w0 h post))) : Ct Tryz.prog 135 [] h post := Ct.of (sf := s135 Tryz.prog ) (c135 ) hg
theorem in135 {S : WP} {K : Value → WP} (hg : G S (s135 Tryz.prog  K)) : G S (Do Tryz.prog (vCall (.func (.func 135) #[] ⟨[]⟩) []) K) := Gs.into (args := []) (caps := []) (sf := s135 Tryz.prog ) (c135 ) hg

/- slices.IndexFunc[skewer/api.Prog,skewer/api.Step] : names 0 s, 1 f, 2 s, 3 f, 5 i -/
def s136 (P : Program) (arg0 arg1 : Value) (K : Value → WP) : WP :=
  Do P (vBuiltin .len #[85] 3 [arg0]) fun t1_7 =>
  Lp (α := Value) (fun c2 s2 => Jk fun _ => -- t8
   Do P (V (binOp .lss 3 s2 t1_7)) fun t3_9 =>
   If t3_9 (
    Do P (V (Instr.indexAt 85 arg0 s2)) fun t4_14 =>
    Do P (V (Instr.loadAt 146 t4_14)) fun t5_15 =>
    Do P (vCall arg1 [t5_15]) fun t6_16 =>
    If t6_16 (
     K s2
    ) (
     Do P (V (binOp .add 3 s2 (.int .i64 1))) fun t7_18 =>
     c2 t7_18
    )
   ) (
    K (.int .i64 (-1))
   )
  ) (.int .i64 0)
def A136 : Ann := .s (.n) (.s (.s (.n) (.lp [8] 524080 (.s (.n) (.s (.s (.n) (.n)) (.s (.s (.n) (.s (.n) (.s (.s (.n) (.n)) (.n)))) (.n)))))) (.s (.n) (.n)))
set_option maxRecDepth 100000 in
theorem c136 (arg0 arg1 : Value) (K : Value → WP) (w : World) (h : s136 Tryz.prog arg0 arg1 K w) : Runs Tryz.prog 136 [arg0, arg1] K w :=
  runs_of_E wide (fn := Tryz.f136) (c := Tryz.f136.body.getD .skip) 19 A136 [arg0, arg1] w K Tryz.func136 (by kernel_rfl) (by kernel_rfl) (by kernel_rfl) (by kernel_rfl)
    (Eq.mp (by kernel_rfl : s136 Tryz.prog arg0 arg1 K w = E Tryz.prog (Tryz.f136.body.getD .skip) A136 (topK Tryz.prog K Tryz.f136.results) (fun i => (([arg0, arg1] : List Value)[i]?).getD undef) w) h)
theorem ct136 {arg0 arg1 : Value} {h : Hp} {post : Hp → Value → Prop} (hg : ∀ w0, Gs w0 h h [] (s136 Tryz.prog arg0 arg1 (RetP w0 h post))) : Ct Tryz.prog 136 [arg0, arg1] h post := Ct.of (sf := s136 Tryz.prog arg0 arg1) (c136 arg0 arg1) hg
theorem in136 {arg0 arg1 : Value} {S : WP} {K : Value → WP} (hg : G S (s136 Tryz.prog arg0 arg1 K)) : G S (Do Tryz.prog (vCall (.func (.func 136) #[] ⟨[]⟩) [arg0, arg1]) K) := Gs.into (args := [arg0, arg1]) (caps := []) (sf := s136 Tryz.prog arg0 arg1) (c136 arg0 arg1) hg

end Go.Proofs.YtcmokdokcghooaaGreatDoor
end

section
/-
  The shallow forms of functions of the program, printed by a program of the prover; and what the types are.
-/
set_option linter.unusedVariables false
set_option maxRecDepth 100000
namespace Go.Proofs.YtcmokdokcghooaaGreatDoor
open Go Go.Sk
variable {M : Go.Sk.Mode}

/- skewer/skewerlaw04.PosParses : names 0 x, 1 y, 2 put, 3 x, 4 y, 5 put, 7 up, 8 g, 9 s, 10 at, 11 end, 12 texts, 13 i, 14 a, 15 e, 16 b -/
def s3 (P : Program) (arg0 arg1 arg2 : Value) (K : Value → WP) : WP :=
  Do P (V (Instr.box 27 arg0)) fun x1 =>
  Do P (V (Instr.box 30 arg1)) fun y2 =>
  Do P (vCall (.func (.func 12) #[] ⟨[]⟩) []) fun t3_17 =>
  Do P (vBuiltin .len #[9] 3 [arg2]) fun t4_19 =>
  Do P (V (binOp .gtr 3 t4_19 (.int .i64 40))) fun t5_20 =>
  If t5_20 (
   K t3_17
  ) (
   Do P (V (Instr.loadAt 27 x1)) fun t6_22 =>
   Do P (vCall (.func (.func 13) #[] ⟨[]⟩) [t6_22]) fun t7_23 =>
   Do P (V (Instr.alloc 39 true (.tuple #[]))) fun g8 =>
   Do P (U (Instr.storeAt 39 g8 t7_23)) fun t9_x =>
   Dr <|
   Qk P (V (Instr.loadAt 39 g8)) fun C10 t10_24 =>
   Qk P (V (Instr.loadAt 39 g8)) fun C11 t11_25 =>
   Qk P (V (Instr.loadAt 30 y2)) fun C12 t12_26 =>
   Do P (vCall (.func (.func 15) #[] ⟨[]⟩) [t11_25, t12_26]) fun t13_27 =>
   With C10 <|
   Do P (vCall (.func (.func 14) #[] ⟨[]⟩) [t10_24, t13_27]) fun t14_28 =>
   Do P (V (Instr.fieldAt 30 y2 0)) fun t15_29 =>
   Do P (V (Instr.indexAt 25 t15_29 (.int .i64 0))) fun t16_30 =>
   Do P (V (Instr.loadAt 5 t16_30)) fun t17_31 =>
   Do P (V (convert 5 3 t17_31)) fun t18_32 =>
   Do P (vBuiltin .len #[9] 3 [t14_28]) fun t19_34 =>
   Do P (V (binOp .add 3 t19_34 (.int .i64 1))) fun t20_35 =>
   Do P (V (binOp .rem 3 t18_32 t20_35)) fun t21_36 =>
   Do P (V (Instr.fieldAt 30 y2 0)) fun t22_38 =>
   Do P (V (Instr.indexAt 25 t22_38 (.int .i64 1))) fun t23_39 =>
   Do P (V (Instr.loadAt 5 t23_39)) fun t24_40 =>
   Do P (V (binOp .rem 5 t24_40 (.int .u8 5))) fun t25_41 =>
   Do P (V (convert 5 3 t25_41)) fun t26_42 =>
   Do P (V (binOp .add 3 t21_36 t26_42)) fun t27_43 =>
   Do P (vBuiltin .len #[9] 3 [t14_28]) fun t28_45 =>
   Do P (vBuiltin .min #[3, 3] 3 [t27_43, t28_45]) fun t29_46 =>
   Dr <|
   Qk P (V (Instr.sliceAt 9 t14_28 none (some t21_36) none)) fun C30 t30_50 =>
   Qk P (V (binOp .add 9 t30_50 arg2)) fun C31 t31_52 =>
   Qk P (V (Instr.sliceAt 9 t14_28 (some t29_46) none none)) fun C32 t32_55 =>
   Qk P (V (binOp .add 9 t31_52 t32_55)) fun C33 t33_56 =>
   Qk P (V (Instr.sliceAt 9 t14_28 none (some t21_36) none)) fun C34 t34_59 =>
   Qk P (V (binOp .add 9 t14_28 arg2)) fun C35 t35_62 =>
   Do P (vBuildSlice 46 4 [(0, arg2), (1, t33_56), (2, t34_59), (3, t35_62)]) fun t36_63 =>
   Lp (α := Value) (fun c37 s37 => Jk fun _ => -- i
    Do P (vBuiltin .len #[46] 3 [t36_63]) fun t38_66 =>
    Do P (V (binOp .lss 3 s37 t38_66)) fun t39_67 =>
    If t39_67 (
     Jn (α := Value × Value) (fun j40 => Jk fun _ => -- a e
      Jn (α := Value) (fun j41 => Jk fun _ => -- b
       Jn (α := Value) (fun j42 => Jk fun _ => -- t95
        If j42 (
         K (.bool false)
        ) (
         Do P (V (binOp .add 3 s37 (.int .i64 1))) fun t43_69 =>
         c37 t43_69
        )
       ) fun k42 =>
       Do P (V (Instr.loadAt 44 j40.1)) fun t44_85 =>
       Do P (V (Instr.fieldAt 51 j41 0)) fun t45_86 =>
       Do P (V (Instr.loadAt 44 t45_86)) fun t46_87 =>
       Do P (vCall (.func (.func 18) #[] ⟨[]⟩) [t44_85, t46_87]) fun t47_88 =>
       Do P (V (Op.unary .not t47_88)) fun t48_89 =>
       Gd t48_89 false (
        Do P (V (Instr.fieldAt 51 j41 1)) fun t49_92 =>
        Do P (V (Instr.loadAt 47 t49_92)) fun t50_93 =>
        Do P (V (EqG .neq 47 (.tmp 91) (.tmp 93) j40.2 t50_93)) fun t51_94 =>
        k42 t51_94
       ) (
        k42 (.bool true)
       )
      ) fun k41 =>
      Dr <|
      Qk P (V (Instr.loadAt 39 g8)) fun C52 t52_79 =>
      Qk P (V (Instr.indexAt 46 t36_63 s37)) fun C53 t53_82 =>
      Qk P (V (Instr.loadAt 9 t53_82)) fun C54 t54_83 =>
      Or2 (
       Do P (vCall (.func (.func 17) #[] ⟨[]⟩) [t52_79, t54_83]) fun t55_84 =>
       Do P (V (Instr.alloc 51 true (.tuple #[]))) fun b56 =>
       With C54 <|
       With C53 <|
       With C52 <|
       Do P (U (Instr.storeAt 51 b56 t55_84)) fun t57_x =>
       k41 b56
      ) (
       Do P (V (Instr.alloc 51 true (.tuple #[]))) fun b58 =>
       With C54 <|
       With C53 <|
       With C52 <|
       Do P (vCall (.func (.func 17) #[] ⟨[]⟩) [t52_79, t54_83]) fun t59_84 =>
       Do P (U (Instr.storeAt 51 b58 t59_84)) fun t60_x =>
       k41 b58
      )
     ) fun k40 =>
     Dr <|
     Qk P (V (Instr.loadAt 39 g8)) fun C61 t61_71 =>
     Qk P (V (Instr.indexAt 46 t36_63 s37)) fun C62 t62_74 =>
     Qk P (V (Instr.loadAt 9 t62_74)) fun C63 t63_75 =>
     Or2 (
      Do P (vCall (.func (.func 16) #[] ⟨[]⟩) [t61_71, t63_75]) fun t64_76 =>
      Qk P (V (Instr.extract t64_76 0)) fun C65 t65_77 =>
      Qk P (V (Instr.extract t64_76 1)) fun C66 t66_78 =>
      Do P (V (Instr.alloc 44 true (.tuple #[]))) fun a67 =>
      With C66 <|
      With C65 <|
      With C63 <|
      With C62 <|
      With C61 <|
      Do P (U (Instr.storeAt 44 a67 t65_77)) fun t68_x =>
      With C66 <|
      k40 (a67, t66_78)
     ) (
      Do P (V (Instr.alloc 44 true (.tuple #[]))) fun a69 =>
      With C63 <|
      With C62 <|
      With C61 <|
      Do P (vCall (.func (.func 16) #[] ⟨[]⟩) [t61_71, t63_75]) fun t70_76 =>
      Qk P (V (Instr.extract t70_76 0)) fun C71 t71_77 =>
      Qk P (V (Instr.extract t70_76 1)) fun C72 t72_78 =>
      Do P (U (Instr.storeAt 44 a69 t71_77)) fun t73_x =>
      With C72 <|
      k40 (a69, t72_78)
     )
    ) (
     K t3_17
    )
   ) (.int .i64 0)
  )
def A3 : Ann := .s (.n) (.s (.n) (.s (.s (.n) (.s (.s (.n) (.n)) (.n))) (.s (.n) (.s (.plan [(0, 256, 16777216), (0, 256, 33554432), (0, 16, 67108864), (6, 100663296, 134217728), (9, 150994944, 268435456), (31, 268435456, 512)] (.q 0 (.q 1 (.q 2 (.l 3 (.l 4 (.q 5 .done))))))) (.s (.n) (.s (.n) (.s (.plan [(0, 4, 140737488355328), (0, 512, 281474976710656), (0, 1024, 562949953421312), (6, 844424930131968, 1125899906842624), (0, 4, 2251799813685248), (24, 3377699720527872, 4503599627370496), (0, 512, 9007199254740992), (0, 2048, 18014398509481984), (192, 27021597764222976, 36028797018963968), (288, 40532396646334464, 72057594037927936), (0, 512, 144115188075855872), (0, 1024, 288230376151711744), (3072, 432345564227567616, 576460752303423488), (0, 512, 1152921504606846976), (0, 4, 2305843009213693952), (24576, 3458764513820540928, 4611686018427387904), (37377, 5260345102257094656, 9223372036854775808), (131071, 9223372036854775808, 4096)] (.q 0 (.q 1 (.q 2 (.q 3 (.q 4 (.q 5 (.q 6 (.q 7 (.q 8 (.q 9 (.q 10 (.q 11 (.q 12 (.q 13 (.q 14 (.q 15 (.l 16 (.q 17 .done))))))))))))))))))) (.s (.s (.n) (.lp [13] 79228162495817593519834521664 (.s (.s (.n) (.s (.n) (.n))) (.s (.j [14, 15] 603282318186597176098816 (.plan [(0, 256, 2361183241434822606848), (0, 4096, 4722366482869645213696), (0, 8192, 9444732965739290427392), (6, 14167099448608935641088, 18889465931478580854784), (8, 18889465931478580854784, 37778931862957161709568), (17, 40140115104391984316416, 75557863725914323419136), (32, 75557863725914323419136, 1180591620717411303424), (64, 1180591620717411303424, 151115727451828646838272), (64, 1180591620717411303424, 302231454903657293676544), (0, 0, 16384), (767, 151115727451828646854656, 0), (2047, 302231454903657293676544, 32768)] (.q 0 (.q 1 (.q 2 (.q 3 (.q 4 (.or (.l 5 (.q 6 (.q 7 (.q 8 (.l 9 (.l 10 (.q 11 .done))))))) (.l 9 (.l 5 (.q 6 (.q 7 (.q 8 (.l 10 (.q 11 .done)))))))))))))) (.j [16] 38081163317860819003310080 (.plan [(0, 256, 604462909807314587353088), (0, 4096, 1208925819614629174706176), (0, 8192, 2417851639229258349412352), (6, 3626777458843887524118528, 4835703278458516698824704), (8, 4835703278458516698824704, 9671406556917033397649408), (17, 10275869466724347985002496, 19342813113834066795298816), (0, 0, 65536), (127, 19342813113834066795364352, 0)] (.q 0 (.q 1 (.q 2 (.q 3 (.q 4 (.or (.l 5 (.l 6 (.l 7 .done))) (.l 6 (.l 5 (.l 7 .done)))))))))) (.j [95] 79189476888036669459953352704 (.n) (.s (.s (.n) (.n)) (.n))))) (.n))))) (.s (.n) (.n))))))))))
set_option maxRecDepth 100000 in
theorem c3 (arg0 arg1 arg2 : Value) (K : Value → WP) (w : World) (h : s3 Tryz.prog arg0 arg1 arg2 K w) : Runs Tryz.prog 3 [arg0, arg1, arg2] K w :=
  runs_of_E wide (fn := Tryz.f3) (c := Tryz.f3.body.getD .skip) 97 A3 [arg0, arg1, arg2] w K Tryz.func3 (by kernel_rfl) (by kernel_rfl) (by kernel_rfl) (by kernel_rfl)
    (Eq.mp (by kernel_rfl : s3 Tryz.prog arg0 arg1 arg2 K w = E Tryz.prog (Tryz.f3.body.getD .skip) A3 (topK Tryz.prog K Tryz.f3.results) (fun i => (([arg0, arg1, arg2] : List Value)[i]?).getD undef) w) h)
theorem ct3 {arg0 arg1 arg2 : Value} {h : Hp} {post : Hp → Value → Prop} (hg : ∀ w0, Gs w0 h h [] (s3 Tryz.prog arg0 arg1 arg2 (RetP w0 h post))) : Ct Tryz.prog 3 [arg0, arg1, arg2] h post := Ct.of (sf := s3 Tryz.prog arg0 arg1 arg2) (c3 arg0 arg1 arg2) hg
theorem in3 {arg0 arg1 arg2 : Value} {S : WP} {K : Value → WP} (hg : G S (s3 Tryz.prog arg0 arg1 arg2 K)) : G S (Do Tryz.prog (vCall (.func (.func 3) #[] ⟨[]⟩) [arg0, arg1, arg2]) K) := Gs.into (args := [arg0, arg1, arg2]) (caps := []) (sf := s3 Tryz.prog arg0 arg1 arg2) (c3 arg0 arg1 arg2) hg

/- skewer/skewerlaw04.PosLimits : names 0 x, 1 y, 2 v, 3 x, 4 y, 5 v, 7 up, 8 g, 9 p, 10 n, 11 k, 12 s, 13 want -/
def s4 (P : Program) (arg0 arg1 arg2 : Value) (K : Value → WP) : WP :=
  Do P (V (Instr.box 27 arg0)) fun x1 =>
  Do P (V (Instr.box 30 arg1)) fun y2 =>
  Do P (V (Instr.box 55 arg2)) fun v3 =>
  Do P (vCall (.func (.func 12) #[] ⟨[]⟩) []) fun t4_14 =>
  Do P (V (Instr.loadAt 27 x1)) fun t5_15 =>
  Do P (vCall (.func (.func 13) #[] ⟨[]⟩) [t5_15]) fun t6_16 =>
  Do P (V (Instr.alloc 39 true (.tuple #[]))) fun g7 =>
  Do P (U (Instr.storeAt 39 g7 t6_16)) fun t8_x =>
  Do P (V (Instr.loadAt 39 g7)) fun t9_17 =>
  Do P (V (Instr.loadAt 30 y2)) fun t10_18 =>
  Do P (vCall (.func (.func 15) #[] ⟨[]⟩) [t9_17, t10_18]) fun t11_19 =>
  Do P (V (Instr.alloc 44 true (.tuple #[]))) fun p12 =>
  Do P (U (Instr.storeAt 44 p12 t11_19)) fun t13_x =>
  Do P (V (Instr.indexAt 55 v3 (.int .i64 0))) fun t14_20 =>
  Do P (V (Instr.loadAt 21 t14_20)) fun t15_21 =>
  Do P (V (convert 21 3 t15_21)) fun t16_22 =>
  Do P (V (Instr.indexAt 55 v3 (.int .i64 2))) fun t17_23 =>
  Do P (V (Instr.loadAt 21 t17_23)) fun t18_24 =>
  Do P (V (convert 21 56 t18_24)) fun t19_25 =>
  Do P (V (convert 56 3 t19_25)) fun t20_26 =>
  Do P (V (Instr.fieldAt 39 g7 1)) fun t21_27 =>
  Do P (V (Instr.loadAt 36 t21_27)) fun t22_28 =>
  Do P (vBuiltin .len #[36] 3 [t22_28]) fun t23_29 =>
  Do P (V (binOp .rem 3 t20_26 t23_29)) fun t24_30 =>
  Do P (V (Instr.indexAt 55 v3 (.int .i64 2))) fun t25_31 =>
  Do P (V (Instr.loadAt 21 t25_31)) fun t26_32 =>
  Do P (V (convert 21 56 t26_32)) fun t27_33 =>
  Do P (V (binOp .quo 56 t27_33 (.int .u32 16))) fun t28_34 =>
  Do P (V (convert 56 3 t28_34)) fun t29_35 =>
  Do P (V (binOp .rem 3 t29_35 (.int .i64 2))) fun t30_36 =>
  Jn (α := Value) (fun j31 => Jk fun _ => -- want
   Gd t4_14 true (
    Do P (V (Instr.loadAt 39 g7)) fun t32_133 =>
    Do P (V (Instr.loadAt 44 p12)) fun t33_134 =>
    Do P (vCall (.func (.func 19) #[] ⟨[]⟩) [t32_133, t33_134]) fun t34_135 =>
    Do P (V (EqG .eql 4 (.tmp 135) (.tmp 136) t34_135 j31)) fun t35_137 =>
    K t35_137
   ) (
    K (.bool false)
   )
  ) fun k31 =>
  Do P (V (Instr.indexAt 55 v3 (.int .i64 1))) fun t36_37 =>
  Do P (V (Instr.loadAt 21 t36_37)) fun t37_38 =>
  Do P (V (convert 21 56 t37_38)) fun t38_39 =>
  Do P (V (binOp .rem 56 t38_39 (.int .u32 6))) fun t39_40 =>
  Do P (V (EqG .eql 56 (.tmp 40) (.const (.int .u32 0)) t39_40 (.int .u32 0))) fun t40_51 =>
  If t40_51 (
   Dr <|
   Qk P (V (Instr.fieldAt 44 p12 0)) fun C41 t41_52 =>
   Qk P (V (Instr.loadAt 33 t41_52)) fun C42 t42_53 =>
   Qk P (V (Instr.indexAt 55 v3 (.int .i64 2))) fun C43 t43_54 =>
   Qk P (V (Instr.loadAt 21 t43_54)) fun C44 t44_55 =>
   Qk P (V (convert 21 56 t44_55)) fun C45 t45_56 =>
   Qk P (V (convert 56 3 t45_56)) fun C46 t46_57 =>
   Qk P (V (Instr.fieldAt 44 p12 0)) fun C47 t47_58 =>
   Qk P (V (Instr.loadAt 33 t47_58)) fun C48 t48_59 =>
   Qk P (vBuiltin .len #[33] 3 [t48_59]) fun C49 t49_60 =>
   Qk P (V (binOp .rem 3 t46_57 t49_60)) fun C50 t50_61 =>
   Qk P (V (Instr.indexAt 33 t42_53 t50_61)) fun C51 t51_63 =>
   Do P (U (Instr.storeAt 3 t51_63 t16_22)) fun t52_x =>
   Do P (V (binOp .geq 3 t16_22 (.int .i64 0))) fun t53_65 =>
   Gd t53_65 true (
    Do P (V (Instr.fieldAt 39 g7 1)) fun t54_68 =>
    Do P (V (Instr.loadAt 36 t54_68)) fun t55_69 =>
    Do P (vBuiltin .len #[36] 3 [t55_69]) fun t56_70 =>
    Do P (V (binOp .mul 3 (.int .i64 2) t56_70)) fun t57_71 =>
    Do P (V (binOp .leq 3 t16_22 t57_71)) fun t58_72 =>
    k31 t58_72
   ) (
    k31 (.bool false)
   )
  ) (
   Do P (V (EqG .eql 56 (.tmp 40) (.const (.int .u32 1)) t39_40 (.int .u32 1))) fun t59_75 =>
   If t59_75 (
    Do P (V (Instr.fieldAt 44 p12 1)) fun t60_77 =>
    Do P (V (Instr.indexAt 42 t60_77 t30_36)) fun t61_78 =>
    Do P (V (Instr.loadAt 33 t61_78)) fun t62_79 =>
    Do P (V (Instr.indexAt 33 t62_79 t24_30)) fun t63_82 =>
    Do P (U (Instr.storeAt 3 t63_82 t16_22)) fun t64_x =>
    Do P (V (EqG .eql 3 (.tmp 83) (.const (.int .i64 0)) t16_22 (.int .i64 0))) fun t65_84 =>
    Gd t65_84 false (
     Do P (V (binOp .gtr 3 t16_22 (.int .i64 0))) fun t66_87 =>
     Gd t66_87 true (
      Do P (V (binOp .leq 3 t16_22 (.int .i64 8))) fun t67_90 =>
      Gd t67_90 true (
       Do P (V (Instr.fieldAt 39 g7 1)) fun t68_93 =>
       Do P (V (Instr.loadAt 36 t68_93)) fun t69_94 =>
       Do P (V (Instr.indexAt 36 t69_94 t24_30)) fun t70_96 =>
       Do P (V (Instr.fieldAt 59 t70_96 2)) fun t71_97 =>
       Do P (V (Instr.loadAt 4 t71_97)) fun t72_98 =>
       k31 t72_98
      ) (
       k31 (.bool false)
      )
     ) (
      k31 (.bool false)
     )
    ) (
     k31 (.bool true)
    )
   ) (
    Do P (V (EqG .eql 56 (.tmp 40) (.const (.int .u32 2)) t39_40 (.int .u32 2))) fun t73_102 =>
    If t73_102 (
     Do P (V (Instr.fieldAt 44 p12 2)) fun t74_104 =>
     Do P (U (Instr.storeAt 3 t74_104 t16_22)) fun t75_x =>
     Do P (V (binOp .geq 3 t16_22 (.int .i64 0))) fun t76_106 =>
     Gd t76_106 true (
      Do P (V (Instr.fieldAt 39 g7 2)) fun t77_109 =>
      Do P (V (Instr.loadAt 3 t77_109)) fun t78_110 =>
      Do P (V (binOp .shl 3 (.int .i64 1) t78_110)) fun t79_111 =>
      Do P (V (binOp .lss 3 t16_22 t79_111)) fun t80_112 =>
      k31 t80_112
     ) (
      k31 (.bool false)
     )
    ) (
     Do P (V (EqG .eql 56 (.tmp 40) (.const (.int .u32 3)) t39_40 (.int .u32 3))) fun t81_115 =>
     If t81_115 (
      Do P (V (Instr.fieldAt 44 p12 3)) fun t82_117 =>
      Do P (U (Instr.storeAt 3 t82_117 t16_22)) fun t83_x =>
      Do P (V (EqG .eql 3 (.tmp 118) (.const (.int .i64 0)) t16_22 (.int .i64 0))) fun t84_119 =>
      Gd t84_119 false (
       Do P (V (EqG .eql 3 (.tmp 121) (.const (.int .i64 1)) t16_22 (.int .i64 1))) fun t85_122 =>
       k31 t85_122
      ) (
       k31 (.bool true)
      )
     ) (
      Do P (V (EqG .eql 56 (.tmp 40) (.const (.int .u32 4)) t39_40 (.int .u32 4))) fun t86_125 =>
      If t86_125 (
       Do P (V (Instr.fieldAt 44 p12 0)) fun t87_126 =>
       Do P (V (Instr.loadAt 33 t87_126)) fun t88_127 =>
       Do P (vBuildSlice 33 1 [(0, (.int .i64 0))]) fun t89_128 =>
       Do P (vBuiltin .append #[33, 33] 33 [t88_127, t89_128]) fun t90_129 =>
       Do P (V (Instr.fieldAt 44 p12 0)) fun t91_130 =>
       Do P (U (Instr.storeAt 33 t91_130 t90_129)) fun t92_x =>
       k31 (.bool false)
      ) (
       Do P (V (Instr.fieldAt 44 p12 1)) fun t93_43 =>
       Do P (V (Instr.indexAt 42 t93_43 t30_36)) fun t94_44 =>
       Do P (V (Instr.loadAt 33 t94_44)) fun t95_45 =>
       Do P (V (Instr.sliceAt 33 t95_45 none (some t24_30) none)) fun t96_47 =>
       Do P (V (Instr.fieldAt 44 p12 1)) fun t97_48 =>
       Do P (V (Instr.indexAt 42 t97_48 t30_36)) fun t98_49 =>
       Do P (U (Instr.storeAt 33 t98_49 t96_47)) fun t99_x =>
       k31 (.bool false)
      )
     )
    )
   )
  )
def A4 : Ann := .s (.n) (.s (.n) (.s (.n) (.s (.n) (.s (.n) (.s (.n) (.s (.n) (.s (.n) (.j [13] 2722258935367507707706996859316706746368 (.s (.n) (.s (.n) (.s (.s (.plan [(0, 512, 4503599627370496), (1, 4503599627370496, 9007199254740992), (0, 32, 18014398509481984), (4, 18014398509481984, 36028797018963968), (8, 36028797018963968, 72057594037927936), (16, 72057594037927936, 144115188075855872), (0, 512, 288230376151711744), (64, 288230376151711744, 576460752303423488), (128, 576460752303423488, 1152921504606846976), (288, 1297036692682702848, 2305843009213693952), (0, 1024, 4611686018427387904), (2047, 2314850208468434944, 9223372036854775808), (4095, 13835058055282163712, 0)] (.q 0 (.q 1 (.q 2 (.q 3 (.q 4 (.q 5 (.q 6 (.q 7 (.q 8 (.q 9 (.q 10 (.q 11 (.l 12 .done)))))))))))))) (.n)) (.s (.n) (.s (.s (.n) (.n)) (.s (.n) (.s (.s (.n) (.n)) (.s (.n) (.s (.s (.n) (.n)) (.s (.n) (.s (.n) (.n)))))))))))) (.s (.n) (.n))))))))))
set_option maxRecDepth 100000 in
theorem c4 (arg0 arg1 arg2 : Value) (K : Value → WP) (w : World) (h : s4 Tryz.prog arg0 arg1 arg2 K w) : Runs Tryz.prog 4 [arg0, arg1, arg2] K w :=
  runs_of_E wide (fn := Tryz.f4) (c := Tryz.f4.body.getD .skip) 139 A4 [arg0, arg1, arg2] w K Tryz.func4 (by kernel_rfl) (by kernel_rfl) (by kernel_rfl) (by kernel_rfl)
    (Eq.mp (by kernel_rfl : s4 Tryz.prog arg0 arg1 arg2 K w = E Tryz.prog (Tryz.f4.body.getD .skip) A4 (topK Tryz.prog K Tryz.f4.results) (fun i => (([arg0, arg1, arg2] : List Value)[i]?).getD undef) w) h)
theorem ct4 {arg0 arg1 arg2 : Value} {h : Hp} {post : Hp → Value → Prop} (hg : ∀ w0, Gs w0 h h [] (s4 Tryz.prog arg0 arg1 arg2 (RetP w0 h post))) : Ct Tryz.prog 4 [arg0, arg1, arg2] h post := Ct.of (sf := s4 Tryz.prog arg0 arg1 arg2) (c4 arg0 arg1 arg2) hg
theorem in4 {arg0 arg1 arg2 : Value} {S : WP} {K : Value → WP} (hg : G S (s4 Tryz.prog arg0 arg1 arg2 K)) : G S (Do Tryz.prog (vCall (.func (.func 4) #[] ⟨[]⟩) [arg0, arg1, arg2]) K) := Gs.into (args := [arg0, arg1, arg2]) (caps := []) (sf := s4 Tryz.prog arg0 arg1 arg2) (c4 arg0 arg1 arg2) hg

/- skewer/skewerlaw04.PosMatchesReference : names 0 x, 1 l, 2 odd, 3 x, 4 l, 5 odd, 7 up, 8 g, 9 all, 10 sorted, 11 i, 12 p, 13 s -/
def s5 (P : Program) (arg0 arg1 arg2 : Value) (K : Value → WP) : WP :=
  Do P (V (Instr.box 27 arg0)) fun x1 =>
  Do P (V (Instr.box 63 arg2)) fun odd2 =>
  Do P (vCall (.func (.func 12) #[] ⟨[]⟩) []) fun t3_14 =>
  Do P (V (Instr.loadAt 27 x1)) fun t4_15 =>
  Do P (vCall (.func (.func 13) #[] ⟨[]⟩) [t4_15]) fun t5_16 =>
  Do P (V (Instr.alloc 39 true (.tuple #[]))) fun g6 =>
  Do P (U (Instr.storeAt 39 g6 t5_16)) fun t7_x =>
  Do P (V (Instr.loadAt 39 g6)) fun t8_17 =>
  Do P (vCall (.func (.func 20) #[] ⟨[]⟩) [t8_17, arg1, (.int .i64 12)]) fun t9_19 =>
  Do P (vCall (.func (.func 21) #[] ⟨[]⟩) [t9_19]) fun t10_21 =>
  Jn (α := Value) (fun j11 => Jk fun _ => -- t59
   If j11 (
    K (.bool false)
   ) (
    Lp (α := Value) (fun c12 s12 => Jk fun _ => -- i
     Do P (vBuiltin .len #[64] 3 [t9_19]) fun t13_62 =>
     Do P (V (binOp .lss 3 s12 t13_62)) fun t14_63 =>
     If t14_63 (
      Do P (V (Instr.indexAt 64 t9_19 s12)) fun t15_68 =>
      Do P (V (Instr.loadAt 44 t15_68)) fun t16_69 =>
      Do P (V (Instr.alloc 44 true (.tuple #[]))) fun p17 =>
      Do P (U (Instr.storeAt 44 p17 t16_69)) fun t18_x =>
      Jn (α := Value) (fun j19 => Jk fun _ => -- t111
       If j19 (
        K (.bool false)
       ) (
        Lp (α := Value) (fun c20 s20 => Jk fun _ => -- s
         Do P (V (binOp .lss 3 s20 (.int .i64 3))) fun t21_113 =>
         If t21_113 (
          Dr <|
          Qk P (V (Instr.loadAt 39 g6)) fun C22 t22_116 =>
          Qk P (V (Instr.loadAt 44 p17)) fun C23 t23_117 =>
          Qk P (V (Instr.loadAt 39 g6)) fun C24 t24_120 =>
          Qk P (V (Instr.loadAt 44 p17)) fun C25 t25_121 =>
          Do P (vCall (.func (.func 33) #[] ⟨[]⟩) [t22_116, t23_117, s20]) fun t26_119 =>
          With C25 <|
          With C24 <|
          Do P (vCall (.func (.func 34) #[] ⟨[]⟩) [t24_120, t25_121, s20]) fun t27_123 =>
          Do P (vCall (.func (.func 32) #[] ⟨[]⟩) [t26_119, t27_123]) fun t28_124 =>
          Qk P (V (Op.unary .not t28_124)) fun C29 t29_125 =>
          If t29_125 (
           K (.bool false)
          ) (
           Do P (V (binOp .add 3 s20 (.int .i64 1))) fun t30_115 =>
           c20 t30_115
          )
         ) (
          Do P (V (binOp .add 3 s12 (.int .i64 1))) fun t31_65 =>
          c12 t31_65
         )
        ) (.int .i64 (-1))
       )
      ) fun k19 =>
      Dr <|
      Qk P (V (Instr.loadAt 44 p17)) fun C32 t32_71 =>
      Qk P (V (Instr.loadAt 44 p17)) fun C33 t33_74 =>
      Do P (vCall (.func (.func 29) #[] ⟨[]⟩) [t10_21, t32_71]) fun t34_72 =>
      With C33 <|
      Do P (vCall (.func (.func 30) #[] ⟨[]⟩) [t10_21, t33_74]) fun t35_75 =>
      Qk P (V (EqG .neq 3 (.tmp 72) (.tmp 75) t34_72 t35_75)) fun C36 t36_76 =>
      Gd t36_76 false (
       Qk P (V (Instr.loadAt 44 p17)) fun C37 t37_78 =>
       Qk P (V (Instr.loadAt 44 p17)) fun C38 t38_80 =>
       Do P (vCall (.func (.func 26) #[] ⟨[]⟩) [t37_78]) fun t39_79 =>
       With C38 <|
       Do P (vCall (.func (.func 27) #[] ⟨[]⟩) [t38_80]) fun t40_81 =>
       Qk P (V (EqG .neq 9 (.tmp 79) (.tmp 81) t39_79 t40_81)) fun C41 t41_82 =>
       Gd t41_82 false (
        Qk P (V (Instr.loadAt 39 g6)) fun C42 t42_85 =>
        Qk P (V (Instr.loadAt 44 p17)) fun C43 t43_86 =>
        Qk P (V (Instr.loadAt 39 g6)) fun C44 t44_88 =>
        Qk P (V (Instr.loadAt 44 p17)) fun C45 t45_89 =>
        Do P (vCall (.func (.func 31) #[] ⟨[]⟩) [t42_85, t43_86]) fun t46_87 =>
        With C45 <|
        With C44 <|
        Do P (vCall (.func (.func 14) #[] ⟨[]⟩) [t44_88, t45_89]) fun t47_90 =>
        Qk P (V (EqG .neq 9 (.tmp 87) (.tmp 90) t46_87 t47_90)) fun C48 t48_91 =>
        Gd t48_91 false (
         Qk P (V (Instr.loadAt 39 g6)) fun C49 t49_94 =>
         Qk P (V (Instr.loadAt 44 p17)) fun C50 t50_95 =>
         Do P (vCall (.func (.func 19) #[] ⟨[]⟩) [t49_94, t50_95]) fun t51_96 =>
         Qk P (V (Op.unary .not t51_96)) fun C52 t52_97 =>
         Gd t52_97 false (
          Qk P (V (Instr.loadAt 44 p17)) fun C53 t53_100 =>
          Qk P (V (Instr.indexAt 64 t9_19 (.int .i64 0))) fun C54 t54_102 =>
          Qk P (V (Instr.loadAt 44 t54_102)) fun C55 t55_103 =>
          Qk P (V (Instr.loadAt 44 p17)) fun C56 t56_105 =>
          Qk P (V (Instr.indexAt 64 t9_19 (.int .i64 0))) fun C57 t57_107 =>
          Qk P (V (Instr.loadAt 44 t57_107)) fun C58 t58_108 =>
          Do P (vCall (.func (.func 24) #[] ⟨[]⟩) [t53_100, t55_103]) fun t59_104 =>
          With C58 <|
          With C57 <|
          With C56 <|
          Do P (vCall (.func (.func 25) #[] ⟨[]⟩) [t56_105, t58_108]) fun t60_109 =>
          Qk P (V (EqG .neq 3 (.tmp 104) (.tmp 109) t59_104 t60_109)) fun C61 t61_110 =>
          k19 t61_110
         ) (
          k19 (.bool true)
         )
        ) (
         k19 (.bool true)
        )
       ) (
        k19 (.bool true)
       )
      ) (
       k19 (.bool true)
      )
     ) (
      K t3_14
     )
    ) (.int .i64 0)
   )
  ) fun k11 =>
  Dr <|
  Do P (vCall (.func (.func 23) #[] ⟨[]⟩) [t9_19]) fun t62_23 =>
  Do P (vCall (.func (.func 22) #[] ⟨[]⟩) [t62_23, t10_21]) fun t63_25 =>
  Qk P (V (Op.unary .not t63_25)) fun C64 t64_26 =>
  Gd t64_26 false (
   Qk P (V (Instr.indexAt 63 odd2 (.int .i64 0))) fun C65 t65_28 =>
   Qk P (V (Instr.loadAt 44 t65_28)) fun C66 t66_29 =>
   Qk P (V (Instr.indexAt 63 odd2 (.int .i64 1))) fun C67 t67_30 =>
   Qk P (V (Instr.loadAt 44 t67_30)) fun C68 t68_31 =>
   Qk P (V (Instr.indexAt 63 odd2 (.int .i64 0))) fun C69 t69_33 =>
   Qk P (V (Instr.loadAt 44 t69_33)) fun C70 t70_34 =>
   Qk P (V (Instr.indexAt 63 odd2 (.int .i64 1))) fun C71 t71_35 =>
   Qk P (V (Instr.loadAt 44 t71_35)) fun C72 t72_36 =>
   Do P (vCall (.func (.func 24) #[] ⟨[]⟩) [t66_29, t68_31]) fun t73_32 =>
   With C72 <|
   With C71 <|
   With C70 <|
   With C69 <|
   Do P (vCall (.func (.func 25) #[] ⟨[]⟩) [t70_34, t72_36]) fun t74_37 =>
   Qk P (V (EqG .neq 3 (.tmp 32) (.tmp 37) t73_32 t74_37)) fun C75 t75_38 =>
   Gd t75_38 false (
    Qk P (V (Instr.indexAt 63 odd2 (.int .i64 0))) fun C76 t76_41 =>
    Qk P (V (Instr.loadAt 44 t76_41)) fun C77 t77_42 =>
    Qk P (V (Instr.indexAt 63 odd2 (.int .i64 0))) fun C78 t78_44 =>
    Qk P (V (Instr.loadAt 44 t78_44)) fun C79 t79_45 =>
    Do P (vCall (.func (.func 26) #[] ⟨[]⟩) [t77_42]) fun t80_43 =>
    With C79 <|
    With C78 <|
    Do P (vCall (.func (.func 27) #[] ⟨[]⟩) [t79_45]) fun t81_46 =>
    Qk P (V (EqG .neq 9 (.tmp 43) (.tmp 46) t80_43 t81_46)) fun C82 t82_47 =>
    Gd t82_47 false (
     Qk P (V (Instr.loadAt 39 g6)) fun C83 t83_50 =>
     Qk P (V (Instr.indexAt 63 odd2 (.int .i64 0))) fun C84 t84_51 =>
     Qk P (V (Instr.loadAt 44 t84_51)) fun C85 t85_52 =>
     Qk P (V (Instr.loadAt 39 g6)) fun C86 t86_54 =>
     Qk P (V (Instr.indexAt 63 odd2 (.int .i64 0))) fun C87 t87_55 =>
     Qk P (V (Instr.loadAt 44 t87_55)) fun C88 t88_56 =>
     Do P (vCall (.func (.func 19) #[] ⟨[]⟩) [t83_50, t85_52]) fun t89_53 =>
     With C88 <|
     With C87 <|
     With C86 <|
     Do P (vCall (.func (.func 28) #[] ⟨[]⟩) [t86_54, t88_56]) fun t90_57 =>
     Qk P (V (EqG .neq 4 (.tmp 53) (.tmp 57) t89_53 t90_57)) fun C91 t91_58 =>
     k11 t91_58
    ) (
     k11 (.bool true)
    )
   ) (
    k11 (.bool true)
   )
  ) (
   k11 (.bool true)
  )
def A5 : Ann := .s (.n) (.s (.n) (.s (.n) (.s (.n) (.s (.n) (.s (.j [59] 1152921504602652672 (.plan [(0, 512, 4194304), (1, 4194304, 8388608), (0, 1024, 16777216), (6, 25165824, 33554432), (8, 33554432, 67108864), (24, 67108864, 134217728), (32, 134217760, 268435456), (96, 402653184, 536870912), (32, 134217760, 1073741824), (288, 1207959552, 2147483648), (672, 2818572288, 4294967296), (32, 134217760, 8589934592), (2080, 8724152320, 17179869184), (32, 134217760, 34359738368), (8224, 34493956096, 68719476736), (21536, 86033563648, 137438953472), (33824, 141868138496, 274877906944), (65568, 275012124672, 549755813888), (163840, 549755813888, 1099511627776), (262144, 1099511627808, 2199023255552), (786432, 3298534883328, 4398046511104), (1310720, 5497558138880, 8796093022208), (262144, 1099511627808, 17592186044416), (4456448, 18691697672192, 35184372088832), (10747904, 36283883716608, 70368744177664), (19136512, 80264348827648, 140737488355328), (33816576, 141836999983104, 281474976710656), (83886080, 281474976710656, 562949953421312), (134217728, 562949953421568, 1125899906842624), (134217728, 562949953421344, 2251799813685248), (671088640, 2814749767106560, 4503599627370496), (1476395008, 6192449487634432, 9007199254740992), (134217728, 562949953421568, 18014398509481984), (134217728, 562949953421344, 36028797018963968), (8724152320, 36591746972385280, 72057594037927936), (23756537856, 90634942500831232, 144115188075855872), (36641439744, 153685337284018176, 288230376151711744), (68853694464, 288793326105133056, 576460752303423488)] (.q 0 (.q 2 (.l 1 (.l 3 (.q 4 (.q 5 (.q 6 (.q 7 (.q 8 (.q 9 (.q 11 (.q 12 (.q 13 (.q 14 (.l 10 (.l 15 (.q 16 (.q 17 (.q 18 (.q 19 (.q 20 (.q 22 (.q 23 (.l 21 (.l 24 (.q 25 (.q 26 (.q 27 (.q 28 (.q 29 (.q 30 (.q 32 (.q 33 (.q 34 (.l 31 (.l 35 (.q 36 (.q 37 .done))))))))))))))))))))))))))))))))))))))) (.s (.s (.n) (.n)) (.n))) (.s (.s (.n) (.lp [11] 85070591730234615864690730353335220288 (.s (.s (.n) (.s (.n) (.n))) (.s (.s (.n) (.s (.j [111] 5192296858533647036909778917916672 (.plan [(0, 1024, 1180591620717411303424), (0, 4096, 2361183241434822606848), (3, 3541774862152233910272, 4722366482869645213696), (0, 1024, 9444732965739290427392), (0, 4096, 18889465931478580854784), (28, 28334198897217871282176, 37778931862957161709568), (36, 42501298345826806923264, 75557863725914323419136), (96, 75557863725914323419136, 151115727451828646838272), (128, 151115727451828646842368, 302231454903657293676544), (384, 453347182355485940514816, 604462909807314587353088), (128, 151115727451828646842368, 1208925819614629174706176), (1664, 1360041547066457821544448, 2417851639229258349412352), (2688, 3173430276488401583603712, 4835703278458516698824704), (4224, 4986819005910345345662976, 9671406556917033397649408), (10240, 9671406556917033397649408, 19342813113834066795298816), (16384, 19342813113834066795299072, 38685626227668133590597632), (16384, 19342813113834066795302912, 77371252455336267181195264), (114688, 135399691796838467567091712, 154742504910672534362390528), (16384, 19342813113834066795299072, 309485009821345068724781056), (16384, 19342813113834066795302912, 618970019642690137449562112), (933888, 947797842577869272969641984, 1237940039285380274899124224), (1196032, 1412025357309886876056813568, 2475880078570760549798248448), (2113536, 2495222891684594616593547264, 4951760157141521099596496896), (5242880, 4951760157141521099596496896, 9903520314283042199192993792), (8388608, 9903520314283042199192994048, 19807040628566084398385987584), (8388608, 9903520314283042199192997888, 39614081257132168796771975168), (58720256, 69324642199981295394350956544, 79228162514264337593543950336), (75497472, 89131682828547379792736944128, 158456325028528675187087900672), (142606336, 168359845342811717386280894464, 316912650057057350374175801344), (335544320, 316912650057057350374175801344, 633825300114114700748351602688), (536870912, 633825300114114700748351606784, 1267650600228229401496703205376), (536870912, 633825300114114700748351603200, 2535301200456458802993406410752), (2684354560, 3169126500570573503741758013440, 5070602400912917605986812821504), (4831838208, 5704427701027032306735164424192, 10141204801825835211973625643008), (10200547328, 12042680702168179314218680451072, 20282409603651670423947251286016), (536870912, 633825300114114700748351606784, 40564819207303340847894502572032), (536870912, 633825300114114700748351603200, 81129638414606681695789005144064), (69256347648, 81763463714720796396537356746752, 162259276829213363391578010288128), (137975824384, 162893102129327478092326361890816, 324518553658426726783156020576256), (326954385408, 365717198165844182331798874750976, 649037107316853453566312041152512), (567472553984, 669953342220619238691007644041216, 1298074214633706907132624082305024), (1100048498688, 1298708039933821021833372433907712, 2596148429267413814265248164610048)] (.q 0 (.q 1 (.q 3 (.q 4 (.l 2 (.l 5 (.q 6 (.q 7 (.q 8 (.q 10 (.l 9 (.l 11 (.q 12 (.q 13 (.q 14 (.q 15 (.q 16 (.q 18 (.q 19 (.l 17 (.l 20 (.q 21 (.q 22 (.q 23 (.q 24 (.q 25 (.l 26 (.q 27 (.q 28 (.q 29 (.q 30 (.q 31 (.q 32 (.q 33 (.q 35 (.q 36 (.q 37 (.q 38 (.l 34 (.l 39 (.q 40 (.q 41 .done))))))))))))))))))))))))))))))))))))))))))) (.s (.s (.n) (.n)) (.n))) (.s (.n) (.lp [13] 85065399433376081038215121361612841024 (.s (.s (.n) (.s (.n) (.n))) (.s (.s (.plan [(0, 256, 83076749736557242056487941267521536), (0, 4096, 166153499473114484112975882535043072), (0, 8192, 332306998946228968225951765070086144), (7, 581537248155900694395415588872650752, 664613997892457936451903530140172288), (0, 256, 1329227995784915872903807060280344576), (0, 4096, 2658455991569831745807614120560689152), (0, 8192, 5316911983139663491615228241121378304), (120, 9304595970494411110326649421962412032, 10633823966279326983230456482242756608), (136, 11298437964171784919682360012382928896, 21267647932558653966460912964485513216), (256, 21267647932558653966460912964485513216, 42535295865117307932921825928971026432)] (.q 0 (.q 1 (.q 2 (.q 4 (.q 5 (.q 6 (.l 3 (.l 7 (.l 8 (.q 9 .done))))))))))) (.s (.s (.n) (.n)) (.n))) (.n))))))) (.n))))) (.s (.n) (.n))))))))
set_option maxRecDepth 100000 in
theorem c5 (arg0 arg1 arg2 : Value) (K : Value → WP) (w : World) (h : s5 Tryz.prog arg0 arg1 arg2 K w) : Runs Tryz.prog 5 [arg0, arg1, arg2] K w :=
  runs_of_E wide (fn := Tryz.f5) (c := Tryz.f5.body.getD .skip) 127 A5 [arg0, arg1, arg2] w K Tryz.func5 (by kernel_rfl) (by kernel_rfl) (by kernel_rfl) (by kernel_rfl)
    (Eq.mp (by kernel_rfl : s5 Tryz.prog arg0 arg1 arg2 K w = E Tryz.prog (Tryz.f5.body.getD .skip) A5 (topK Tryz.prog K Tryz.f5.results) (fun i => (([arg0, arg1, arg2] : List Value)[i]?).getD undef) w) h)
theorem ct5 {arg0 arg1 arg2 : Value} {h : Hp} {post : Hp → Value → Prop} (hg : ∀ w0, Gs w0 h h [] (s5 Tryz.prog arg0 arg1 arg2 (RetP w0 h post))) : Ct Tryz.prog 5 [arg0, arg1, arg2] h post := Ct.of (sf := s5 Tryz.prog arg0 arg1 arg2) (c5 arg0 arg1 arg2) hg
theorem in5 {arg0 arg1 arg2 : Value} {S : WP} {K : Value → WP} (hg : G S (s5 Tryz.prog arg0 arg1 arg2 K)) : G S (Do Tryz.prog (vCall (.func (.func 5) #[] ⟨[]⟩) [arg0, arg1, arg2]) K) := Gs.into (args := [arg0, arg1, arg2]) (caps := []) (sf := s5 Tryz.prog arg0 arg1 arg2) (c5 arg0 arg1 arg2) hg

/- skewer/skewerlaw04.PosOrders : names 0 p, 1 q, 2 r, 3 p, 4 q, 5 r, 7 up, 8 a, 9 b, 10 c -/
def s6 (P : Program) (arg0 arg1 arg2 : Value) (K : Value → WP) : WP :=
  Do P (V (Instr.box 44 arg0)) fun p1 =>
  Do P (V (Instr.box 44 arg1)) fun q2 =>
  Do P (V (Instr.box 44 arg2)) fun r3 =>
  Do P (vCall (.func (.func 12) #[] ⟨[]⟩) []) fun t4_11 =>
  Do P (V (Instr.loadAt 44 p1)) fun t5_12 =>
  Do P (V (Instr.loadAt 44 q2)) fun t6_13 =>
  Do P (vCall (.func (.func 24) #[] ⟨[]⟩) [t5_12, t6_13]) fun t7_14 =>
  Do P (V (Instr.loadAt 44 q2)) fun t8_15 =>
  Do P (V (Instr.loadAt 44 r3)) fun t9_16 =>
  Do P (vCall (.func (.func 24) #[] ⟨[]⟩) [t8_15, t9_16]) fun t10_17 =>
  Do P (V (Instr.loadAt 44 p1)) fun t11_18 =>
  Do P (V (Instr.loadAt 44 r3)) fun t12_19 =>
  Do P (vCall (.func (.func 24) #[] ⟨[]⟩) [t11_18, t12_19]) fun t13_20 =>
  Jn (α := Value) (fun j14 => Jk fun _ => -- t48
   If j14 (
    K (.bool false)
   ) (
    Jn (α := Value) (fun j15 => Jk fun _ => -- t70
     If j15 (
      K (.bool false)
     ) (
      Gd t4_11 true (
       Do P (V (binOp .lss 3 t7_14 (.int .i64 0))) fun t16_74 =>
       Gd t16_74 false (
        Do P (V (binOp .lss 3 t10_17 (.int .i64 0))) fun t17_77 =>
        Gd t17_77 false (
         Do P (V (binOp .geq 3 t13_20 (.int .i64 0))) fun t18_81 =>
         Gd t18_81 true (
          Do P (V (binOp .gtr 3 t13_20 (.int .i64 0))) fun t19_84 =>
          Gd t19_84 false (
           Do P (V (EqG .eql 3 (.tmp 86) (.const (.int .i64 0)) t7_14 (.int .i64 0))) fun t20_87 =>
           Gd t20_87 true (
            Do P (V (EqG .eql 3 (.tmp 89) (.const (.int .i64 0)) t10_17 (.int .i64 0))) fun t21_90 =>
            K t21_90
           ) (
            K (.bool false)
           )
          ) (
           K (.bool true)
          )
         ) (
          K (.bool false)
         )
        ) (
         K (.bool true)
        )
       ) (
        K (.bool true)
       )
      ) (
       K (.bool false)
      )
     )
    ) fun k15 =>
    Do P (V (binOp .leq 3 t7_14 (.int .i64 0))) fun t22_50 =>
    Gd t22_50 true (
     Do P (V (binOp .leq 3 t10_17 (.int .i64 0))) fun t23_53 =>
     Gd t23_53 true (
      Do P (V (binOp .gtr 3 t13_20 (.int .i64 0))) fun t24_57 =>
      Gd t24_57 false (
       Do P (V (EqG .eql 3 (.tmp 59) (.const (.int .i64 0)) t13_20 (.int .i64 0))) fun t25_60 =>
       Gd t25_60 true (
        Do P (V (binOp .lss 3 t7_14 (.int .i64 0))) fun t26_63 =>
        Gd t26_63 false (
         Do P (V (binOp .lss 3 t10_17 (.int .i64 0))) fun t27_66 =>
         k15 t27_66
        ) (
         k15 (.bool true)
        )
       ) (
        k15 (.bool false)
       )
      ) (
       k15 (.bool true)
      )
     ) (
      k15 (.bool false)
     )
    ) (
     k15 (.bool false)
    )
   )
  ) fun k14 =>
  Do P (V (binOp .lss 3 t7_14 (.int .i64 (-1)))) fun t28_22 =>
  Gd t28_22 false (
   Do P (V (binOp .gtr 3 t7_14 (.int .i64 1))) fun t29_25 =>
   Gd t29_25 false (
    Do P (V (Instr.loadAt 44 q2)) fun t30_28 =>
    Do P (V (Instr.loadAt 44 p1)) fun t31_29 =>
    Do P (vCall (.func (.func 24) #[] ⟨[]⟩) [t30_28, t31_29]) fun t32_30 =>
    Do P (V (Op.unary .neg t7_14)) fun t33_32 =>
    Do P (V (EqG .neq 3 (.tmp 30) (.tmp 32) t32_30 t33_32)) fun t34_33 =>
    Gd t34_33 false (
     Do P (V (Instr.loadAt 44 p1)) fun t35_36 =>
     Do P (V (Instr.loadAt 44 p1)) fun t36_37 =>
     Do P (vCall (.func (.func 24) #[] ⟨[]⟩) [t35_36, t36_37]) fun t37_38 =>
     Do P (V (EqG .neq 3 (.tmp 38) (.const (.int .i64 0)) t37_38 (.int .i64 0))) fun t38_39 =>
     Gd t38_39 false (
      Do P (V (EqG .eql 3 (.tmp 42) (.const (.int .i64 0)) t7_14 (.int .i64 0))) fun t39_43 =>
      Do P (V (Instr.loadAt 44 p1)) fun t40_44 =>
      Do P (V (Instr.loadAt 44 q2)) fun t41_45 =>
      Do P (vCall (.func (.func 18) #[] ⟨[]⟩) [t40_44, t41_45]) fun t42_46 =>
      Do P (V (EqG .neq 4 (.tmp 43) (.tmp 46) t39_43 t42_46)) fun t43_47 =>
      k14 t43_47
     ) (
      k14 (.bool true)
     )
    ) (
     k14 (.bool true)
    )
   ) (
    k14 (.bool true)
   )
  ) (
   k14 (.bool true)
  )
def A6 : Ann := .s (.n) (.s (.n) (.s (.n) (.s (.n) (.s (.n) (.s (.j [48] 562949951324160 (.n) (.s (.s (.n) (.n)) (.n))) (.s (.j [70] 2361182678484869185536 (.n) (.s (.s (.n) (.n)) (.n))) (.s (.n) (.n))))))))
set_option maxRecDepth 100000 in
theorem c6 (arg0 arg1 arg2 : Value) (K : Value → WP) (w : World) (h : s6 Tryz.prog arg0 arg1 arg2 K w) : Runs Tryz.prog 6 [arg0, arg1, arg2] K w :=
  runs_of_E wide (fn := Tryz.f6) (c := Tryz.f6.body.getD .skip) 96 A6 [arg0, arg1, arg2] w K Tryz.func6 (by kernel_rfl) (by kernel_rfl) (by kernel_rfl) (by kernel_rfl)
    (Eq.mp (by kernel_rfl : s6 Tryz.prog arg0 arg1 arg2 K w = E Tryz.prog (Tryz.f6.body.getD .skip) A6 (topK Tryz.prog K Tryz.f6.results) (fun i => (([arg0, arg1, arg2] : List Value)[i]?).getD undef) w) h)
theorem ct6 {arg0 arg1 arg2 : Value} {h : Hp} {post : Hp → Value → Prop} (hg : ∀ w0, Gs w0 h h [] (s6 Tryz.prog arg0 arg1 arg2 (RetP w0 h post))) : Ct Tryz.prog 6 [arg0, arg1, arg2] h post := Ct.of (sf := s6 Tryz.prog arg0 arg1 arg2) (c6 arg0 arg1 arg2) hg
theorem in6 {arg0 arg1 arg2 : Value} {S : WP} {K : Value → WP} (hg : G S (s6 Tryz.prog arg0 arg1 arg2 K)) : G S (Do Tryz.prog (vCall (.func (.func 6) #[] ⟨[]⟩) [arg0, arg1, arg2]) K) := Gs.into (args := [arg0, arg1, arg2]) (caps := []) (sf := s6 Tryz.prog arg0 arg1 arg2) (c6 arg0 arg1 arg2) hg

/- skewer/skewerlaw04.PosSorts : names 0 x, 1 l, 2 n, 3 x, 4 l, 5 n, 7 up, 8 g, 9 all, 10 s, 11 turned, 12 i, 13 twice, 14 i, 15 i, 16 i -/
def s7 (P : Program) (arg0 arg1 arg2 : Value) (K : Value → WP) : WP :=
  Do P (V (Instr.box 27 arg0)) fun x1 =>
  Do P (vCall (.func (.func 12) #[] ⟨[]⟩) []) fun t2_17 =>
  Do P (V (Instr.loadAt 27 x1)) fun t3_18 =>
  Do P (vCall (.func (.func 13) #[] ⟨[]⟩) [t3_18]) fun t4_19 =>
  Do P (V (Instr.alloc 39 true (.tuple #[]))) fun g5 =>
  Do P (U (Instr.storeAt 39 g5 t4_19)) fun t6_x =>
  Do P (V (Instr.loadAt 39 g5)) fun t7_20 =>
  Do P (vCall (.func (.func 20) #[] ⟨[]⟩) [t7_20, arg1, (.int .i64 12)]) fun t8_22 =>
  Do P (vCall (.func (.func 23) #[] ⟨[]⟩) [t8_22]) fun t9_24 =>
  Do P (vBuildSlice 64 0 []) fun t10_25 =>
  Lp (α := Value × Value) (fun c11 s11 => Jk fun _ => -- turned i
   Do P (vBuiltin .len #[64] 3 [t8_22]) fun t12_28 =>
   Do P (V (binOp .lss 3 s11.2 t12_28)) fun t13_29 =>
   If t13_29 (
    Do P (V (convert 5 3 arg2)) fun t14_36 =>
    Do P (V (binOp .add 3 s11.2 t14_36)) fun t15_37 =>
    Do P (vBuiltin .len #[64] 3 [t8_22]) fun t16_39 =>
    Do P (V (binOp .rem 3 t15_37 t16_39)) fun t17_40 =>
    Do P (V (Instr.indexAt 64 t8_22 t17_40)) fun t18_41 =>
    Do P (V (Instr.loadAt 44 t18_41)) fun t19_42 =>
    Do P (vBuildSlice 64 1 [(0, t19_42)]) fun t20_43 =>
    Do P (vBuiltin .append #[64, 64] 64 [s11.1, t20_43]) fun t21_44 =>
    Do P (V (binOp .add 3 s11.2 (.int .i64 1))) fun t22_31 =>
    c11 (t21_44, t22_31)
   ) (
    Do P (vBuildSlice 64 0 []) fun t23_45 =>
    Do P (vBuiltin .append #[64, 64] 64 [t23_45, s11.1]) fun t24_47 =>
    Do P (vBuiltin .append #[64, 64] 64 [t24_47, t9_24]) fun t25_50 =>
    Lp (α := Value) (fun c26 s26 => Jk fun _ => -- i
     Do P (vBuiltin .len #[64] 3 [t9_24]) fun t27_53 =>
     Do P (V (binOp .lss 3 s26 t27_53)) fun t28_54 =>
     If t28_54 (
      Dr <|
      Qk P (V (binOp .sub 3 s26 (.int .i64 1))) fun C29 t29_59 =>
      Qk P (V (Instr.indexAt 64 t9_24 t29_59)) fun C30 t30_60 =>
      Qk P (V (Instr.loadAt 44 t30_60)) fun C31 t31_61 =>
      Qk P (V (Instr.indexAt 64 t9_24 s26)) fun C32 t32_64 =>
      Qk P (V (Instr.loadAt 44 t32_64)) fun C33 t33_65 =>
      Do P (vCall (.func (.func 24) #[] ⟨[]⟩) [t31_61, t33_65]) fun t34_66 =>
      Qk P (V (EqG .neq 3 (.tmp 66) (.const (.int .i64 (-1))) t34_66 (.int .i64 (-1)))) fun C35 t35_67 =>
      If t35_67 (
       K (.bool false)
      ) (
       Do P (V (binOp .add 3 s26 (.int .i64 1))) fun t36_56 =>
       c26 t36_56
      )
     ) (
      Lp (α := Value) (fun c37 s37 => Jk fun _ => -- i
       Do P (vBuiltin .len #[64] 3 [t9_24]) fun t38_70 =>
       Do P (V (binOp .lss 3 s37 t38_70)) fun t39_71 =>
       If t39_71 (
        Do P (V (Instr.indexAt 64 t9_24 s37)) fun t40_77 =>
        Do P (V (Instr.loadAt 44 t40_77)) fun t41_78 =>
        Do P (vCall (.func (.func 35) #[] ⟨[]⟩) [t8_22, t41_78]) fun t42_79 =>
        Do P (V (Op.unary .not t42_79)) fun t43_80 =>
        If t43_80 (
         K (.bool false)
        ) (
         Do P (V (binOp .add 3 s37 (.int .i64 1))) fun t44_73 =>
         c37 t44_73
        )
       ) (
        Lp (α := Value) (fun c45 s45 => Jk fun _ => -- i
         Do P (vBuiltin .len #[64] 3 [t8_22]) fun t46_83 =>
         Do P (V (binOp .lss 3 s45 t46_83)) fun t47_84 =>
         If t47_84 (
          Do P (V (Instr.indexAt 64 t8_22 s45)) fun t48_90 =>
          Do P (V (Instr.loadAt 44 t48_90)) fun t49_91 =>
          Do P (vCall (.func (.func 35) #[] ⟨[]⟩) [t9_24, t49_91]) fun t50_92 =>
          Do P (V (Op.unary .not t50_92)) fun t51_93 =>
          If t51_93 (
           K (.bool false)
          ) (
           Do P (V (binOp .add 3 s45 (.int .i64 1))) fun t52_86 =>
           c45 t52_86
          )
         ) (
          Gd t2_17 true (
           Do P (vCall (.func (.func 23) #[] ⟨[]⟩) [t9_24]) fun t53_97 =>
           Do P (vCall (.func (.func 22) #[] ⟨[]⟩) [t53_97, t9_24]) fun t54_99 =>
           Gd t54_99 true (
            Do P (vCall (.func (.func 23) #[] ⟨[]⟩) [s11.1]) fun t55_103 =>
            Do P (vCall (.func (.func 22) #[] ⟨[]⟩) [t55_103, t9_24]) fun t56_105 =>
            Gd t56_105 true (
             Do P (vCall (.func (.func 23) #[] ⟨[]⟩) [t25_50]) fun t57_109 =>
             Do P (vCall (.func (.func 22) #[] ⟨[]⟩) [t57_109, t9_24]) fun t58_111 =>
             K t58_111
            ) (
             K (.bool false)
            )
           ) (
            K (.bool false)
           )
          ) (
           K (.bool false)
          )
         )
        ) (.int .i64 0)
       )
      ) (.int .i64 0)
     )
    ) (.int .i64 1)
   )
  ) (t10_25, (.int .i64 0))
def A7 : Ann := .s (.n) (.s (.n) (.s (.n) (.s (.n) (.s (.n) (.s (.n) (.s (.s (.n) (.lp [11, 12] 35184304986112 (.s (.s (.n) (.s (.n) (.n))) (.s (.n) (.n))))) (.s (.n) (.s (.n) (.s (.s (.n) (.lp [14] 295145653379539157056 (.s (.s (.n) (.s (.n) (.n))) (.s (.s (.plan [(0, 1024, 144115188075855872), (0, 16384, 288230376151711744), (2, 288230376151711744, 576460752303423488), (5, 720575940379279360, 1152921504606846976), (8, 1152921504606846976, 2305843009213693952), (0, 1024, 4611686018427387904), (0, 16384, 9223372036854775808), (96, 13835058055282163712, 18446744073709551616), (128, 18446744073709551616, 36893488147419103232), (272, 39199331156632797184, 73786976294838206464), (512, 73786976294838206464, 147573952589676412928)] (.q 0 (.q 1 (.q 2 (.q 3 (.q 4 (.q 5 (.q 6 (.q 7 (.q 8 (.l 9 (.q 10 .done)))))))))))) (.s (.s (.n) (.n)) (.n))) (.n))))) (.s (.s (.n) (.lp [15] 2417556491324078996619328 (.s (.s (.n) (.s (.n) (.n))) (.s (.s (.n) (.s (.s (.n) (.n)) (.n))) (.n))))) (.s (.s (.n) (.lp [16] 19804622776926855140036640832 (.s (.s (.n) (.s (.n) (.n))) (.s (.s (.n) (.s (.s (.n) (.n)) (.n))) (.n))))) (.s (.n) (.n)))))))))))))
set_option maxRecDepth 100000 in
theorem c7 (arg0 arg1 arg2 : Value) (K : Value → WP) (w : World) (h : s7 Tryz.prog arg0 arg1 arg2 K w) : Runs Tryz.prog 7 [arg0, arg1, arg2] K w :=
  runs_of_E wide (fn := Tryz.f7) (c := Tryz.f7.body.getD .skip) 113 A7 [arg0, arg1, arg2] w K Tryz.func7 (by kernel_rfl) (by kernel_rfl) (by kernel_rfl) (by kernel_rfl)
    (Eq.mp (by kernel_rfl : s7 Tryz.prog arg0 arg1 arg2 K w = E Tryz.prog (Tryz.f7.body.getD .skip) A7 (topK Tryz.prog K Tryz.f7.results) (fun i => (([arg0, arg1, arg2] : List Value)[i]?).getD undef) w) h)
theorem ct7 {arg0 arg1 arg2 : Value} {h : Hp} {post : Hp → Value → Prop} (hg : ∀ w0, Gs w0 h h [] (s7 Tryz.prog arg0 arg1 arg2 (RetP w0 h post))) : Ct Tryz.prog 7 [arg0, arg1, arg2] h post := Ct.of (sf := s7 Tryz.prog arg0 arg1 arg2) (c7 arg0 arg1 arg2) hg
theorem in7 {arg0 arg1 arg2 : Value} {S : WP} {K : Value → WP} (hg : G S (s7 Tryz.prog arg0 arg1 arg2 K)) : G S (Do Tryz.prog (vCall (.func (.func 7) #[] ⟨[]⟩) [arg0, arg1, arg2]) K) := Gs.into (args := [arg0, arg1, arg2]) (caps := []) (sf := s7 Tryz.prog arg0 arg1 arg2) (c7 arg0 arg1 arg2) hg

/- skewer/skewerlaw04.PosFinds : names 0 x, 1 l, 2 y, 3 x, 4 l, 5 y, 7 up, 8 g, 9 s, 10 i, 11 p, 12 i -/
def s8 (P : Program) (arg0 arg1 arg2 : Value) (K : Value → WP) : WP :=
  Do P (V (Instr.box 27 arg0)) fun x1 =>
  Do P (V (Instr.box 30 arg2)) fun y2 =>
  Do P (vCall (.func (.func 12) #[] ⟨[]⟩) []) fun t3_13 =>
  Do P (V (Instr.loadAt 27 x1)) fun t4_14 =>
  Do P (vCall (.func (.func 13) #[] ⟨[]⟩) [t4_14]) fun t5_15 =>
  Do P (V (Instr.alloc 39 true (.tuple #[]))) fun g6 =>
  Do P (U (Instr.storeAt 39 g6 t5_15)) fun t7_x =>
  Do P (V (Instr.loadAt 39 g6)) fun t8_16 =>
  Do P (vCall (.func (.func 20) #[] ⟨[]⟩) [t8_16, arg1, (.int .i64 14)]) fun t9_18 =>
  Do P (vCall (.func (.func 21) #[] ⟨[]⟩) [t9_18]) fun t10_19 =>
  Lp (α := Value) (fun c11 s11 => Jk fun _ => -- i
   Do P (vBuiltin .len #[64] 3 [t10_19]) fun t12_22 =>
   Do P (V (binOp .lss 3 s11 t12_22)) fun t13_23 =>
   If t13_23 (
    Do P (V (Instr.indexAt 64 t10_19 s11)) fun t14_29 =>
    Do P (V (Instr.loadAt 44 t14_29)) fun t15_30 =>
    Do P (vCall (.func (.func 29) #[] ⟨[]⟩) [t10_19, t15_30]) fun t16_31 =>
    Do P (V (EqG .neq 3 (.tmp 31) (.tmp 32) t16_31 s11)) fun t17_33 =>
    If t17_33 (
     K (.bool false)
    ) (
     Do P (V (binOp .add 3 s11 (.int .i64 1))) fun t18_25 =>
     c11 t18_25
    )
   ) (
    Do P (V (Instr.loadAt 39 g6)) fun t19_34 =>
    Do P (V (Instr.loadAt 30 y2)) fun t20_35 =>
    Do P (vCall (.func (.func 15) #[] ⟨[]⟩) [t19_34, t20_35]) fun t21_36 =>
    Do P (V (Instr.alloc 44 true (.tuple #[]))) fun p22 =>
    Do P (U (Instr.storeAt 44 p22 t21_36)) fun t23_x =>
    Do P (V (Instr.loadAt 44 p22)) fun t24_38 =>
    Do P (vCall (.func (.func 29) #[] ⟨[]⟩) [t10_19, t24_38]) fun t25_39 =>
    Jn (α := Value) (fun j26 => Jk fun _ => -- t60
     If j26 (
      K (.bool false)
     ) (
      Gd t3_13 true (
       Do P (V (binOp .geq 3 t25_39 (.int .i64 0))) fun t27_64 =>
       Do P (V (Instr.loadAt 44 p22)) fun t28_66 =>
       Do P (vCall (.func (.func 35) #[] ⟨[]⟩) [t10_19, t28_66]) fun t29_67 =>
       Do P (V (EqG .eql 4 (.tmp 64) (.tmp 67) t27_64 t29_67)) fun t30_68 =>
       Gd t30_68 true (
        Do P (V (Instr.loadAt 44 p22)) fun t31_71 =>
        Do P (vCall (.func (.func 29) #[] ⟨[]⟩) [(.slice none 0 0), t31_71]) fun t32_72 =>
        Do P (V (EqG .eql 3 (.tmp 72) (.const (.int .i64 (-1))) t32_72 (.int .i64 (-1)))) fun t33_73 =>
        K t33_73
       ) (
        K (.bool false)
       )
      ) (
       K (.bool false)
      )
     )
    ) fun k26 =>
    Dr <|
    Qk P (V (binOp .lss 3 t25_39 (.int .i64 (-1)))) fun C34 t34_41 =>
    Gd t34_41 false (
     Qk P (vBuiltin .len #[64] 3 [t10_19]) fun C35 t35_45 =>
     Qk P (V (binOp .geq 3 t25_39 t35_45)) fun C36 t36_46 =>
     Gd t36_46 false (
      Qk P (V (binOp .geq 3 t25_39 (.int .i64 0))) fun C37 t37_50 =>
      Gd t37_50 true (
       Qk P (V (Instr.indexAt 64 t10_19 t25_39)) fun C38 t38_54 =>
       Qk P (V (Instr.loadAt 44 t38_54)) fun C39 t39_55 =>
       Qk P (V (Instr.loadAt 44 p22)) fun C40 t40_56 =>
       Do P (vCall (.func (.func 18) #[] ⟨[]⟩) [t39_55, t40_56]) fun t41_57 =>
       Qk P (V (Op.unary .not t41_57)) fun C42 t42_58 =>
       k26 t42_58
      ) (
       k26 (.bool false)
      )
     ) (
      k26 (.bool true)
     )
    ) (
     k26 (.bool true)
    )
   )
  ) (.int .i64 0)
def A8 : Ann := .s (.n) (.s (.n) (.s (.n) (.s (.n) (.s (.s (.n) (.lp [10] 17178821696 (.s (.s (.n) (.s (.n) (.n))) (.s (.s (.n) (.s (.s (.n) (.n)) (.n))) (.n))))) (.s (.n) (.s (.n) (.s (.j [60] 2305841909702066176 (.plan [(0, 4096, 1099511627776), (1, 1099511627776, 2199023255552), (2, 2199023255552, 4398046511104), (4, 4398046515200, 8796093022208), (4, 4398046511616, 17592186044416), (20, 21990232555520, 35184372088832), (44, 48378511622144, 70368744177664), (68, 74766790688768, 140737488355328), (132, 140737488355328, 281474976710656), (256, 281474976714752, 562949953421312), (768, 844424930131968, 1125899906842624), (1280, 1407374883553280, 2251799813685248), (2048, 2251799813685760, 4503599627370496), (2048, 2251799813689344, 9007199254740992), (14336, 15762598695796736, 18014398509481984), (18432, 20266198323167232, 36028797018963968), (2048, 2251799813687296, 72057594037927936), (100352, 110338190870577152, 144115188075855872), (133120, 146366987889541120, 288230376151711744), (264448, 290763650942107648, 576460752303423488), (524544, 576742227280134144, 1152921504606846976)] (.q 0 (.q 1 (.q 2 (.q 3 (.q 4 (.q 5 (.q 6 (.q 7 (.q 8 (.q 9 (.q 10 (.q 11 (.q 12 (.q 13 (.q 14 (.q 15 (.q 16 (.l 17 (.q 18 (.q 19 (.q 20 .done)))))))))))))))))))))) (.s (.s (.n) (.n)) (.n))) (.s (.n) (.n)))))))))
set_option maxRecDepth 100000 in
theorem c8 (arg0 arg1 arg2 : Value) (K : Value → WP) (w : World) (h : s8 Tryz.prog arg0 arg1 arg2 K w) : Runs Tryz.prog 8 [arg0, arg1, arg2] K w :=
  runs_of_E wide (fn := Tryz.f8) (c := Tryz.f8.body.getD .skip) 75 A8 [arg0, arg1, arg2] w K Tryz.func8 (by kernel_rfl) (by kernel_rfl) (by kernel_rfl) (by kernel_rfl)
    (Eq.mp (by kernel_rfl : s8 Tryz.prog arg0 arg1 arg2 K w = E Tryz.prog (Tryz.f8.body.getD .skip) A8 (topK Tryz.prog K Tryz.f8.results) (fun i => (([arg0, arg1, arg2] : List Value)[i]?).getD undef) w) h)
theorem ct8 {arg0 arg1 arg2 : Value} {h : Hp} {post : Hp → Value → Prop} (hg : ∀ w0, Gs w0 h h [] (s8 Tryz.prog arg0 arg1 arg2 (RetP w0 h post))) : Ct Tryz.prog 8 [arg0, arg1, arg2] h post := Ct.of (sf := s8 Tryz.prog arg0 arg1 arg2) (c8 arg0 arg1 arg2) hg
theorem in8 {arg0 arg1 arg2 : Value} {S : WP} {K : Value → WP} (hg : G S (s8 Tryz.prog arg0 arg1 arg2 K)) : G S (Do Tryz.prog (vCall (.func (.func 8) #[] ⟨[]⟩) [arg0, arg1, arg2]) K) := Gs.into (args := [arg0, arg1, arg2]) (caps := []) (sf := s8 Tryz.prog arg0 arg1 arg2) (c8 arg0 arg1 arg2) hg

/- skewer/skewerlaw04.PosCounts : names 0 x, 1 y, 2 v, 3 x, 4 y, 5 v, 7 up, 8 g, 9 p, 10 a, 11 b, 12 all, 13 k, 14 c, 15 at, 16 kind, 17 side, 18 q, 19 s, 20 before, 21 after, 22 k, 23 more -/
def s9 (P : Program) (arg0 arg1 arg2 : Value) (K : Value → WP) : WP :=
  Do P (V (Instr.box 27 arg0)) fun x1 =>
  Do P (V (Instr.box 30 arg1)) fun y2 =>
  Do P (V (Instr.box 78 arg2)) fun v3 =>
  Do P (vCall (.func (.func 12) #[] ⟨[]⟩) []) fun t4_24 =>
  Do P (V (Instr.loadAt 27 x1)) fun t5_25 =>
  Do P (vCall (.func (.func 13) #[] ⟨[]⟩) [t5_25]) fun t6_26 =>
  Do P (V (Instr.alloc 39 true (.tuple #[]))) fun g7 =>
  Do P (U (Instr.storeAt 39 g7 t6_26)) fun t8_x =>
  Do P (V (Instr.loadAt 39 g7)) fun t9_27 =>
  Do P (V (Instr.loadAt 30 y2)) fun t10_28 =>
  Do P (vCall (.func (.func 15) #[] ⟨[]⟩) [t9_27, t10_28]) fun t11_29 =>
  Do P (V (Instr.alloc 44 true (.tuple #[]))) fun p12 =>
  Do P (U (Instr.storeAt 44 p12 t11_29)) fun t13_x =>
  Do P (V (Instr.loadAt 39 g7)) fun t14_30 =>
  Do P (V (Instr.loadAt 44 p12)) fun t15_31 =>
  Do P (vCall (.func (.func 33) #[] ⟨[]⟩) [t14_30, t15_31, (.int .i64 0)]) fun t16_32 =>
  Do P (V (Instr.loadAt 39 g7)) fun t17_33 =>
  Do P (V (Instr.loadAt 44 p12)) fun t18_34 =>
  Do P (vCall (.func (.func 33) #[] ⟨[]⟩) [t17_33, t18_34, (.int .i64 1)]) fun t19_35 =>
  Jn (α := Value) (fun j20 => Jk fun _ => -- t49
   If j20 (
    K (.bool false)
   ) (
    Lp (α := Value × Value) (fun c21 s21 => Jk fun _ => -- all k
     Do P (vBuiltin .len #[33] 3 [t16_32]) fun t22_52 =>
     Do P (V (binOp .lss 3 s21.2 t22_52)) fun t23_53 =>
     If t23_53 (
      Dr <|
      Qk P (V (Instr.indexAt 33 t16_32 s21.2)) fun C24 t24_59 =>
      Qk P (V (Instr.loadAt 3 t24_59)) fun C25 t25_60 =>
      Qk P (V (Instr.indexAt 33 t19_35 s21.2)) fun C26 t26_63 =>
      Qk P (V (Instr.loadAt 3 t26_63)) fun C27 t27_64 =>
      Qk P (V (binOp .add 3 t25_60 t27_64)) fun C28 t28_65 =>
      Qk P (V (binOp .add 3 s21.1 t28_65)) fun C29 t29_66 =>
      Do P (V (binOp .add 3 s21.2 (.int .i64 1))) fun t30_55 =>
      c21 (t29_66, t30_55)
     ) (
      Lp (α := Value × Value) (fun c31 s31 => Jk fun _ => -- all c
       Do P (V (Instr.fieldAt 44 p12 0)) fun t32_68 =>
       Do P (V (Instr.loadAt 33 t32_68)) fun t33_69 =>
       Do P (vBuiltin .len #[33] 3 [t33_69]) fun t34_70 =>
       Do P (V (binOp .lss 3 s31.2 t34_70)) fun t35_71 =>
       If t35_71 (
        Jn (α := Value) (fun j36 => Jk fun _ => -- all
         Do P (V (binOp .add 3 s31.2 (.int .i64 1))) fun t37_73 =>
         c31 (j36, t37_73)
        ) fun k36 =>
        Do P (V (Instr.fieldAt 44 p12 0)) fun t38_74 =>
        Do P (V (Instr.loadAt 33 t38_74)) fun t39_75 =>
        Do P (V (Instr.indexAt 33 t39_75 s31.2)) fun t40_77 =>
        Do P (V (Instr.loadAt 3 t40_77)) fun t41_78 =>
        Do P (V (EqG .eql 3 (.tmp 78) (.const (.int .i64 0)) t41_78 (.int .i64 0))) fun t42_79 =>
        If t42_79 (
         Do P (V (binOp .add 3 s31.1 (.int .i64 1))) fun t43_81 =>
         k36 t43_81
        ) (
         k36 s31.1
        )
       ) (
        Do P (V (Instr.indexAt 78 v3 (.int .i64 0))) fun t44_82 =>
        Do P (V (Instr.loadAt 5 t44_82)) fun t45_83 =>
        Do P (V (convert 5 3 t45_83)) fun t46_84 =>
        Do P (V (Instr.fieldAt 44 p12 0)) fun t47_85 =>
        Do P (V (Instr.loadAt 33 t47_85)) fun t48_86 =>
        Do P (vBuiltin .len #[33] 3 [t48_86]) fun t49_87 =>
        Do P (V (binOp .rem 3 t46_84 t49_87)) fun t50_88 =>
        Do P (V (Instr.indexAt 78 v3 (.int .i64 1))) fun t51_89 =>
        Do P (V (Instr.loadAt 5 t51_89)) fun t52_90 =>
        Do P (V (binOp .quo 5 t52_90 (.int .u8 2))) fun t53_91 =>
        Do P (V (convert 5 3 t53_91)) fun t54_92 =>
        Do P (V (Instr.fieldAt 39 g7 1)) fun t55_93 =>
        Do P (V (Instr.loadAt 36 t55_93)) fun t56_94 =>
        Do P (vBuiltin .len #[36] 3 [t56_94]) fun t57_95 =>
        Do P (V (binOp .rem 3 t54_92 t57_95)) fun t58_96 =>
        Do P (V (Instr.indexAt 78 v3 (.int .i64 1))) fun t59_97 =>
        Do P (V (Instr.loadAt 5 t59_97)) fun t60_98 =>
        Do P (V (binOp .rem 5 t60_98 (.int .u8 2))) fun t61_99 =>
        Do P (V (convert 5 3 t61_99)) fun t62_100 =>
        Do P (V (Instr.fieldAt 44 p12 0)) fun t63_101 =>
        Do P (V (Instr.loadAt 33 t63_101)) fun t64_102 =>
        Do P (V (Instr.indexAt 33 t64_102 t50_88)) fun t65_104 =>
        Do P (V (Instr.loadAt 3 t65_104)) fun t66_105 =>
        Do P (V (EqG .neq 3 (.tmp 105) (.const (.int .i64 0)) t66_105 (.int .i64 0))) fun t67_106 =>
        If t67_106 (
         Gd t4_24 true (
          Do P (V (Instr.fieldAt 39 g7 0)) fun t68_110 =>
          Do P (V (Instr.fieldAt 35 t68_110 0)) fun t69_111 =>
          Do P (V (Instr.loadAt 3 t69_111)) fun t70_112 =>
          Do P (V (EqG .eql 3 (.tmp 109) (.tmp 112) s31.1 t70_112)) fun t71_113 =>
          K t71_113
         ) (
          K (.bool false)
         )
        ) (
         Do P (V (Instr.loadAt 44 p12)) fun t72_115 =>
         Do P (V (Instr.alloc 44 true (.tuple #[]))) fun q73 =>
         Do P (U (Instr.storeAt 44 q73 t72_115)) fun t74_x =>
         Do P (vBuildSlice 33 0 []) fun t75_116 =>
         Do P (V (Instr.fieldAt 44 p12 0)) fun t76_117 =>
         Do P (V (Instr.loadAt 33 t76_117)) fun t77_118 =>
         Do P (vBuiltin .append #[33, 33] 33 [t75_116, t77_118]) fun t78_119 =>
         Do P (V (Instr.fieldAt 44 q73 0)) fun t79_120 =>
         Do P (U (Instr.storeAt 33 t79_120 t78_119)) fun t80_x =>
         Do P (V (Instr.fieldAt 44 q73 0)) fun t81_121 =>
         Do P (V (Instr.loadAt 33 t81_121)) fun t82_122 =>
         Do P (V (binOp .mul 3 (.int .i64 2) t58_96)) fun t83_125 =>
         Do P (V (binOp .add 3 (.int .i64 1) t83_125)) fun t84_126 =>
         Do P (V (binOp .add 3 t84_126 t62_100)) fun t85_128 =>
         Do P (V (Instr.indexAt 33 t82_122 t50_88)) fun t86_129 =>
         Do P (U (Instr.storeAt 3 t86_129 t85_128)) fun t87_x =>
         Lp (α := Value) (fun c88 s88 => Jk fun _ => -- s
          Do P (V (binOp .lss 3 s88 (.int .i64 2))) fun t89_131 =>
          If t89_131 (
           Do P (V (Instr.loadAt 39 g7)) fun t90_134 =>
           Do P (V (Instr.loadAt 44 p12)) fun t91_135 =>
           Do P (vCall (.func (.func 33) #[] ⟨[]⟩) [t90_134, t91_135, s88]) fun t92_137 =>
           Do P (V (Instr.loadAt 39 g7)) fun t93_138 =>
           Do P (V (Instr.loadAt 44 q73)) fun t94_139 =>
           Do P (vCall (.func (.func 33) #[] ⟨[]⟩) [t93_138, t94_139, s88]) fun t95_141 =>
           Do P (vBuiltin .len #[33] 3 [t95_141]) fun t96_143 =>
           Do P (vBuiltin .len #[33] 3 [t92_137]) fun t97_145 =>
           Do P (V (EqG .neq 3 (.tmp 143) (.tmp 145) t96_143 t97_145)) fun t98_146 =>
           If t98_146 (
            K (.bool false)
           ) (
            Lp (α := Value) (fun c99 s99 => Jk fun _ => -- k
             Do P (vBuiltin .len #[33] 3 [t92_137]) fun t100_149 =>
             Do P (V (binOp .lss 3 s99 t100_149)) fun t101_150 =>
             If t101_150 (
              Jn (α := Value) (fun j102 => Jk fun _ => -- more
               Dr <|
               Qk P (V (Instr.indexAt 33 t95_141 s99)) fun C103 t103_163 =>
               Qk P (V (Instr.loadAt 3 t103_163)) fun C104 t104_164 =>
               Qk P (V (Instr.indexAt 33 t92_137 s99)) fun C105 t105_167 =>
               Qk P (V (Instr.loadAt 3 t105_167)) fun C106 t106_168 =>
               Qk P (V (binOp .add 3 t106_168 j102)) fun C107 t107_170 =>
               Qk P (V (EqG .neq 3 (.tmp 164) (.tmp 170) t104_164 t107_170)) fun C108 t108_171 =>
               If t108_171 (
                K (.bool false)
               ) (
                Do P (V (binOp .add 3 s99 (.int .i64 1))) fun t109_152 =>
                c99 t109_152
               )
              ) fun k102 =>
              Jn (α := Value) (fun j110 => Jk fun _ => -- t160
               If j110 (
                k102 (.int .i64 1)
               ) (
                k102 (.int .i64 0)
               )
              ) fun k110 =>
              Do P (V (EqG .eql 3 (.tmp 153) (.tmp 154) s88 t62_100)) fun t111_155 =>
              Gd t111_155 true (
               Do P (V (EqG .eql 3 (.tmp 157) (.tmp 158) s99 t58_96)) fun t112_159 =>
               k110 t112_159
              ) (
               k110 (.bool false)
              )
             ) (
              Do P (V (binOp .add 3 s88 (.int .i64 1))) fun t113_133 =>
              c88 t113_133
             )
            ) (.int .i64 0)
           )
          ) (
           Gd t4_24 true (
            Do P (V (Instr.fieldAt 39 g7 0)) fun t114_175 =>
            Do P (V (Instr.fieldAt 35 t114_175 0)) fun t115_176 =>
            Do P (V (Instr.loadAt 3 t115_176)) fun t116_177 =>
            Do P (V (EqG .eql 3 (.tmp 174) (.tmp 177) s31.1 t116_177)) fun t117_178 =>
            K t117_178
           ) (
            K (.bool false)
           )
          )
         ) (.int .i64 0)
        )
       )
      ) (s21.1, (.int .i64 0))
     )
    ) ((.int .i64 0), (.int .i64 0))
   )
  ) fun k20 =>
  Do P (vBuiltin .len #[33] 3 [t16_32]) fun t118_37 =>
  Do P (V (Instr.fieldAt 39 g7 1)) fun t119_38 =>
  Do P (V (Instr.loadAt 36 t119_38)) fun t120_39 =>
  Do P (vBuiltin .len #[36] 3 [t120_39]) fun t121_40 =>
  Do P (V (EqG .neq 3 (.tmp 37) (.tmp 40) t118_37 t121_40)) fun t122_41 =>
  Gd t122_41 false (
   Do P (vBuiltin .len #[33] 3 [t19_35]) fun t123_44 =>
   Do P (V (Instr.fieldAt 39 g7 1)) fun t124_45 =>
   Do P (V (Instr.loadAt 36 t124_45)) fun t125_46 =>
   Do P (vBuiltin .len #[36] 3 [t125_46]) fun t126_47 =>
   Do P (V (EqG .neq 3 (.tmp 44) (.tmp 47) t123_44 t126_47)) fun t127_48 =>
   k20 t127_48
  ) (
   k20 (.bool true)
  )
def A9 : Ann := .s (.n) (.s (.n) (.s (.n) (.s (.n) (.s (.n) (.s (.n) (.s (.j [49] 1125831187365888 (.n) (.s (.s (.n) (.n)) (.n))) (.s (.n) (.s (.s (.n) (.lp [12, 13] 147572826689769582592 (.s (.s (.n) (.s (.n) (.n))) (.s (.plan [(0, 4096, 72057594037927936), (0, 1024, 144115188075855872), (0, 8192, 288230376151711744), (6, 432345564227567616, 576460752303423488), (8, 576460752303423488, 1152921504606846976), (0, 2048, 2305843009213693952), (0, 8192, 4611686018427387904), (96, 6917529027641081856, 9223372036854775808), (128, 9223372036854775808, 18446744073709551616), (272, 19599665578316398592, 36893488147419103232), (513, 36965545741457031168, 73786976294838206464), (2047, 73786976294838206464, 4096)] (.q 0 (.q 1 (.q 2 (.q 3 (.q 4 (.q 5 (.q 6 (.q 7 (.q 8 (.q 9 (.q 10 (.q 11 .done))))))))))))) (.n))))) (.s (.s (.n) (.lp [12, 14] 4835555704505927022432256 (.s (.s (.n) (.s (.n) (.n))) (.j [12] 4816813812527038117974016 (.s (.n) (.s (.n) (.n))) (.n))))) (.s (.n) (.s (.n) (.s (.n) (.s (.s (.n) (.s (.s (.n) (.n)) (.n))) (.s (.n) (.s (.n) (.s (.n) (.s (.s (.n) (.lp [19] 5986310706506017223494609320952041750080972639436864 (.s (.s (.n) (.s (.n) (.n))) (.s (.s (.n) (.s (.n) (.s (.s (.n) (.s (.s (.n) (.n)) (.n))) (.s (.n) (.lp [22] 5986310528101416764717307942520149067323807660769344 (.s (.s (.n) (.s (.n) (.n))) (.s (.s (.n) (.j [23] 2911585293120158157358903377676970078220811501568 (.j [160] 2911585293120158157358903377676970078220803112960 (.n) (.s (.n) (.n))) (.s (.plan [(0, 2097152, 2923003274661805836407369665432566039311865085952), (0, 4194304, 5846006549323611672814739330865132078623730171904), (3, 8769009823985417509222108996297698117935595257856, 11692013098647223345629478661730264157247460343808), (4, 11692013098647223345629478661730264157247460343808, 23384026197294446691258957323460528314494920687616), (0, 1048576, 46768052394588893382517914646921056628989841375232), (0, 4194304, 93536104789177786765035829293842113257979682750464), (48, 140304157183766680147553743940763169886969524125696, 187072209578355573530071658587684226515959365500928), (64, 187072209578355573530071658587684226515959365500928, 374144419156711147060143317175368453031918731001856), (0, 8388608, 748288838313422294120286634350736906063837462003712), (384, 1122433257470133441180429951526105359095756193005568, 1496577676626844588240573268701473812127674924007424), (520, 1519961702824139034931832226024934340442169844695040, 2993155353253689176481146537402947624255349848014848)] (.q 0 (.q 1 (.q 2 (.q 3 (.q 4 (.q 5 (.q 6 (.q 7 (.q 8 (.q 9 (.q 10 .done)))))))))))) (.s (.s (.n) (.n)) (.n))))) (.n)))))))) (.n))))) (.s (.n) (.n)))))))))))))))))))
set_option maxRecDepth 100000 in
theorem c9 (arg0 arg1 arg2 : Value) (K : Value → WP) (w : World) (h : s9 Tryz.prog arg0 arg1 arg2 K w) : Runs Tryz.prog 9 [arg0, arg1, arg2] K w :=
  runs_of_E wide (fn := Tryz.f9) (c := Tryz.f9.body.getD .skip) 180 A9 [arg0, arg1, arg2] w K Tryz.func9 (by kernel_rfl) (by kernel_rfl) (by kernel_rfl) (by kernel_rfl)
    (Eq.mp (by kernel_rfl : s9 Tryz.prog arg0 arg1 arg2 K w = E Tryz.prog (Tryz.f9.body.getD .skip) A9 (topK Tryz.prog K Tryz.f9.results) (fun i => (([arg0, arg1, arg2] : List Value)[i]?).getD undef) w) h)
theorem ct9 {arg0 arg1 arg2 : Value} {h : Hp} {post : Hp → Value → Prop} (hg : ∀ w0, Gs w0 h h [] (s9 Tryz.prog arg0 arg1 arg2 (RetP w0 h post))) : Ct Tryz.prog 9 [arg0, arg1, arg2] h post := Ct.of (sf := s9 Tryz.prog arg0 arg1 arg2) (c9 arg0 arg1 arg2) hg
theorem in9 {arg0 arg1 arg2 : Value} {S : WP} {K : Value → WP} (hg : G S (s9 Tryz.prog arg0 arg1 arg2 K)) : G S (Do Tryz.prog (vCall (.func (.func 9) #[] ⟨[]⟩) [arg0, arg1, arg2]) K) := Gs.into (args := [arg0, arg1, arg2]) (caps := []) (sf := s9 Tryz.prog arg0 arg1 arg2) (c9 arg0 arg1 arg2) hg

/- skewer/skewerlaw04.PosKeys : names 0 x, 1 y, 2 z, 3 x, 4 y, 5 z, 7 up, 8 g, 9 p, 10 q, 11 a, 12 b, 13 order -/
def s10 (P : Program) (arg0 arg1 arg2 : Value) (K : Value → WP) : WP :=
  Do P (V (Instr.box 27 arg0)) fun x1 =>
  Do P (V (Instr.box 30 arg1)) fun y2 =>
  Do P (V (Instr.box 30 arg2)) fun z3 =>
  Do P (vCall (.func (.func 12) #[] ⟨[]⟩) []) fun t4_14 =>
  Do P (V (Instr.loadAt 27 x1)) fun t5_15 =>
  Do P (vCall (.func (.func 13) #[] ⟨[]⟩) [t5_15]) fun t6_16 =>
  Do P (V (Instr.alloc 39 true (.tuple #[]))) fun g7 =>
  Do P (U (Instr.storeAt 39 g7 t6_16)) fun t8_x =>
  Do P (V (Instr.loadAt 39 g7)) fun t9_17 =>
  Do P (V (Instr.loadAt 30 y2)) fun t10_18 =>
  Do P (vCall (.func (.func 15) #[] ⟨[]⟩) [t9_17, t10_18]) fun t11_19 =>
  Do P (V (Instr.alloc 44 true (.tuple #[]))) fun p12 =>
  Do P (U (Instr.storeAt 44 p12 t11_19)) fun t13_x =>
  Do P (V (Instr.loadAt 39 g7)) fun t14_20 =>
  Do P (V (Instr.loadAt 30 z3)) fun t15_21 =>
  Do P (vCall (.func (.func 15) #[] ⟨[]⟩) [t14_20, t15_21]) fun t16_22 =>
  Do P (V (Instr.alloc 44 true (.tuple #[]))) fun q17 =>
  Do P (U (Instr.storeAt 44 q17 t16_22)) fun t18_x =>
  Do P (V (Instr.loadAt 44 p12)) fun t19_23 =>
  Do P (vCall (.func (.func 26) #[] ⟨[]⟩) [t19_23]) fun t20_24 =>
  Do P (V (Instr.loadAt 44 q17)) fun t21_25 =>
  Do P (vCall (.func (.func 26) #[] ⟨[]⟩) [t21_25]) fun t22_26 =>
  Jn (α := Value) (fun j23 => Jk fun _ => -- order
   Jn (α := Value) (fun j24 => Jk fun _ => -- order
    Gd t4_14 true (
     Do P (vBuiltin .len #[9] 3 [t20_24]) fun t25_36 =>
     Do P (V (Instr.fieldAt 39 g7 0)) fun t26_37 =>
     Do P (V (Instr.fieldAt 35 t26_37 0)) fun t27_38 =>
     Do P (V (Instr.loadAt 3 t27_38)) fun t28_39 =>
     Do P (V (Instr.fieldAt 39 g7 1)) fun t29_40 =>
     Do P (V (Instr.loadAt 36 t29_40)) fun t30_41 =>
     Do P (vBuiltin .len #[36] 3 [t30_41]) fun t31_42 =>
     Do P (V (binOp .mul 3 (.int .i64 2) t31_42)) fun t32_43 =>
     Do P (V (binOp .add 3 t28_39 t32_43)) fun t33_44 =>
     Do P (V (binOp .add 3 t33_44 (.int .i64 2))) fun t34_45 =>
     Do P (V (EqG .eql 3 (.tmp 36) (.tmp 45) t25_36 t34_45)) fun t35_46 =>
     Gd t35_46 true (
      Do P (V (EqG .eql 9 (.tmp 49) (.tmp 50) t20_24 t22_26)) fun t36_51 =>
      Do P (V (Instr.loadAt 44 p12)) fun t37_52 =>
      Do P (V (Instr.loadAt 44 q17)) fun t38_53 =>
      Do P (vCall (.func (.func 18) #[] ⟨[]⟩) [t37_52, t38_53]) fun t39_54 =>
      Do P (V (EqG .eql 4 (.tmp 51) (.tmp 54) t36_51 t39_54)) fun t40_55 =>
      Gd t40_55 true (
       Do P (V (Instr.loadAt 44 p12)) fun t41_59 =>
       Do P (V (Instr.loadAt 44 q17)) fun t42_60 =>
       Do P (vCall (.func (.func 24) #[] ⟨[]⟩) [t41_59, t42_60]) fun t43_61 =>
       Do P (V (EqG .eql 3 (.tmp 58) (.tmp 61) j24 t43_61)) fun t44_62 =>
       K t44_62
      ) (
       K (.bool false)
      )
     ) (
      K (.bool false)
     )
    ) (
     K (.bool false)
    )
   ) fun k24 =>
   Do P (V (binOp .gtr 9 t20_24 t22_26)) fun t45_32 =>
   If t45_32 (
    k24 (.int .i64 1)
   ) (
    k24 j23
   )
  ) fun k23 =>
  Do P (V (binOp .lss 9 t20_24 t22_26)) fun t46_29 =>
  If t46_29 (
   k23 (.int .i64 (-1))
  ) (
   k23 (.int .i64 0)
  )
def A10 : Ann := .s (.n) (.s (.n) (.s (.n) (.s (.n) (.s (.n) (.s (.n) (.s (.n) (.s (.n) (.j [13] 939532288 (.s (.n) (.s (.n) (.n))) (.j [13] 7516200960 (.s (.n) (.s (.n) (.n))) (.s (.n) (.n)))))))))))
set_option maxRecDepth 100000 in
theorem c10 (arg0 arg1 arg2 : Value) (K : Value → WP) (w : World) (h : s10 Tryz.prog arg0 arg1 arg2 K w) : Runs Tryz.prog 10 [arg0, arg1, arg2] K w :=
  runs_of_E wide (fn := Tryz.f10) (c := Tryz.f10.body.getD .skip) 64 A10 [arg0, arg1, arg2] w K Tryz.func10 (by kernel_rfl) (by kernel_rfl) (by kernel_rfl) (by kernel_rfl)
    (Eq.mp (by kernel_rfl : s10 Tryz.prog arg0 arg1 arg2 K w = E Tryz.prog (Tryz.f10.body.getD .skip) A10 (topK Tryz.prog K Tryz.f10.results) (fun i => (([arg0, arg1, arg2] : List Value)[i]?).getD undef) w) h)
theorem ct10 {arg0 arg1 arg2 : Value} {h : Hp} {post : Hp → Value → Prop} (hg : ∀ w0, Gs w0 h h [] (s10 Tryz.prog arg0 arg1 arg2 (RetP w0 h post))) : Ct Tryz.prog 10 [arg0, arg1, arg2] h post := Ct.of (sf := s10 Tryz.prog arg0 arg1 arg2) (c10 arg0 arg1 arg2) hg
theorem in10 {arg0 arg1 arg2 : Value} {S : WP} {K : Value → WP} (hg : G S (s10 Tryz.prog arg0 arg1 arg2 K)) : G S (Do Tryz.prog (vCall (.func (.func 10) #[] ⟨[]⟩) [arg0, arg1, arg2]) K) := Gs.into (args := [arg0, arg1, arg2]) (caps := []) (sf := s10 Tryz.prog arg0 arg1 arg2) (c10 arg0 arg1 arg2) hg

/- skewer/skewerlaw04.PosTexts : names 0 x, 1 y, 2 put, 3 x, 4 y, 5 put, 7 up, 8 g, 9 p, 10 q, 11 s, 12 back, 13 e, 14 at, 15 end, 16 odd, 17 r, 18 f -/
def s11 (P : Program) (arg0 arg1 arg2 : Value) (K : Value → WP) : WP :=
  Do P (V (Instr.box 27 arg0)) fun x1 =>
  Do P (V (Instr.box 81 arg1)) fun y2 =>
  Do P (vCall (.func (.func 12) #[] ⟨[]⟩) []) fun t3_19 =>
  Do P (vBuiltin .len #[9] 3 [arg2]) fun t4_21 =>
  Do P (V (binOp .gtr 3 t4_21 (.int .i64 6))) fun t5_22 =>
  If t5_22 (
   K t3_19
  ) (
   Do P (V (Instr.loadAt 27 x1)) fun t6_24 =>
   Do P (vCall (.func (.func 13) #[] ⟨[]⟩) [t6_24]) fun t7_25 =>
   Do P (V (Instr.alloc 39 true (.tuple #[]))) fun g8 =>
   Do P (U (Instr.storeAt 39 g8 t7_25)) fun t9_x =>
   Do P (V (Instr.loadAt 39 g8)) fun t10_26 =>
   Do P (V (Instr.indexAt 81 y2 (.int .i64 0))) fun t11_27 =>
   Do P (V (Instr.loadAt 30 t11_27)) fun t12_28 =>
   Do P (vCall (.func (.func 15) #[] ⟨[]⟩) [t10_26, t12_28]) fun t13_29 =>
   Do P (V (Instr.alloc 44 true (.tuple #[]))) fun p14 =>
   Do P (U (Instr.storeAt 44 p14 t13_29)) fun t15_x =>
   Do P (V (Instr.loadAt 39 g8)) fun t16_30 =>
   Do P (V (Instr.indexAt 81 y2 (.int .i64 1))) fun t17_31 =>
   Do P (V (Instr.loadAt 30 t17_31)) fun t18_32 =>
   Do P (vCall (.func (.func 15) #[] ⟨[]⟩) [t16_30, t18_32]) fun t19_33 =>
   Do P (V (Instr.alloc 44 true (.tuple #[]))) fun q20 =>
   Do P (U (Instr.storeAt 44 q20 t19_33)) fun t21_x =>
   Do P (V (Instr.loadAt 39 g8)) fun t22_34 =>
   Do P (V (Instr.loadAt 44 p14)) fun t23_35 =>
   Do P (vCall (.func (.func 31) #[] ⟨[]⟩) [t22_34, t23_35]) fun t24_36 =>
   Do P (V (Instr.loadAt 39 g8)) fun t25_38 =>
   Do P (vCall (.func (.func 16) #[] ⟨[]⟩) [t25_38, t24_36]) fun t26_40 =>
   Do P (V (Instr.extract t26_40 0)) fun t27_41 =>
   Do P (V (Instr.extract t26_40 1)) fun t28_42 =>
   Do P (V (Instr.alloc 44 true (.tuple #[]))) fun back29 =>
   Do P (U (Instr.storeAt 44 back29 t27_41)) fun t30_x =>
   Jn (α := Value) (fun j31 => Jk fun _ => -- t61
    If j31 (
     K (.bool false)
    ) (
     Do P (V (Instr.indexAt 81 y2 (.int .i64 1))) fun t32_62 =>
     Do P (V (Instr.fieldAt 30 t32_62 0)) fun t33_63 =>
     Do P (V (Instr.indexAt 25 t33_63 (.int .i64 0))) fun t34_64 =>
     Do P (V (Instr.loadAt 5 t34_64)) fun t35_65 =>
     Do P (V (convert 5 3 t35_65)) fun t36_66 =>
     Do P (vBuiltin .len #[9] 3 [t24_36]) fun t37_68 =>
     Do P (V (binOp .add 3 t37_68 (.int .i64 1))) fun t38_69 =>
     Do P (V (binOp .rem 3 t36_66 t38_69)) fun t39_70 =>
     Do P (V (Instr.indexAt 81 y2 (.int .i64 1))) fun t40_72 =>
     Do P (V (Instr.fieldAt 30 t40_72 0)) fun t41_73 =>
     Do P (V (Instr.indexAt 25 t41_73 (.int .i64 1))) fun t42_74 =>
     Do P (V (Instr.loadAt 5 t42_74)) fun t43_75 =>
     Do P (V (binOp .rem 5 t43_75 (.int .u8 5))) fun t44_76 =>
     Do P (V (convert 5 3 t44_76)) fun t45_77 =>
     Do P (V (binOp .add 3 t39_70 t45_77)) fun t46_78 =>
     Do P (vBuiltin .len #[9] 3 [t24_36]) fun t47_80 =>
     Do P (vBuiltin .min #[3, 3] 3 [t46_78, t47_80]) fun t48_81 =>
     Dr <|
     Qk P (V (Instr.sliceAt 9 t24_36 none (some t39_70) none)) fun C49 t49_84 =>
     Qk P (V (binOp .add 9 t49_84 arg2)) fun C50 t50_86 =>
     Qk P (V (Instr.sliceAt 9 t24_36 (some t48_81) none none)) fun C51 t51_89 =>
     Qk P (V (binOp .add 9 t50_86 t51_89)) fun C52 t52_90 =>
     Do P (V (Instr.loadAt 39 g8)) fun t53_92 =>
     Do P (vCall (.func (.func 16) #[] ⟨[]⟩) [t53_92, t52_90]) fun t54_94 =>
     Do P (V (Instr.extract t54_94 0)) fun t55_95 =>
     Do P (V (Instr.extract t54_94 1)) fun t56_96 =>
     Do P (V (Instr.alloc 44 true (.tuple #[]))) fun r57 =>
     Do P (U (Instr.storeAt 44 r57 t55_95)) fun t58_x =>
     Do P (V (EqG .neq 47 (.tmp 97) (.const (.int .i64 0)) t56_96 (.int .i64 0))) fun t59_98 =>
     If t59_98 (
      Gd t3_19 true (
       Do P (V (EqG .eql 47 (.tmp 101) (.const (.int .i64 3)) t56_96 (.int .i64 3))) fun t60_102 =>
       Gd t60_102 true (
        Do P (V (Instr.loadAt 44 r57)) fun t61_105 =>
        Do P (vBuild 44 []) fun t62_106 =>
        Do P (vCall (.func (.func 18) #[] ⟨[]⟩) [t61_105, t62_106]) fun t63_107 =>
        Gd t63_107 true (
         Do P (V (EqG .neq 9 (.tmp 110) (.tmp 111) t52_90 t24_36)) fun t64_112 =>
         K t64_112
        ) (
         K (.bool false)
        )
       ) (
        K (.bool false)
       )
      ) (
       K (.bool false)
      )
     ) (
      Gd t3_19 true (
       Do P (V (Instr.loadAt 39 g8)) fun t65_116 =>
       Do P (V (Instr.loadAt 44 r57)) fun t66_117 =>
       Do P (vCall (.func (.func 28) #[] ⟨[]⟩) [t65_116, t66_117]) fun t67_118 =>
       Gd t67_118 true (
        Do P (V (Instr.loadAt 39 g8)) fun t68_121 =>
        Do P (V (Instr.loadAt 44 r57)) fun t69_122 =>
        Do P (vCall (.func (.func 31) #[] ⟨[]⟩) [t68_121, t69_122]) fun t70_123 =>
        Do P (V (EqG .eql 9 (.tmp 123) (.tmp 124) t70_123 t52_90)) fun t71_125 =>
        K t71_125
       ) (
        K (.bool false)
       )
      ) (
       K (.bool false)
      )
     )
    )
   ) fun k31 =>
   Dr <|
   Qk P (V (EqG .neq 47 (.tmp 43) (.const (.int .i64 0)) t28_42 (.int .i64 0))) fun C72 t72_44 =>
   Gd t72_44 false (
    Qk P (V (Instr.loadAt 44 back29)) fun C73 t73_46 =>
    Qk P (V (Instr.loadAt 44 p14)) fun C74 t74_47 =>
    Do P (vCall (.func (.func 18) #[] ⟨[]⟩) [t73_46, t74_47]) fun t75_48 =>
    Qk P (V (Op.unary .not t75_48)) fun C76 t76_49 =>
    Gd t76_49 false (
     Qk P (V (Instr.loadAt 39 g8)) fun C77 t77_52 =>
     Qk P (V (Instr.loadAt 44 q20)) fun C78 t78_53 =>
     Qk P (V (Instr.loadAt 44 p14)) fun C79 t79_57 =>
     Qk P (V (Instr.loadAt 44 q20)) fun C80 t80_58 =>
     Do P (vCall (.func (.func 31) #[] ⟨[]⟩) [t77_52, t78_53]) fun t81_54 =>
     With C80 <|
     With C79 <|
     Qk P (V (EqG .eql 9 (.tmp 54) (.tmp 55) t81_54 t24_36)) fun C82 t82_56 =>
     Do P (vCall (.func (.func 18) #[] ⟨[]⟩) [t79_57, t80_58]) fun t83_59 =>
     With C82 <|
     Qk P (V (EqG .neq 4 (.tmp 56) (.tmp 59) t82_56 t83_59)) fun C84 t84_60 =>
     k31 t84_60
    ) (
     k31 (.bool true)
    )
   ) (
    k31 (.bool true)
   )
  )
def A11 : Ann := .s (.n) (.s (.n) (.s (.s (.n) (.s (.s (.n) (.n)) (.n))) (.s (.n) (.s (.n) (.s (.n) (.s (.n) (.s (.n) (.s (.j [61] 4611677222334365696 (.plan [(0, 8192, 8796093022208), (1, 8796093022208, 17592186044416), (2, 17592186044416, 35184372088832), (4, 35184372092928, 70368744177664), (4, 35184372089344, 140737488355328), (28, 246290604621824, 281474976710656), (36, 316659348799488, 562949953421312), (68, 598134325510144, 1125899906842624), (160, 1125899906842624, 2251799813685248), (256, 2251799813685504, 4503599627370496), (256, 2251799813686272, 9007199254740992), (1792, 15762598695796736, 18014398509481984), (256, 2251799813687296, 36028797018963968), (6400, 56294995342131200, 72057594037927936), (256, 2251799813685760, 144115188075855872), (256, 2251799813686272, 288230376151711744), (51456, 434597364041252864, 576460752303423488), (73984, 650770146155036672, 1152921504606846976), (131328, 1155173304420532224, 2305843009213693952)] (.q 0 (.q 1 (.q 2 (.q 3 (.q 4 (.l 5 (.q 6 (.q 7 (.q 8 (.q 9 (.q 10 (.q 12 (.q 14 (.q 15 (.l 11 (.q 13 (.l 16 (.q 17 (.q 18 .done)))))))))))))))))))) (.s (.s (.n) (.n)) (.n))) (.s (.n) (.s (.n) (.s (.plan [(0, 2048, 4835703278458516698824704), (0, 16384, 9671406556917033397649408), (3, 14507109835375550096474112, 19342813113834066795298816), (0, 4, 38685626227668133590597632), (12, 58028439341502200385896448, 77371252455336267181195264), (0, 2048, 154742504910672534362390528), (0, 32768, 309485009821345068724781056), (96, 464227514732017603087171584, 618970019642690137449562112), (144, 696341272098026404630757376, 1237940039285380274899124224), (511, 1237940039285380274899124224, 65536)] (.q 0 (.q 1 (.q 2 (.q 3 (.q 4 (.q 5 (.q 6 (.q 7 (.q 8 (.q 9 .done))))))))))) (.s (.n) (.s (.s (.n) (.s (.s (.n) (.n)) (.n))) (.s (.n) (.n)))))))))))))))
set_option maxRecDepth 100000 in
theorem c11 (arg0 arg1 arg2 : Value) (K : Value → WP) (w : World) (h : s11 Tryz.prog arg0 arg1 arg2 K w) : Runs Tryz.prog 11 [arg0, arg1, arg2] K w :=
  runs_of_E wide (fn := Tryz.f11) (c := Tryz.f11.body.getD .skip) 127 A11 [arg0, arg1, arg2] w K Tryz.func11 (by kernel_rfl) (by kernel_rfl) (by kernel_rfl) (by kernel_rfl)
    (Eq.mp (by kernel_rfl : s11 Tryz.prog arg0 arg1 arg2 K w = E Tryz.prog (Tryz.f11.body.getD .skip) A11 (topK Tryz.prog K Tryz.f11.results) (fun i => (([arg0, arg1, arg2] : List Value)[i]?).getD undef) w) h)
theorem ct11 {arg0 arg1 arg2 : Value} {h : Hp} {post : Hp → Value → Prop} (hg : ∀ w0, Gs w0 h h [] (s11 Tryz.prog arg0 arg1 arg2 (RetP w0 h post))) : Ct Tryz.prog 11 [arg0, arg1, arg2] h post := Ct.of (sf := s11 Tryz.prog arg0 arg1 arg2) (c11 arg0 arg1 arg2) hg
theorem in11 {arg0 arg1 arg2 : Value} {S : WP} {K : Value → WP} (hg : G S (s11 Tryz.prog arg0 arg1 arg2 K)) : G S (Do Tryz.prog (vCall (.func (.func 11) #[] ⟨[]⟩) [arg0, arg1, arg2]) K) := Gs.into (args := [arg0, arg1, arg2]) (caps := []) (sf := s11 Tryz.prog arg0 arg1 arg2) (c11 arg0 arg1 arg2) hg

end Go.Proofs.YtcmokdokcghooaaGreatDoor
end

