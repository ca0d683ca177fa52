/-
  Lemmas for the proof of the statement of this claim: a part of the road, no statement of its own. Conditions: those that each lemma names.
-/
import Derived.Test.YtlljhipmnkdpeaaGreatDoorKd
set_option linter.unusedVariables false
set_option maxHeartbeats 4000000
namespace Go.Proofs.YtlljhipmnkdpeaaGreatDoor
open Go Go.Sk Go.Pr Go.RowKit
abbrev eP8 : Int × Int → List Value := fun x => [.int .u8 x.1, .int .u8 x.2]
instance : Enc eP8 2 := ⟨fun _ => rfl, fun a v h => by
  simp only [eP8, List.mem_cons, List.not_mem_nil, or_false] at h
  rcases h with rfl | rfl <;> rfl⟩
instance ix42o {S : WP} {b o : Nat} : Yd Tryz.prog S (V (Instr.indexAt 42 (ptr b o) (.int .i64 0))) (ptr b o) := Yd.ixA (sz := 1) (e := 5) (n := 2) ⟨by decide, by decide⟩ rfl
theorem texts_ok (l m : List Int) (raw : List (Int × Int)) (x y u : Value) (h : Hp) (hE : Env h) (hl : U8s h x l) (hm : U8s h y m) (hr : RdE h u eP8 2 raw) (hb : ∀ p ∈ raw, 0 ≤ p.1 ∧ p.1 ≤ 255) (h63 : raw.length ≤ 9223372036854775807) :
    Ct Tryz.prog 4 [.agg #[x, y], u] h (fun _ x => x = .bool true) := by
  refine ct4 ?_
  intro w0
  unfold s4
  (repeat (first | refine G.add (by omega) ?_ | refine G.sub (by omega) ?_ | refine G.mul (by omega) ?_ | refine G.neg (by omega) ?_ | refine G.quo (by omega) (by omega) ?_ | refine G.rem (by omega) ?_ | refine G.shr (by omega) ?_ | refine G.conv (by omega) ?_ | refine G.step ?_ | refine G.buildA (by rfl) ?_ | (refine Gs.box ?_; intro _) | (refine Gs.alloc ?_; intro _) | refine Gs.store ?_ | refine G.retc ?_ | refine Gs.dr ?_ | refine G.qadd (by omega) ?_ | refine G.qsub (by omega) ?_ | refine G.qmul (by omega) ?_ | refine G.qneg (by omega) ?_ | refine G.qkp ?_ | refine Gs.qkb ?_ | refine G.withT ?_ | refine Gs.withb ?_ | refine G.ift ?_ | refine G.iff ?_ | refine G.gdtt ?_ | refine G.gdff ?_ | refine G.gdtf ?_ | refine G.gdft ?_ | (refine G.jk ?_; intro _)))
  refine sanity_call hE ?_
  (repeat (first | refine G.add (by omega) ?_ | refine G.sub (by omega) ?_ | refine G.mul (by omega) ?_ | refine G.neg (by omega) ?_ | refine G.quo (by omega) (by omega) ?_ | refine G.rem (by omega) ?_ | refine G.shr (by omega) ?_ | refine G.conv (by omega) ?_ | refine G.step ?_ | refine G.buildA (by rfl) ?_ | (refine Gs.box ?_; intro _) | (refine Gs.alloc ?_; intro _) | refine Gs.store ?_ | refine G.retc ?_ | refine Gs.dr ?_ | refine G.qadd (by omega) ?_ | refine G.qsub (by omega) ?_ | refine G.qmul (by omega) ?_ | refine G.qneg (by omega) ?_ | refine G.qkp ?_ | refine Gs.qkb ?_ | refine G.withT ?_ | refine Gs.withb ?_ | refine G.ift ?_ | refine G.iff ?_ | refine G.gdtt ?_ | refine G.gdff ?_ | refine G.gdtf ?_ | refine G.gdft ?_ | (refine G.jk ?_; intro _)))
  refine lib_call hl ?_
  intro h1 av hle1 ta
  (repeat (first | refine G.add (by omega) ?_ | refine G.sub (by omega) ?_ | refine G.mul (by omega) ?_ | refine G.neg (by omega) ?_ | refine G.quo (by omega) (by omega) ?_ | refine G.rem (by omega) ?_ | refine G.shr (by omega) ?_ | refine G.conv (by omega) ?_ | refine G.step ?_ | refine G.buildA (by rfl) ?_ | (refine Gs.box ?_; intro _) | (refine Gs.alloc ?_; intro _) | refine Gs.store ?_ | refine G.retc ?_ | refine Gs.dr ?_ | refine G.qadd (by omega) ?_ | refine G.qsub (by omega) ?_ | refine G.qmul (by omega) ?_ | refine G.qneg (by omega) ?_ | refine G.qkp ?_ | refine Gs.qkb ?_ | refine G.withT ?_ | refine Gs.withb ?_ | refine G.ift ?_ | refine G.iff ?_ | refine G.gdtt ?_ | refine G.gdff ?_ | refine G.gdtf ?_ | refine G.gdft ?_ | (refine G.jk ?_; intro _)))
  refine lib_call (hm.mono hle1) ?_
  intro h2 bv hle2 tb
  refine steps_call ?_
  intro h3 sv hle3 rs
  have ra := (ta.rd.mono hle2).mono hle3
  have rb := tb.rd.mono hle3
  have hr := ((hr.mono hle1).mono hle2).mono hle3
  have hE := ((hE.mono hle1).mono hle2).mono hle3
  refine Gs.buildSlice (by decide) ?_
  intro b4
  have hla := lib_len l
  have hlb := lib_len m
  have hva := lib_valid l
  have hvb := lib_valid m
  refine Gs.lp (β := Nat × List Stp × Value) (fun b => (b.2.2, I b.1)) (fun _ => h3) (fun b => [.sl b.2.2 41 2 (fl encP b.2.1)]) (fun b => b.1 ≤ raw.length ∧ b.1 ≤ 8 ∧ b.2.1.length = b.1) (fun b => 8 - b.1) (0, [], .slice (some ⟨b4, 0, none⟩) 0 0) rfl ⟨Nat.zero_le _, Nat.zero_le _, rfl⟩ (fun w s => s.sub (by simp [fl])) ?_
  rintro ⟨i, c, cv⟩ ⟨hi, hi8, hcl⟩ cont hc
  dsimp only at *
  (repeat (first | refine G.add (by omega) ?_ | refine G.sub (by omega) ?_ | refine G.mul (by omega) ?_ | refine G.neg (by omega) ?_ | refine G.quo (by omega) (by omega) ?_ | refine G.rem (by omega) ?_ | refine G.shr (by omega) ?_ | refine G.conv (by omega) ?_ | refine G.step ?_ | refine G.buildA (by rfl) ?_ | (refine Gs.box ?_; intro _) | (refine Gs.alloc ?_; intro _) | refine Gs.store ?_ | refine G.retc ?_ | refine Gs.dr ?_ | refine G.qadd (by omega) ?_ | refine G.qsub (by omega) ?_ | refine G.qmul (by omega) ?_ | refine G.qneg (by omega) ?_ | refine G.qkp ?_ | refine Gs.qkb ?_ | refine G.withT ?_ | refine Gs.withb ?_ | refine G.ift ?_ | refine G.iff ?_ | refine G.gdtt ?_ | refine G.gdff ?_ | refine G.gdtf ?_ | refine G.gdft ?_ | (refine G.jk ?_; intro _)))
  refine G.jn ?_
  refine Gs.lenE hr (by omega) ?_
  (repeat (first | refine G.add (by omega) ?_ | refine G.sub (by omega) ?_ | refine G.mul (by omega) ?_ | refine G.neg (by omega) ?_ | refine G.quo (by omega) (by omega) ?_ | refine G.rem (by omega) ?_ | refine G.shr (by omega) ?_ | refine G.conv (by omega) ?_ | refine G.step ?_ | refine G.buildA (by rfl) ?_ | (refine Gs.box ?_; intro _) | (refine Gs.alloc ?_; intro _) | refine Gs.store ?_ | refine G.retc ?_ | refine Gs.dr ?_ | refine G.qadd (by omega) ?_ | refine G.qsub (by omega) ?_ | refine G.qmul (by omega) ?_ | refine G.qneg (by omega) ?_ | refine G.qkp ?_ | refine Gs.qkb ?_ | refine G.withT ?_ | refine Gs.withb ?_ | refine G.ift ?_ | refine G.iff ?_ | refine G.gdtt ?_ | refine G.gdff ?_ | refine G.gdtf ?_ | refine G.gdft ?_ | (refine G.jk ?_; intro _)))
  have fin : Gs w0 h h3 [.sl cv 41 2 (fl encP c)] (Jn (α := Value) (fun j24 => Jk fun _ => -- c
      Do Tryz.prog (vCall (.func (.func 20) #[] ⟨[]⟩) [av]) fun t25_55 =>
      Do Tryz.prog (vCall (.func (.func 23) #[] ⟨[]⟩) [t25_55]) fun t26_56 =>
      Do Tryz.prog (V (Instr.extract t26_56 0)) fun t27_57 =>
      Do Tryz.prog (V (Instr.extract t26_56 1)) fun t28_58 =>
      Do Tryz.prog (vCall (.func (.func 20) #[] ⟨[]⟩) [j24]) fun t29_61 =>
      Do Tryz.prog (vCall (.func (.func 23) #[] ⟨[]⟩) [t29_61]) fun t30_62 =>
      Do Tryz.prog (V (Instr.extract t30_62 0)) fun t31_63 =>
      Do Tryz.prog (V (Instr.extract t30_62 1)) fun t32_64 =>
      Do Tryz.prog (V (EqG .eql 43 (.tmp 65) (.const (.int .i64 0)) t28_58 (.int .i64 0))) fun t33_66 =>
      Gd t33_66 true (
       Do Tryz.prog (V (EqG .eql 43 (.tmp 68) (.const (.int .i64 0)) t32_64 (.int .i64 0))) fun t34_69 =>
       Gd t34_69 true (
        Do Tryz.prog (vCall (.func (.func 24) #[] ⟨[]⟩) [t27_57, av]) fun t35_74 =>
        Gd t35_74 true (
         Do Tryz.prog (vCall (.func (.func 24) #[] ⟨[]⟩) [t31_63, j24]) fun t36_79 =>
         Gd t36_79 true (
          Do Tryz.prog (vCall (.func (.func 20) #[] ⟨[]⟩) [av]) fun t37_83 =>
          Do Tryz.prog (vCall (.func (.func 20) #[] ⟨[]⟩) [bv]) fun t38_85 =>
          Do Tryz.prog (V (EqG .eql 9 (.tmp 83) (.tmp 85) t37_83 t38_85)) fun t39_86 =>
          Do Tryz.prog (vCall (.func (.func 24) #[] ⟨[]⟩) [av, bv]) fun t40_89 =>
          Do Tryz.prog (V (EqG .eql 4 (.tmp 86) (.tmp 89) t39_86 t40_89)) fun t41_90 =>
          Gd t41_90 true (
           Do Tryz.prog (vCall (.func (.func 20) #[] ⟨[]⟩) [av]) fun t42_94 =>
           Do Tryz.prog (vCall (.func (.func 20) #[] ⟨[]⟩) [j24]) fun t43_96 =>
           Do Tryz.prog (V (EqG .eql 9 (.tmp 94) (.tmp 96) t42_94 t43_96)) fun t44_97 =>
           Do Tryz.prog (vCall (.func (.func 24) #[] ⟨[]⟩) [av, j24]) fun t45_100 =>
           Do Tryz.prog (V (EqG .eql 4 (.tmp 97) (.tmp 100) t44_97 t45_100)) fun t46_101 =>
           Gd t46_101 true (
            RetP w0 h (fun x x_1 => x_1 = Value.bool true) (.bool true)
           ) (
            RetP w0 h (fun x x_1 => x_1 = Value.bool true) (.bool false)
           )
          ) (
           RetP w0 h (fun x x_1 => x_1 = Value.bool true) (.bool false)
          )
         ) (
          RetP w0 h (fun x x_1 => x_1 = Value.bool true) (.bool false)
         )
        ) (
         RetP w0 h (fun x x_1 => x_1 = Value.bool true) (.bool false)
        )
       ) (
        RetP w0 h (fun x x_1 => x_1 = Value.bool true) (.bool false)
       )
      ) (
       RetP w0 h (fun x x_1 => x_1 = Value.bool true) (.bool false)
      )
     ) fun k24 =>
     Do Tryz.prog (vCall (.func (.func 14) #[] ⟨[]⟩) [cv, (.int .i64 8), (.int .i64 6), (.int .i64 4)]) fun t47_50 =>
     Do Tryz.prog (V (Op.unary .not t47_50)) fun t48_51 =>
     If t48_51 (
      k24 av
     ) (
      k24 cv
     )) := by
    refine Gs.freezeE (v := cv) (enc := encP) (by decide) ?_
    intro h4 hle4 rc
    have ra := ra.mono hle4
    have rb := rb.mono hle4
    have hE := hE.mono hle4
    have key : ∀ (c : List Stp) (cv : Value), RdE h4 cv encP 2 c → validB c 8 6 4 = true → c.length ≤ 8 → Gs w0 h h4 [] (
      Do Tryz.prog (vCall (.func (.func 20) #[] ⟨[]⟩) [av]) fun t25_55 =>
      Do Tryz.prog (vCall (.func (.func 23) #[] ⟨[]⟩) [t25_55]) fun t26_56 =>
      Do Tryz.prog (V (Instr.extract t26_56 0)) fun t27_57 =>
      Do Tryz.prog (V (Instr.extract t26_56 1)) fun t28_58 =>
      Do Tryz.prog (vCall (.func (.func 20) #[] ⟨[]⟩) [cv]) fun t29_61 =>
      Do Tryz.prog (vCall (.func (.func 23) #[] ⟨[]⟩) [t29_61]) fun t30_62 =>
      Do Tryz.prog (V (Instr.extract t30_62 0)) fun t31_63 =>
      Do Tryz.prog (V (Instr.extract t30_62 1)) fun t32_64 =>
      Do Tryz.prog (V (EqG .eql 43 (.tmp 65) (.const (.int .i64 0)) t28_58 (.int .i64 0))) fun t33_66 =>
      Gd t33_66 true (
       Do Tryz.prog (V (EqG .eql 43 (.tmp 68) (.const (.int .i64 0)) t32_64 (.int .i64 0))) fun t34_69 =>
       Gd t34_69 true (
        Do Tryz.prog (vCall (.func (.func 24) #[] ⟨[]⟩) [t27_57, av]) fun t35_74 =>
        Gd t35_74 true (
         Do Tryz.prog (vCall (.func (.func 24) #[] ⟨[]⟩) [t31_63, cv]) fun t36_79 =>
         Gd t36_79 true (
          Do Tryz.prog (vCall (.func (.func 20) #[] ⟨[]⟩) [av]) fun t37_83 =>
          Do Tryz.prog (vCall (.func (.func 20) #[] ⟨[]⟩) [bv]) fun t38_85 =>
          Do Tryz.prog (V (EqG .eql 9 (.tmp 83) (.tmp 85) t37_83 t38_85)) fun t39_86 =>
          Do Tryz.prog (vCall (.func (.func 24) #[] ⟨[]⟩) [av, bv]) fun t40_89 =>
          Do Tryz.prog (V (EqG .eql 4 (.tmp 86) (.tmp 89) t39_86 t40_89)) fun t41_90 =>
          Gd t41_90 true (
           Do Tryz.prog (vCall (.func (.func 20) #[] ⟨[]⟩) [av]) fun t42_94 =>
           Do Tryz.prog (vCall (.func (.func 20) #[] ⟨[]⟩) [cv]) fun t43_96 =>
           Do Tryz.prog (V (EqG .eql 9 (.tmp 94) (.tmp 96) t42_94 t43_96)) fun t44_97 =>
           Do Tryz.prog (vCall (.func (.func 24) #[] ⟨[]⟩) [av, cv]) fun t45_100 =>
           Do Tryz.prog (V (EqG .eql 4 (.tmp 97) (.tmp 100) t44_97 t45_100)) fun t46_101 =>
           Gd t46_101 true (
            RetP w0 h (fun x x_1 => x_1 = Value.bool true) (.bool true)
           ) (
            RetP w0 h (fun x x_1 => x_1 = Value.bool true) (.bool false)
           )
          ) (
           RetP w0 h (fun x x_1 => x_1 = Value.bool true) (.bool false)
          )
         ) (
          RetP w0 h (fun x x_1 => x_1 = Value.bool true) (.bool false)
         )
        ) (
         RetP w0 h (fun x x_1 => x_1 = Value.bool true) (.bool false)
        )
       ) (
        RetP w0 h (fun x x_1 => x_1 = Value.bool true) (.bool false)
       )
      ) (
       RetP w0 h (fun x x_1 => x_1 = Value.bool true) (.bool false)
      )) := by
      intro c cv rc hvc hc8
      refine print_call (lib l) hE ra (by omega) ?_
      refine parse_call (lib l) hva hE ?_
      intro h5 qa hle5 rqa
      (repeat (first | refine G.add (by omega) ?_ | refine G.sub (by omega) ?_ | refine G.mul (by omega) ?_ | refine G.neg (by omega) ?_ | refine G.quo (by omega) (by omega) ?_ | refine G.rem (by omega) ?_ | refine G.shr (by omega) ?_ | refine G.conv (by omega) ?_ | refine G.step ?_ | refine G.buildA (by rfl) ?_ | (refine Gs.box ?_; intro _) | (refine Gs.alloc ?_; intro _) | refine Gs.store ?_ | refine G.retc ?_ | refine Gs.dr ?_ | refine G.qadd (by omega) ?_ | refine G.qsub (by omega) ?_ | refine G.qmul (by omega) ?_ | refine G.qneg (by omega) ?_ | refine G.qkp ?_ | refine Gs.qkb ?_ | refine G.withT ?_ | refine Gs.withb ?_ | refine G.ift ?_ | refine G.iff ?_ | refine G.gdtt ?_ | refine G.gdff ?_ | refine G.gdtf ?_ | refine G.gdft ?_ | (refine G.jk ?_; intro _)))
      have hE := hE.mono hle5
      have ra := ra.mono hle5
      have rb := rb.mono hle5
      have rc := rc.mono hle5
      refine print_call c hE rc (by omega) ?_
      refine parse_call c hvc hE ?_
      intro h6 qc hle6 rqc
      have hE := hE.mono hle6
      have ra := ra.mono hle6
      have rb := rb.mono hle6
      have rc := rc.mono hle6
      have rqa := rqa.mono hle6
      (repeat (first | refine G.add (by omega) ?_ | refine G.sub (by omega) ?_ | refine G.mul (by omega) ?_ | refine G.neg (by omega) ?_ | refine G.quo (by omega) (by omega) ?_ | refine G.rem (by omega) ?_ | refine G.shr (by omega) ?_ | refine G.conv (by omega) ?_ | refine G.step ?_ | refine G.buildA (by rfl) ?_ | (refine Gs.box ?_; intro _) | (refine Gs.alloc ?_; intro _) | refine Gs.store ?_ | refine G.retc ?_ | refine Gs.dr ?_ | refine G.qadd (by omega) ?_ | refine G.qsub (by omega) ?_ | refine G.qmul (by omega) ?_ | refine G.qneg (by omega) ?_ | refine G.qkp ?_ | refine Gs.qkb ?_ | refine G.withT ?_ | refine Gs.withb ?_ | refine G.ift ?_ | refine G.iff ?_ | refine G.gdtt ?_ | refine G.gdff ?_ | refine G.gdtf ?_ | refine G.gdft ?_ | (refine G.jk ?_; intro _)| refine G.gdbn (by first | (simp; done)) ?_ | refine G.gdby (by first | (simp; done)) ?_ | refine G.gdyf (by first | (simp; done) | omega) ?_ | refine G.gdy (by first | (simp; done) | omega) ?_ | refine G.gdn (by first | (simp; done) | omega) ?_ | refine G.gdnf (by first | (simp; done) | omega) ?_ | refine G.ify (by first | (simp; done) | omega) ?_ | refine G.ifn (by first | (simp; done) | omega) ?_))
      refine same_call (lib l) (lib l) rqa ra (by omega) (by omega) ?_
      (repeat (first | refine G.add (by omega) ?_ | refine G.sub (by omega) ?_ | refine G.mul (by omega) ?_ | refine G.neg (by omega) ?_ | refine G.quo (by omega) (by omega) ?_ | refine G.rem (by omega) ?_ | refine G.shr (by omega) ?_ | refine G.conv (by omega) ?_ | refine G.step ?_ | refine G.buildA (by rfl) ?_ | (refine Gs.box ?_; intro _) | (refine Gs.alloc ?_; intro _) | refine Gs.store ?_ | refine G.retc ?_ | refine Gs.dr ?_ | refine G.qadd (by omega) ?_ | refine G.qsub (by omega) ?_ | refine G.qmul (by omega) ?_ | refine G.qneg (by omega) ?_ | refine G.qkp ?_ | refine Gs.qkb ?_ | refine G.withT ?_ | refine Gs.withb ?_ | refine G.ift ?_ | refine G.iff ?_ | refine G.gdtt ?_ | refine G.gdff ?_ | refine G.gdtf ?_ | refine G.gdft ?_ | (refine G.jk ?_; intro _)| refine G.gdbn (by first | (simp; done)) ?_ | refine G.gdby (by first | (simp; done)) ?_ | refine G.gdyf (by first | (simp; done) | omega) ?_ | refine G.gdy (by first | (simp; done) | omega) ?_ | refine G.gdn (by first | (simp; done) | omega) ?_ | refine G.gdnf (by first | (simp; done) | omega) ?_ | refine G.ify (by first | (simp; done) | omega) ?_ | refine G.ifn (by first | (simp; done) | omega) ?_))
      refine same_call c c rqc rc (by omega) (by omega) ?_
      (repeat (first | refine G.add (by omega) ?_ | refine G.sub (by omega) ?_ | refine G.mul (by omega) ?_ | refine G.neg (by omega) ?_ | refine G.quo (by omega) (by omega) ?_ | refine G.rem (by omega) ?_ | refine G.shr (by omega) ?_ | refine G.conv (by omega) ?_ | refine G.step ?_ | refine G.buildA (by rfl) ?_ | (refine Gs.box ?_; intro _) | (refine Gs.alloc ?_; intro _) | refine Gs.store ?_ | refine G.retc ?_ | refine Gs.dr ?_ | refine G.qadd (by omega) ?_ | refine G.qsub (by omega) ?_ | refine G.qmul (by omega) ?_ | refine G.qneg (by omega) ?_ | refine G.qkp ?_ | refine Gs.qkb ?_ | refine G.withT ?_ | refine Gs.withb ?_ | refine G.ift ?_ | refine G.iff ?_ | refine G.gdtt ?_ | refine G.gdff ?_ | refine G.gdtf ?_ | refine G.gdft ?_ | (refine G.jk ?_; intro _)| refine G.gdbn (by first | (simp; done)) ?_ | refine G.gdby (by first | (simp; done)) ?_ | refine G.gdyf (by first | (simp; done) | omega) ?_ | refine G.gdy (by first | (simp; done) | omega) ?_ | refine G.gdn (by first | (simp; done) | omega) ?_ | refine G.gdnf (by first | (simp; done) | omega) ?_ | refine G.ify (by first | (simp; done) | omega) ?_ | refine G.ifn (by first | (simp; done) | omega) ?_))
      refine print_call (lib l) hE ra (by omega) ?_
      refine print_call (lib m) hE rb (by omega) ?_
      (repeat (first | refine G.add (by omega) ?_ | refine G.sub (by omega) ?_ | refine G.mul (by omega) ?_ | refine G.neg (by omega) ?_ | refine G.quo (by omega) (by omega) ?_ | refine G.rem (by omega) ?_ | refine G.shr (by omega) ?_ | refine G.conv (by omega) ?_ | refine G.step ?_ | refine G.buildA (by rfl) ?_ | (refine Gs.box ?_; intro _) | (refine Gs.alloc ?_; intro _) | refine Gs.store ?_ | refine G.retc ?_ | refine Gs.dr ?_ | refine G.qadd (by omega) ?_ | refine G.qsub (by omega) ?_ | refine G.qmul (by omega) ?_ | refine G.qneg (by omega) ?_ | refine G.qkp ?_ | refine Gs.qkb ?_ | refine G.withT ?_ | refine Gs.withb ?_ | refine G.ift ?_ | refine G.iff ?_ | refine G.gdtt ?_ | refine G.gdff ?_ | refine G.gdtf ?_ | refine G.gdft ?_ | (refine G.jk ?_; intro _)))
      refine same_call (lib l) (lib m) ra rb (by omega) (by omega) ?_
      (repeat (first | refine G.add (by omega) ?_ | refine G.sub (by omega) ?_ | refine G.mul (by omega) ?_ | refine G.neg (by omega) ?_ | refine G.quo (by omega) (by omega) ?_ | refine G.rem (by omega) ?_ | refine G.shr (by omega) ?_ | refine G.conv (by omega) ?_ | refine G.step ?_ | refine G.buildA (by rfl) ?_ | (refine Gs.box ?_; intro _) | (refine Gs.alloc ?_; intro _) | refine Gs.store ?_ | refine G.retc ?_ | refine Gs.dr ?_ | refine G.qadd (by omega) ?_ | refine G.qsub (by omega) ?_ | refine G.qmul (by omega) ?_ | refine G.qneg (by omega) ?_ | refine G.qkp ?_ | refine Gs.qkb ?_ | refine G.withT ?_ | refine Gs.withb ?_ | refine G.ift ?_ | refine G.iff ?_ | refine G.gdtt ?_ | refine G.gdff ?_ | refine G.gdtf ?_ | refine G.gdft ?_ | (refine G.jk ?_; intro _)))
      have e1 : decide (printP (lib l) = printP (lib m)) = decide (lib l = lib m) := by
        rw [decide_eq_decide]
        exact ⟨print_inj hva hvb, fun h => by rw [h]⟩
      have e2 : decide (printP (lib l) = printP c) = decide (lib l = c) := by
        rw [decide_eq_decide]
        exact ⟨print_inj hva hvc, fun h => by rw [h]⟩
      refine G.gdy e1 ?_
      refine print_call (lib l) hE ra (by omega) ?_
      refine print_call c hE rc (by omega) ?_
      (repeat (first | refine G.add (by omega) ?_ | refine G.sub (by omega) ?_ | refine G.mul (by omega) ?_ | refine G.neg (by omega) ?_ | refine G.quo (by omega) (by omega) ?_ | refine G.rem (by omega) ?_ | refine G.shr (by omega) ?_ | refine G.conv (by omega) ?_ | refine G.step ?_ | refine G.buildA (by rfl) ?_ | (refine Gs.box ?_; intro _) | (refine Gs.alloc ?_; intro _) | refine Gs.store ?_ | refine G.retc ?_ | refine Gs.dr ?_ | refine G.qadd (by omega) ?_ | refine G.qsub (by omega) ?_ | refine G.qmul (by omega) ?_ | refine G.qneg (by omega) ?_ | refine G.qkp ?_ | refine Gs.qkb ?_ | refine G.withT ?_ | refine Gs.withb ?_ | refine G.ift ?_ | refine G.iff ?_ | refine G.gdtt ?_ | refine G.gdff ?_ | refine G.gdtf ?_ | refine G.gdft ?_ | (refine G.jk ?_; intro _)))
      refine same_call (lib l) c ra rc (by omega) (by omega) ?_
      (repeat (first | refine G.add (by omega) ?_ | refine G.sub (by omega) ?_ | refine G.mul (by omega) ?_ | refine G.neg (by omega) ?_ | refine G.quo (by omega) (by omega) ?_ | refine G.rem (by omega) ?_ | refine G.shr (by omega) ?_ | refine G.conv (by omega) ?_ | refine G.step ?_ | refine G.buildA (by rfl) ?_ | (refine Gs.box ?_; intro _) | (refine Gs.alloc ?_; intro _) | refine Gs.store ?_ | refine G.retc ?_ | refine Gs.dr ?_ | refine G.qadd (by omega) ?_ | refine G.qsub (by omega) ?_ | refine G.qmul (by omega) ?_ | refine G.qneg (by omega) ?_ | refine G.qkp ?_ | refine Gs.qkb ?_ | refine G.withT ?_ | refine Gs.withb ?_ | refine G.ift ?_ | refine G.iff ?_ | refine G.gdtt ?_ | refine G.gdff ?_ | refine G.gdtf ?_ | refine G.gdft ?_ | (refine G.jk ?_; intro _)))
      refine G.gdy e2 ?_
      exact Gs.ret rfl
    refine G.jn ?_
    refine rvalid_call c 8 6 4 rc (by omega) rfl ?_
    cases hv : validB c 8 6 4
    · (repeat (first | refine G.add (by omega) ?_ | refine G.sub (by omega) ?_ | refine G.mul (by omega) ?_ | refine G.neg (by omega) ?_ | refine G.quo (by omega) (by omega) ?_ | refine G.rem (by omega) ?_ | refine G.shr (by omega) ?_ | refine G.conv (by omega) ?_ | refine G.step ?_ | refine G.buildA (by rfl) ?_ | (refine Gs.box ?_; intro _) | (refine Gs.alloc ?_; intro _) | refine Gs.store ?_ | refine G.retc ?_ | refine Gs.dr ?_ | refine G.qadd (by omega) ?_ | refine G.qsub (by omega) ?_ | refine G.qmul (by omega) ?_ | refine G.qneg (by omega) ?_ | refine G.qkp ?_ | refine Gs.qkb ?_ | refine G.withT ?_ | refine Gs.withb ?_ | refine G.ift ?_ | refine G.iff ?_ | refine G.gdtt ?_ | refine G.gdff ?_ | refine G.gdtf ?_ | refine G.gdft ?_ | (refine G.jk ?_; intro _)))
      exact key (lib l) av ra hva (by omega)
    · (repeat (first | refine G.add (by omega) ?_ | refine G.sub (by omega) ?_ | refine G.mul (by omega) ?_ | refine G.neg (by omega) ?_ | refine G.quo (by omega) (by omega) ?_ | refine G.rem (by omega) ?_ | refine G.shr (by omega) ?_ | refine G.conv (by omega) ?_ | refine G.step ?_ | refine G.buildA (by rfl) ?_ | (refine Gs.box ?_; intro _) | (refine Gs.alloc ?_; intro _) | refine Gs.store ?_ | refine G.retc ?_ | refine Gs.dr ?_ | refine G.qadd (by omega) ?_ | refine G.qsub (by omega) ?_ | refine G.qmul (by omega) ?_ | refine G.qneg (by omega) ?_ | refine G.qkp ?_ | refine Gs.qkb ?_ | refine G.withT ?_ | refine Gs.withb ?_ | refine G.ift ?_ | refine G.iff ?_ | refine G.gdtt ?_ | refine G.gdff ?_ | refine G.gdtf ?_ | refine G.gdft ?_ | (refine G.jk ?_; intro _)))
      exact key c cv rc hv (by omega)
  refine G.gddt ?_ ?_ <;> intro h1
  · (repeat (first | refine G.add (by omega) ?_ | refine G.sub (by omega) ?_ | refine G.mul (by omega) ?_ | refine G.neg (by omega) ?_ | refine G.quo (by omega) (by omega) ?_ | refine G.rem (by omega) ?_ | refine G.shr (by omega) ?_ | refine G.conv (by omega) ?_ | refine G.step ?_ | refine G.buildA (by rfl) ?_ | (refine Gs.box ?_; intro _) | (refine Gs.alloc ?_; intro _) | refine Gs.store ?_ | refine G.retc ?_ | refine Gs.dr ?_ | refine G.qadd (by omega) ?_ | refine G.qsub (by omega) ?_ | refine G.qmul (by omega) ?_ | refine G.qneg (by omega) ?_ | refine G.qkp ?_ | refine Gs.qkb ?_ | refine G.withT ?_ | refine Gs.withb ?_ | refine G.ift ?_ | refine G.iff ?_ | refine G.gdtt ?_ | refine G.gdff ?_ | refine G.gdtf ?_ | refine G.gdft ?_ | (refine G.jk ?_; intro _)))
    refine G.ifd ?_ ?_ <;> intro h2
    · have hlt' : i < raw.length := by omega
      have h255 := hb _ (List.getElem_mem hlt')
      refine Gs.indexE hr hlt' ?_
      intro b1 o1 hp1
      (repeat (first | refine G.add (by omega) ?_ | refine G.sub (by omega) ?_ | refine G.mul (by omega) ?_ | refine G.neg (by omega) ?_ | refine G.quo (by omega) (by omega) ?_ | refine G.rem (by omega) ?_ | refine G.shr (by omega) ?_ | refine G.conv (by omega) ?_ | refine G.step ?_ | refine G.buildA (by rfl) ?_ | (refine Gs.box ?_; intro _) | (refine Gs.alloc ?_; intro _) | refine Gs.store ?_ | refine G.retc ?_ | refine Gs.dr ?_ | refine G.qadd (by omega) ?_ | refine G.qsub (by omega) ?_ | refine G.qmul (by omega) ?_ | refine G.qneg (by omega) ?_ | refine G.qkp ?_ | refine Gs.qkb ?_ | refine G.withT ?_ | refine Gs.withb ?_ | refine G.ift ?_ | refine G.iff ?_ | refine G.gdtt ?_ | refine G.gdff ?_ | refine G.gdtf ?_ | refine G.gdft ?_ | (refine G.jk ?_; intro _)))
      refine Gs.loadP1 hp1 ?_
      (repeat (first | refine G.add (by omega) ?_ | refine G.sub (by omega) ?_ | refine G.mul (by omega) ?_ | refine G.neg (by omega) ?_ | refine G.quo (by omega) (by omega) ?_ | refine G.rem (by omega) ?_ | refine G.shr (by omega) ?_ | refine G.conv (by omega) ?_ | refine G.step ?_ | refine G.buildA (by rfl) ?_ | (refine Gs.box ?_; intro _) | (refine Gs.alloc ?_; intro _) | refine Gs.store ?_ | refine G.retc ?_ | refine Gs.dr ?_ | refine G.qadd (by omega) ?_ | refine G.qsub (by omega) ?_ | refine G.qmul (by omega) ?_ | refine G.qneg (by omega) ?_ | refine G.qkp ?_ | refine Gs.qkb ?_ | refine G.withT ?_ | refine Gs.withb ?_ | refine G.ift ?_ | refine G.iff ?_ | refine G.gdtt ?_ | refine G.gdff ?_ | refine G.gdtf ?_ | refine G.gdft ?_ | (refine G.jk ?_; intro _)))
      refine Gs.lenE rs (by rw [steps_len]; decide) ?_
      rw [steps_len]
      refine G.rem (by decide) ?_
      rw [Int.tmod_eq_emod_of_nonneg h255.1]
      obtain ⟨n, hn⟩ := Int.eq_ofNat_of_zero_le (show 0 ≤ raw[i].1 % 42 by omega)
      have hn' : raw[i].1 % ((42 : Nat) : Int) = n := hn
      rw [hn']
      have hnl : n < stepsL.length := by rw [steps_len]; omega
      refine Gs.indexE rs hnl ?_
      intro b2 o2 hp2
      refine Gs.loadPN hp2 rfl ?_
      refine Gs.buildSlice (by decide) ?_
      intro b3
      refine Gs.appendO (enc := encP) (l := c) (m := [stepsL[n]]) (x := .slice (some ⟨b3, 0, none⟩) 1 1) (e2 := 41) (by simp [fl]) (by simp; omega) (by simp; omega) ?_
      intro v'
      (repeat (first | refine G.add (by omega) ?_ | refine G.sub (by omega) ?_ | refine G.mul (by omega) ?_ | refine G.neg (by omega) ?_ | refine G.quo (by omega) (by omega) ?_ | refine G.rem (by omega) ?_ | refine G.shr (by omega) ?_ | refine G.conv (by omega) ?_ | refine G.step ?_ | refine G.buildA (by rfl) ?_ | (refine Gs.box ?_; intro _) | (refine Gs.alloc ?_; intro _) | refine Gs.store ?_ | refine G.retc ?_ | refine Gs.dr ?_ | refine G.qadd (by omega) ?_ | refine G.qsub (by omega) ?_ | refine G.qmul (by omega) ?_ | refine G.qneg (by omega) ?_ | refine G.qkp ?_ | refine Gs.qkb ?_ | refine G.withT ?_ | refine Gs.withb ?_ | refine G.ift ?_ | refine G.iff ?_ | refine G.gdtt ?_ | refine G.gdff ?_ | refine G.gdtf ?_ | refine G.gdft ?_ | (refine G.jk ?_; intro _)))
      exact Gs.goS (hc (i + 1, c ++ [stepsL[n]], v') ⟨by dsimp only; omega, by dsimp only; omega, by dsimp only; rw [List.length_append, hcl]; rfl⟩ (by dsimp only; omega)) rfl
    · exact fin
  · (repeat (first | refine G.add (by omega) ?_ | refine G.sub (by omega) ?_ | refine G.mul (by omega) ?_ | refine G.neg (by omega) ?_ | refine G.quo (by omega) (by omega) ?_ | refine G.rem (by omega) ?_ | refine G.shr (by omega) ?_ | refine G.conv (by omega) ?_ | refine G.step ?_ | refine G.buildA (by rfl) ?_ | (refine Gs.box ?_; intro _) | (refine Gs.alloc ?_; intro _) | refine Gs.store ?_ | refine G.retc ?_ | refine Gs.dr ?_ | refine G.qadd (by omega) ?_ | refine G.qsub (by omega) ?_ | refine G.qmul (by omega) ?_ | refine G.qneg (by omega) ?_ | refine G.qkp ?_ | refine Gs.qkb ?_ | refine G.withT ?_ | refine Gs.withb ?_ | refine G.ift ?_ | refine G.iff ?_ | refine G.gdtt ?_ | refine G.gdff ?_ | refine G.gdtf ?_ | refine G.gdft ?_ | (refine G.jk ?_; intro _)))
    exact fin
end Go.Proofs.YtlljhipmnkdpeaaGreatDoor
