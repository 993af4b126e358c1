/- A part of the proof: a calculus of our own over the model's code, and contracts of the program's functions. -/
import Derived.Test.YthiflnpbamlinaaG1
import Derived.Test.YthiflnpbamlinaaG13
import Derived.Test.YthiflnpbamlinaaG14
/- impl.rulesFine, spec.l2Suffix, spec.l3Bad, spec.l3Must. -/
set_option linter.unusedSimpArgs false
set_option linter.unusedVariables false
namespace Cal
open Go Go.Proofs
set_option maxRecDepth 100000
/-- The code of impl.rulesFine. -/
def k97 : Code1 :=
 (.seq
 (.region [] false ([]) [
 ⟨some 2,Op.assign (Operand.const (Value.bool false)),none⟩])
 (.seq
 (.seq
 (.region [] false ([]) [
 ⟨some 7,Op.move (Operand.tmp 0),none⟩,
 ⟨some 8,Op.call {callee:=Callee.builtin Builtin.len,args:=#[Operand.tmp 7],argTypes:=#[65]},none⟩,
 ⟨some 9,Op.binOp BinOp.gtr 3 (Operand.tmp 8) (Operand.const (Value.int IntKind.i64 1000)) 3,none⟩])
 (.cond (Operand.tmp 9)
 (.seq
 (.region [] false ([]) [
 ⟨some 2,Op.assign (Operand.const (Value.bool false)),none⟩])
 .ret)
 .skip))
 (.seq
 (.seq
 (.region [] false ([]) [
 ⟨some 10,Op.move (Operand.tmp 0),none⟩,
 ⟨some 11,Op.call {callee:=Callee.builtin Builtin.len,args:=#[Operand.tmp 10],argTypes:=#[65]},none⟩,
 ⟨some 12,Op.move (Operand.const (Value.int IntKind.i64 0)),none⟩])
 (.block 0
 (.loop
 (.seq
 (.region [] false ([]) [
 ⟨some 13,Op.binOp BinOp.lss 3 (Operand.tmp 12) (Operand.tmp 11) 3,none⟩])
 (.seq
 (.cond (Operand.tmp 13)
 .skip
 (.exit 0))
 (.seq
 (.block 1
 (.seq
 (.region [4] false ([]) [
 ⟨some 14,Op.indexAddr 65 (Operand.tmp 10) (Operand.tmp 12),none⟩,
 ⟨some 15,Op.load 98 (Operand.tmp 14),none⟩,
 ⟨some 4,Op.alloc 98,none⟩,
 ⟨none,Op.store 98 (Operand.tmp 4) (Operand.tmp 15),none⟩])
 (.seq
 (.seq
 (.region [] false ([]) [
 ⟨some 16,Op.fieldAddr 98 (Operand.tmp 4) 2,none⟩,
 ⟨some 17,Op.load 22 (Operand.tmp 16),none⟩,
 ⟨some 18,Op.call {callee:=Callee.builtin Builtin.len,args:=#[Operand.tmp 17],argTypes:=#[22]},none⟩,
 ⟨some 19,Op.binOp BinOp.lss 3 (Operand.tmp 18) (Operand.const (Value.int IntKind.i64 2)) 3,none⟩,
 ⟨some 20,Op.move (Operand.tmp 19),none⟩,
 ⟨some 21,Op.fieldAddr 98 (Operand.tmp 4) 2,some (20,false)⟩,
 ⟨some 22,Op.load 22 (Operand.tmp 21),some (20,false)⟩,
 ⟨some 23,Op.call {callee:=Callee.builtin Builtin.len,args:=#[Operand.tmp 22],argTypes:=#[22]},some (20,false)⟩,
 ⟨some 24,Op.binOp BinOp.gtr 3 (Operand.tmp 23) (Operand.const (Value.int IntKind.i64 402)) 3,some (20,false)⟩,
 ⟨some 25,Op.pick (Operand.tmp 20) (Operand.const (Value.bool true)) (Operand.tmp 24),none⟩])
 (.cond (Operand.tmp 25)
 (.seq
 (.region [] false ([]) [
 ⟨some 2,Op.assign (Operand.const (Value.bool false)),none⟩])
 .ret)
 .skip))
 (.seq
 (.region [] false ([]) [
 ⟨some 26,Op.fieldAddr 98 (Operand.tmp 4) 2,none⟩,
 ⟨some 27,Op.load 22 (Operand.tmp 26),none⟩,
 ⟨some 28,Op.call {callee:=Callee.builtin Builtin.len,args:=#[Operand.tmp 27],argTypes:=#[22]},none⟩,
 ⟨some 29,Op.move (Operand.const (Value.int IntKind.i64 0)),none⟩])
 (.block 2
 (.loop
 (.seq
 (.region [] false ([]) [
 ⟨some 30,Op.binOp BinOp.lss 3 (Operand.tmp 29) (Operand.tmp 28) 3,none⟩])
 (.seq
 (.cond (Operand.tmp 30)
 .skip
 (.exit 2))
 (.seq
 (.block 3
 (.seq
 (.region [] false ([]) [
 ⟨some 31,Op.indexAddr 22 (Operand.tmp 27) (Operand.tmp 29),none⟩,
 ⟨some 32,Op.load 2 (Operand.tmp 31),none⟩,
 ⟨some 6,Op.assign (Operand.tmp 32),none⟩])
 (.seq
 (.region [] false ([]) [
 ⟨some 33,Op.move (Operand.tmp 6),none⟩,
 ⟨some 34,Op.binOp BinOp.lss 2 (Operand.tmp 33) (Operand.const (Value.int IntKind.i64 0)) 2,none⟩,
 ⟨some 35,Op.move (Operand.tmp 34),none⟩,
 ⟨some 36,Op.move (Operand.tmp 6),some (35,false)⟩,
 ⟨some 37,Op.binOp BinOp.geq 2 (Operand.tmp 36) (Operand.const (Value.int IntKind.i64 4000)) 2,some (35,false)⟩,
 ⟨some 38,Op.pick (Operand.tmp 35) (Operand.const (Value.bool true)) (Operand.tmp 37),none⟩])
 (.cond (Operand.tmp 38)
 (.seq
 (.region [] false ([]) [
 ⟨some 2,Op.assign (Operand.const (Value.bool false)),none⟩])
 .ret)
 .skip))))
 (.region [] false ([]) [
 ⟨some 39,Op.binOp BinOp.add 3 (Operand.tmp 29) (Operand.const (Value.int IntKind.i64 1)) 3,none⟩,
 ⟨some 29,Op.move (Operand.tmp 39),none⟩]))))))))))
 (.region [] false ([]) [
 ⟨some 40,Op.binOp BinOp.add 3 (Operand.tmp 12) (Operand.const (Value.int IntKind.i64 1)) 3,none⟩,
 ⟨some 12,Op.move (Operand.tmp 40),none⟩])))))))
 (.seq
 (.region [] false ([]) [
 ⟨some 2,Op.assign (Operand.const (Value.bool true)),none⟩])
 .ret))))
set_option maxHeartbeats 0 in
theorem fine_c {rs : List Ru} (hW : Rus rs) : CallsF Try.prog 97 [.val (recs encRu rs)] (.t (.v (.bool (decide (RGood rs))))) [] := by
  have l1 := hW.len
  refine callsF_of_wp2 (fn := Try.f97) (k := k97) (fun _ => []) mixed (by kernel_rfl) rfl (by kernel_rfl) (by kernel_rfl) (by kernel_rfl) rfl (by simp [Try.f97]) (by simp [Arg.like]) ?_
  generalize hst : St.enter [.val (recs encRu rs)] = st0
  have t0 : st0.tm 0 = .t (recs encRu rs) := by rw [← hst]; rfl
  clear hst
  unfold k97
  by_cases hl : 1000 < rs.length
  · have hg : ¬ RGood rs := fun h => by have := h.1; omega
    repeat' (first
     | refine wp2_seq fun K hK => ?_
     | refine M_cons fun K hK => ?_
     | (refine hK _ ?_; clear hK K)
     | (refine hX _ ?_; clear hX hY X Y)
     | (refine hY _ ?_; clear hX hY X Y)
     | refine wp2_block ?_
     | refine wp2_region ?_
     | refine wp2_cond fun X Y hX hY => ?_
     | (refine condK_of (fun c => ?_) (fun c => ?_) <;> (try simp [-List.length_eq_zero_iff] at c))
     | simp (maxSteps := 4000000) (disch := omega) [t0, hl, hg])
    all_goals try (simp [t0, hl, hg, Back]; done)
    all_goals first | omega | simp [Back, hg]
  · repeat' (first
   | refine wp2_seq fun K hK => ?_
   | refine M_cons fun K hK => ?_
   | (refine hK _ ?_; clear hK K)
   | (refine hX _ ?_; clear hX hY X Y)
   | (refine hY _ ?_; clear hX hY X Y)
   | refine wp2_block ?_
   | refine wp2_region ?_
   | refine wp2_cond fun X Y hX hY => ?_
   | (refine condK_of (fun c => ?_) (fun c => ?_) <;> (try simp [-List.length_eq_zero_iff] at c))
   | simp (maxSteps := 4000000) (disch := omega) [t0, hl])
    all_goals first | omega | skip
    have hJ : RGood rs → ∀ s, K s := by
      intro hg s
      repeat' (first
       | refine wp2_seq fun K hK => ?_
       | refine M_cons fun K hK => ?_
       | (refine hK _ ?_; clear hK K)
       | refine wp2_region ?_
       | simp (maxSteps := 4000000) (disch := omega) [hg])
      all_goals try (simp [hg, Back]; done)
    clear hK
    refine wp2_loop (fun n s => ∃ k : Nat, s.tm 10 = .t (recs encRu rs) ∧ s.tm 11 = .t (.v (.int .i64 rs.length)) ∧ s.tm 12 = .t (.v (.int .i64 k)) ∧ k ≤ rs.length ∧ n = rs.length - k ∧ ∀ i < k, RFine (nth rs i)) rs.length ?_ ?_
    · exact ⟨0, by simp, by simp, by simp, by omega, rfl, fun i hi => by omega⟩
    · rintro n s ⟨k, s10, s11, s12, hk, rfl, hq⟩ K' hK'
      by_cases hlt : k < rs.length
      · have hb := hW.each k hlt
        have out : ¬ RFine (nth rs k) → ¬ RGood rs := fun h hg => h (hg.2 k hlt)
        generalize hw : nth rs (k : Int) = r at *
        by_cases h2 : (r.seq.length : Int) < 2
        · have hg := out (fun h => by have := h.1; omega)
          repeat' (first
           | refine wp2_seq fun K hK => ?_
           | refine M_cons fun K hK => ?_
           | (refine hK _ ?_; clear hK K)
           | (refine hX _ ?_; clear hX hY X Y)
           | refine wp2_block ?_
           | refine wp2_region ?_
           | refine wp2_cond fun X Y hX hY => ?_
           | (refine condK_of (fun c => ?_) (fun c => ?_) <;> (try simp [-List.length_eq_zero_iff] at c))
           | simp (maxSteps := 4000000) (disch := omega) [s10, s11, s12, hlt, hw, encRu, h2, hg])
          all_goals try (simp [s10, s11, s12, hlt, hw, encRu, h2, hg, Back]; done)
          all_goals first | omega | simp [Back, hg]
        · by_cases h4 : 402 < (r.seq.length : Int)
          · have hg := out (fun h => by have := h.2.1; omega)
            repeat' (first
             | refine wp2_seq fun K hK => ?_
             | refine M_cons fun K hK => ?_
             | (refine hK _ ?_; clear hK K)
             | (refine hX _ ?_; clear hX hY X Y)
             | refine wp2_block ?_
             | refine wp2_region ?_
             | refine wp2_cond fun X Y hX hY => ?_
             | (refine condK_of (fun c => ?_) (fun c => ?_) <;> (try simp [-List.length_eq_zero_iff] at c))
             | simp (maxSteps := 4000000) (disch := omega) [s10, s11, s12, hlt, hw, encRu, h2, h4, hg])
            all_goals try (simp [s10, s11, s12, hlt, hw, encRu, h2, h4, hg, Back]; done)
            all_goals first | omega | simp [Back, hg]
          · repeat' (first
           | refine wp2_seq fun K hK => ?_
           | refine M_cons fun K hK => ?_
           | (refine hK _ ?_; clear hK K)
           | (refine hX _ ?_; clear hX hY X Y)
           | (refine hY _ ?_; clear hX hY X Y)
           | refine wp2_block ?_
           | refine wp2_region ?_
           | refine wp2_cond fun X Y hX hY => ?_
           | (refine condK_of (fun c => ?_) (fun c => ?_) <;> (try simp [-List.length_eq_zero_iff] at c))
           | simp (maxSteps := 4000000) (disch := omega) [s10, s11, s12, hlt, hw, encRu, h2, h4])
            all_goals first | omega | skip
            have hJ2 : RFine r → ∀ s, s.tm 10 = .t (recs encRu rs) → s.tm 11 = .t (.v (.int .i64 rs.length)) → s.tm 12 = .t (.v (.int .i64 k)) → K s := by
              intro hf s s10 s11 s12
              repeat' (first
               | refine M_cons fun K hK => ?_
               | (refine hK _ ?_; clear hK K)
               | refine wp2_region ?_
               | simp (maxSteps := 4000000) (disch := omega) [s10, s11, s12])
              refine hK' (rs.length - (k + 1)) _ (by omega) ⟨k + 1, by simp [s10], by simp [s11], by simp, by omega, rfl, below_succ hq (by rw [hw]; exact hf)⟩
            clear hK
            refine wp2_loop (fun n s => ∃ j : Nat, s.tm 10 = .t (recs encRu rs) ∧ s.tm 11 = .t (.v (.int .i64 rs.length)) ∧ s.tm 12 = .t (.v (.int .i64 k)) ∧ s.tm 27 = .t (ints r.seq) ∧ s.tm 28 = .t (.v (.int .i64 r.seq.length)) ∧ s.tm 29 = .t (.v (.int .i64 j)) ∧ j ≤ r.seq.length ∧ n = r.seq.length - j ∧ ∀ i < j, 0 ≤ rd r.seq i ∧ rd r.seq i < 4000) r.seq.length ?_ ?_
            · exact ⟨0, by simp [s10], by simp [s11], by simp [s12], by simp, by simp, by simp, by omega, rfl, fun i hi => by omega⟩
            · rintro n s ⟨j, s10, s11, s12, s27, s28, s29, hj, rfl, hq2⟩ K2 hK2
              by_cases hjl : j < r.seq.length
              · by_cases e1 : rd r.seq j < 0
                · have hg := out (fun h => by have := (h.2.2 j hjl).1; omega)
                  repeat' (first
                   | refine wp2_seq fun K hK => ?_
                   | refine M_cons fun K hK => ?_
                   | (refine hK _ ?_; clear hK K)
                   | (refine hX _ ?_; clear hX hY X Y)
                   | refine wp2_block ?_
                   | refine wp2_region ?_
                   | refine wp2_cond fun X Y hX hY => ?_
                   | (refine condK_of (fun c => ?_) (fun c => ?_) <;> (try simp [-List.length_eq_zero_iff] at c))
                   | simp (maxSteps := 4000000) (disch := omega) [s10, s11, s12, s27, s28, s29, hjl, e1, hg])
                  all_goals try (simp [s10, s11, s12, s27, s28, s29, hjl, e1, hg, Back]; done)
                  all_goals first | omega | simp [Back, hg]
                · by_cases e2 : 4000 ≤ rd r.seq j
                  · have hg := out (fun h => by have := (h.2.2 j hjl).2; omega)
                    repeat' (first
                     | refine wp2_seq fun K hK => ?_
                     | refine M_cons fun K hK => ?_
                     | (refine hK _ ?_; clear hK K)
                     | (refine hX _ ?_; clear hX hY X Y)
                     | refine wp2_block ?_
                     | refine wp2_region ?_
                     | refine wp2_cond fun X Y hX hY => ?_
                     | (refine condK_of (fun c => ?_) (fun c => ?_) <;> (try simp [-List.length_eq_zero_iff] at c))
                     | simp (maxSteps := 4000000) (disch := omega) [s10, s11, s12, s27, s28, s29, hjl, e1, e2, hg])
                    all_goals try (simp [s10, s11, s12, s27, s28, s29, hjl, e1, e2, hg, Back]; done)
                    all_goals first | omega | simp [Back, hg]
                  · repeat' (first
                   | refine wp2_seq fun K hK => ?_
                   | refine M_cons fun K hK => ?_
                   | (refine hK _ ?_; clear hK K)
                   | (refine hX _ ?_; clear hX hY X Y)
                   | (refine hY _ ?_; clear hX hY X Y)
                   | refine wp2_block ?_
                   | refine wp2_region ?_
                   | refine wp2_cond fun X Y hX hY => ?_
                   | (refine condK_of (fun c => ?_) (fun c => ?_) <;> (try simp [-List.length_eq_zero_iff] at c))
                   | simp (maxSteps := 4000000) (disch := omega) [s10, s11, s12, s27, s28, s29, hjl, e1, e2])
                    all_goals first | omega | skip
                    exact hK2 (r.seq.length - (j + 1)) _ (by omega) ⟨j + 1, by simp [s10], by simp [s11], by simp [s12], by simp [s27], by simp [s28], by simp, by omega, rfl, below_succ (p := fun i : Nat => 0 ≤ rd r.seq i ∧ rd r.seq i < 4000) hq2 ⟨by omega, by omega⟩⟩
              · obtain rfl : j = r.seq.length := by omega
                repeat' (first
                 | refine wp2_seq fun K hK => ?_
                 | refine M_cons fun K hK => ?_
                 | (refine hK _ ?_; clear hK K)
                 | (refine hY _ ?_; clear hX hY X Y)
                 | refine wp2_region ?_
                 | refine wp2_cond fun X Y hX hY => ?_
                 | (refine condK_of (fun c => ?_) (fun c => ?_) <;> (try simp [-List.length_eq_zero_iff] at c))
                 | simp (maxSteps := 4000000) (disch := omega) [s10, s11, s12, s27, s28, s29])
                all_goals first | omega | skip
                exact hJ2 ⟨by omega, by omega, fun i hi => hq2 i hi⟩ _ (by simp [s10]) (by simp [s11]) (by simp [s12])
      · obtain rfl : k = rs.length := by omega
        repeat' (first
         | refine wp2_seq fun K hK => ?_
         | refine M_cons fun K hK => ?_
         | (refine hK _ ?_; clear hK K)
         | (refine hY _ ?_; clear hX hY X Y)
         | refine wp2_region ?_
         | refine wp2_cond fun X Y hX hY => ?_
         | (refine condK_of (fun c => ?_) (fun c => ?_) <;> (try simp [-List.length_eq_zero_iff] at c))
         | simp (maxSteps := 4000000) (disch := omega) [s10, s11, s12])
        all_goals first | omega | skip
        exact hJ ⟨by omega, hq⟩ _
/-- b ends a's first n elements. -/
def sufB (a : List Int) (b : List Int) : Bool := decide (b <:+ a)
theorem suf_iff {a b : List Int} (h : b.length ≤ a.length) : b <:+ a ↔ ∀ i : Nat, i < b.length → rd a (a.length - b.length + i : Nat) = rd b i := by
  have e : ∀ (l : List Int) (i : Nat), rd l i = l.getD i 0 := fun l i => by unfold rd; rw [Int.toNat_natCast]
  constructor
  · rintro ⟨t, rfl⟩ i hi
    rw [e, e, List.length_append]
    simp only [Nat.add_sub_cancel, List.getD_eq_getElem?_getD]
    rw [List.getElem?_append_right (by omega)]
    congr 2
    omega
  · intro hq
    refine ⟨a.take (a.length - b.length), ?_⟩
    have : a.drop (a.length - b.length) = b := by
      refine List.ext_getElem (by simp; omega) fun i h1 h2 => ?_
      have := hq i h2
      rw [e, e, List.getD_eq_getElem?_getD, List.getD_eq_getElem?_getD, List.getElem?_eq_getElem (by omega), List.getElem?_eq_getElem h2] at this
      simpa using this
    conv => lhs; rhs; rw [← this]
    exact List.take_append_drop _ _
/-- The code of spec.l2Suffix. -/
def k153 : Code1 :=
 (.seq
 (.region [] false ([]) [
 ⟨some 6,Op.assign (Operand.const (Value.bool false)),none⟩])
 (.seq
 (.seq
 (.region [] false ([]) [
 ⟨some 8,Op.move (Operand.tmp 2),none⟩,
 ⟨some 9,Op.call {callee:=Callee.builtin Builtin.len,args:=#[Operand.tmp 8],argTypes:=#[22]},none⟩,
 ⟨some 10,Op.move (Operand.tmp 1),none⟩,
 ⟨some 11,Op.binOp BinOp.gtr 3 (Operand.tmp 9) (Operand.tmp 10) 3,none⟩])
 (.cond (Operand.tmp 11)
 (.seq
 (.region [] false ([]) [
 ⟨some 6,Op.assign (Operand.const (Value.bool false)),none⟩])
 .ret)
 .skip))
 (.seq
 (.seq
 (.region [] false ([]) [
 ⟨some 7,Op.assign (Operand.const (Value.int IntKind.i64 0)),none⟩])
 (.block 0
 (.loop
 (.seq
 (.seq
 (.region [] false ([]) [
 ⟨some 12,Op.move (Operand.tmp 7),none⟩,
 ⟨some 13,Op.move (Operand.tmp 2),none⟩,
 ⟨some 14,Op.call {callee:=Callee.builtin Builtin.len,args:=#[Operand.tmp 13],argTypes:=#[22]},none⟩,
 ⟨some 15,Op.binOp BinOp.lss 3 (Operand.tmp 12) (Operand.tmp 14) 3,none⟩])
 (.cond (Operand.tmp 15)
 .skip
 (.exit 0)))
 (.seq
 (.block 1
 (.seq
 (.region [] true ([]) [
 ⟨some 18,Op.move (Operand.tmp 0),none⟩,
 ⟨some 19,Op.move (Operand.tmp 1),none⟩,
 ⟨some 20,Op.move (Operand.tmp 2),none⟩,
 ⟨some 21,Op.call {callee:=Callee.builtin Builtin.len,args:=#[Operand.tmp 20],argTypes:=#[22]},none⟩,
 ⟨some 22,Op.binOp BinOp.sub 3 (Operand.tmp 19) (Operand.tmp 21) 3,none⟩,
 ⟨some 23,Op.move (Operand.tmp 7),none⟩,
 ⟨some 24,Op.binOp BinOp.add 3 (Operand.tmp 22) (Operand.tmp 23) 3,none⟩,
 ⟨some 25,Op.indexAddr 22 (Operand.tmp 18) (Operand.tmp 24),none⟩,
 ⟨some 26,Op.load 2 (Operand.tmp 25),none⟩,
 ⟨some 27,Op.move (Operand.tmp 2),none⟩,
 ⟨some 28,Op.move (Operand.tmp 7),none⟩,
 ⟨some 29,Op.indexAddr 22 (Operand.tmp 27) (Operand.tmp 28),none⟩,
 ⟨some 30,Op.load 2 (Operand.tmp 29),none⟩,
 ⟨some 31,Op.binOp BinOp.neq 2 (Operand.tmp 26) (Operand.tmp 30) 2,none⟩])
 (.cond (Operand.tmp 31)
 (.seq
 (.region [] false ([]) [
 ⟨some 6,Op.assign (Operand.const (Value.bool false)),none⟩])
 .ret)
 .skip)))
 (.region [] false ([]) [
 ⟨some 16,Op.move (Operand.tmp 7),none⟩,
 ⟨some 17,Op.binOp BinOp.add 3 (Operand.tmp 16) (Operand.const (Value.int IntKind.i64 1)) 3,none⟩,
 ⟨some 7,Op.assign (Operand.tmp 17),none⟩]))))))
 (.seq
 (.region [] false ([]) [
 ⟨some 6,Op.assign (Operand.const (Value.bool true)),none⟩])
 .ret))))
set_option maxHeartbeats 0 in
theorem suffix_c (a b : List Int) (ha : a.length ≤ 1048576) (hb : b.length ≤ 1048576) : CallsF Try.prog 153 [.val (ints a), .val (.v (.int .i64 a.length)), .val (ints b)] (.t (.v (.bool (sufB a b)))) [] := by
  refine callsF_of_wp2 (fn := Try.f153) (k := k153) (fun _ => []) mixed (by kernel_rfl) rfl (by kernel_rfl) (by kernel_rfl) (by kernel_rfl) rfl (by simp [Try.f153]) (by simp [Arg.like]) ?_
  generalize hst : St.enter [.val (ints a), .val (.v (.int .i64 a.length)), .val (ints b)] = st0
  have t0 : st0.tm 0 = .t (ints a) := by rw [← hst]; rfl
  have t1 : st0.tm 1 = .t (.v (.int .i64 a.length)) := by rw [← hst]; rfl
  have t2 : st0.tm 2 = .t (ints b) := by rw [← hst]; rfl
  clear hst
  unfold k153
  by_cases hl : (a.length : Int) < b.length
  · have hn : sufB a b = false := by
      unfold sufB
      simp
      intro h
      have := h.length_le
      omega
    repeat' (first
     | refine wp2_seq fun K hK => ?_
     | refine M_cons fun K hK => ?_
     | (refine hK _ ?_; clear hK K)
     | (refine hX _ ?_; clear hX hY X Y)
     | refine wp2_region ?_
     | refine wp2_cond fun X Y hX hY => ?_
     | (refine condK_of (fun c => ?_) (fun c => ?_) <;> (try simp [-List.length_eq_zero_iff] at c))
     | simp (maxSteps := 4000000) (disch := omega) [t0, t1, t2, hl, hn])
    all_goals try (simp [t0, t1, t2, hl, hn, Back]; done)
    all_goals first | omega | simp [Back, hn]
  · repeat' (first
   | refine wp2_seq fun K hK => ?_
   | refine M_cons fun K hK => ?_
   | (refine hK _ ?_; clear hK K)
   | (refine hY _ ?_; clear hX hY X Y)
   | refine wp2_block ?_
   | refine wp2_region ?_
   | refine wp2_cond fun X Y hX hY => ?_
   | (refine condK_of (fun c => ?_) (fun c => ?_) <;> (try simp [-List.length_eq_zero_iff] at c))
   | simp (maxSteps := 4000000) (disch := omega) [t0, t1, t2, hl])
    all_goals first | omega | skip
    have hJ : sufB a b = true → ∀ s, K s := by
      intro hg s
      repeat' (first
       | refine wp2_seq fun K hK => ?_
       | refine M_cons fun K hK => ?_
       | (refine hK _ ?_; clear hK K)
       | refine wp2_region ?_
       | simp (maxSteps := 4000000) (disch := omega) [hg])
      all_goals try (simp [hg, Back]; done)
    clear hK
    refine wp2_loop (fun n s => ∃ k : Nat, s.tm 0 = .t (ints a) ∧ s.tm 1 = .t (.v (.int .i64 a.length)) ∧ s.tm 2 = .t (ints b) ∧ s.tm 7 = .t (.v (.int .i64 k)) ∧ k ≤ b.length ∧ n = b.length - k ∧ ∀ i < k, rd a (a.length - b.length + i : Nat) = rd b i) b.length ?_ ?_
    · exact ⟨0, by simp [t0], by simp [t1], by simp [t2], by simp, by omega, rfl, fun i hi => by omega⟩
    · rintro n s ⟨k, s0, s1, s2, s7, hk, rfl, hq⟩ K' hK'
      by_cases hlt : k < b.length
      · have ei : (a.length : Int) - b.length + k = ((a.length - b.length + k : Nat) : Int) := by omega
        have hpl : a.length - b.length + k < a.length := by omega
        by_cases hc : rd a (a.length - b.length + k : Nat) = rd b k
        · have nx := below_succ (p := fun i : Nat => rd a ((a.length - b.length + i : Nat) : Int) = rd b (i : Int)) hq hc
          generalize a.length - b.length + k = p at ei hc hpl
          have hc' : (rd a (p : Int) != rd b (k : Int)) = false := by simpa using hc
          repeat' (first
           | refine wp2_seq fun K hK => ?_
           | refine M_cons fun K hK => ?_
           | (refine hK _ ?_; clear hK K)
           | (refine hX _ ?_; clear hX hY X Y)
           | (refine hY _ ?_; clear hX hY X Y)
           | refine wp2_block ?_
           | refine wp2_region ?_
           | refine wp2_cond fun X Y hX hY => ?_
           | (refine condK_of (fun c => ?_) (fun c => ?_) <;> (try simp [-List.length_eq_zero_iff] at c))
           | simp (maxSteps := 4000000) (disch := omega) [s0, s1, s2, s7, hlt, ei, hpl, hc'])
          all_goals first | omega | skip
          exact hK' (b.length - (k + 1)) _ (by omega) ⟨k + 1, by simp [s0], by simp [s1], by simp [s2], by simp, by omega, rfl, nx⟩
        · have hn : sufB a b = false := by
            unfold sufB
            rw [decide_eq_false_iff_not, suf_iff (by omega)]
            exact fun h => hc (h k hlt)
          generalize a.length - b.length + k = p at ei hc hpl
          have hc' : (rd a (p : Int) != rd b (k : Int)) = true := by simpa using hc
          repeat' (first
           | refine wp2_seq fun K hK => ?_
           | refine M_cons fun K hK => ?_
           | (refine hK _ ?_; clear hK K)
           | (refine hX _ ?_; clear hX hY X Y)
           | refine wp2_block ?_
           | refine wp2_region ?_
           | refine wp2_cond fun X Y hX hY => ?_
           | (refine condK_of (fun c => ?_) (fun c => ?_) <;> (try simp [-List.length_eq_zero_iff] at c))
           | simp (maxSteps := 4000000) (disch := omega) [s0, s1, s2, s7, hlt, ei, hpl, hc', hn])
          all_goals try (simp [s0, s1, s2, s7, hlt, ei, hpl, hc', hn, Back]; done)
          all_goals first | omega | simp [Back, hn]
      · obtain rfl : k = b.length := by omega
        repeat' (first
         | refine wp2_seq fun K hK => ?_
         | refine M_cons fun K hK => ?_
         | (refine hK _ ?_; clear hK K)
         | (refine hY _ ?_; clear hX hY X Y)
         | refine wp2_region ?_
         | refine wp2_cond fun X Y hX hY => ?_
         | (refine condK_of (fun c => ?_) (fun c => ?_) <;> (try simp [-List.length_eq_zero_iff] at c))
         | simp (maxSteps := 4000000) (disch := omega) [s0, s1, s2, s7])
        all_goals first | omega | skip
        exact hJ (by unfold sufB; rw [decide_eq_true_eq, suf_iff (by omega)]; exact hq) _
end Cal

/- spec.l3Bad, spec.l3Must. -/
set_option linter.unusedSimpArgs false
set_option linter.unusedVariables false
namespace Cal
open Go Go.Proofs
set_option maxRecDepth 100000
theorem take_nthR {l : List Ru} {k : Nat} (h : k < l.length) : l.take (k + 1) = l.take k ++ [nth l k] := by
  rw [List.take_add_one, List.getElem?_eq_getElem h, nth_get h]
  rfl
def badR (w : List Int) (r : Ru) : Bool := !r.only && sufB w r.seq
def badB (rs : List Ru) (w : List Int) : Bool := rs.any (badR w)
def mustR (w : List Int) (m : Int) (r : Ru) : Int :=
  if r.only = true ∧ sufB w (r.seq.take (r.seq.length - 1)) = true then (if m = -1 ∨ m = rd r.seq (r.seq.length - 1 : Nat) then rd r.seq (r.seq.length - 1 : Nat) else -2) else m
def mustI (rs : List Ru) (w : List Int) : Int := rs.foldl (mustR w) (-1)
theorem mustI_take {rs : List Ru} {w : List Int} {k : Nat} (h : k < rs.length) : mustI (rs.take (k + 1)) w = mustR w (mustI (rs.take k) w) (nth rs k) := by
  unfold mustI
  rw [take_nthR h, List.foldl_append]
  rfl
/-- The code of spec.l3Bad. -/
def k95 : Code1 :=
 (.seq
 (.region [] false ([]) [
 ⟨some 4,Op.assign (Operand.const (Value.bool false)),none⟩])
 (.seq
 (.seq
 (.region [] false ([]) [
 ⟨some 5,Op.assign (Operand.const (Value.int IntKind.i64 0)),none⟩])
 (.block 0
 (.loop
 (.seq
 (.seq
 (.region [] false ([]) [
 ⟨some 6,Op.move (Operand.tmp 5),none⟩,
 ⟨some 7,Op.move (Operand.tmp 0),none⟩,
 ⟨some 8,Op.call {callee:=Callee.builtin Builtin.len,args:=#[Operand.tmp 7],argTypes:=#[65]},none⟩,
 ⟨some 9,Op.binOp BinOp.lss 3 (Operand.tmp 6) (Operand.tmp 8) 3,none⟩])
 (.cond (Operand.tmp 9)
 .skip
 (.exit 0)))
 (.seq
 (.block 1
 (.seq
 (.region [27] false ([]) [
 ⟨some 12,Op.move (Operand.tmp 0),none⟩,
 ⟨some 13,Op.move (Operand.tmp 5),none⟩,
 ⟨some 14,Op.indexAddr 65 (Operand.tmp 12) (Operand.tmp 13),none⟩,
 ⟨some 15,Op.fieldAddr 98 (Operand.tmp 14) 1,none⟩,
 ⟨some 16,Op.load 4 (Operand.tmp 15),none⟩,
 ⟨some 17,Op.unOp UnOp.not 4 (Operand.tmp 16),none⟩,
 ⟨some 18,Op.move (Operand.tmp 17),none⟩,
 ⟨some 19,Op.move (Operand.tmp 1),some (18,true)⟩,
 ⟨some 20,Op.move (Operand.tmp 1),some (18,true)⟩,
 ⟨some 21,Op.call {callee:=Callee.builtin Builtin.len,args:=#[Operand.tmp 20],argTypes:=#[22]},some (18,true)⟩,
 ⟨some 22,Op.move (Operand.tmp 0),some (18,true)⟩,
 ⟨some 23,Op.move (Operand.tmp 5),some (18,true)⟩,
 ⟨some 24,Op.indexAddr 65 (Operand.tmp 22) (Operand.tmp 23),some (18,true)⟩,
 ⟨some 25,Op.fieldAddr 98 (Operand.tmp 24) 2,some (18,true)⟩,
 ⟨some 26,Op.load 22 (Operand.tmp 25),some (18,true)⟩,
 ⟨some 27,Op.call {callee:=Callee.value (Operand.func 153),args:=#[Operand.tmp 19,Operand.tmp 21,Operand.tmp 26],argTypes:=#[22,3,22]},some (18,true)⟩,
 ⟨some 28,Op.pick (Operand.tmp 18) (Operand.tmp 27) (Operand.const (Value.bool false)),none⟩])
 (.cond (Operand.tmp 28)
 (.seq
 (.region [] false ([]) [
 ⟨some 4,Op.assign (Operand.const (Value.bool true)),none⟩])
 .ret)
 .skip)))
 (.region [] false ([]) [
 ⟨some 10,Op.move (Operand.tmp 5),none⟩,
 ⟨some 11,Op.binOp BinOp.add 3 (Operand.tmp 10) (Operand.const (Value.int IntKind.i64 1)) 3,none⟩,
 ⟨some 5,Op.assign (Operand.tmp 11),none⟩]))))))
 (.seq
 (.region [] false ([]) [
 ⟨some 4,Op.assign (Operand.const (Value.bool false)),none⟩])
 .ret)))
set_option maxHeartbeats 0 in
theorem bad_c {rs : List Ru} {w : List Int} (hW : Rus rs) (hw : w.length ≤ 1048576) : CallsF Try.prog 95 [.val (recs encRu rs), .val (ints w)] (.t (.v (.bool (badB rs w)))) [] := by
  have l1 := hW.len
  refine callsF_of_wp2 (fn := Try.f95) (k := k95) (fun _ => []) mixed (by kernel_rfl) rfl (by kernel_rfl) (by kernel_rfl) (by kernel_rfl) rfl (by simp [Try.f95]) (by simp [Arg.like]) ?_
  generalize hst : St.enter [.val (recs encRu rs), .val (ints w)] = st0
  have t0 : st0.tm 0 = .t (recs encRu rs) := by rw [← hst]; rfl
  have t1 : st0.tm 1 = .t (ints w) := by rw [← hst]; rfl
  clear hst
  unfold k95
  repeat' (first
   | refine wp2_seq fun K hK => ?_
   | refine M_cons fun K hK => ?_
   | (refine hK _ ?_; clear hK K)
   | refine wp2_block ?_
   | refine wp2_region ?_
   | simp (maxSteps := 4000000) (disch := omega) [t0, t1])
  have hJ : badB rs w = false → ∀ s, K s := by
    intro hg s
    repeat' (first
     | refine wp2_seq fun K hK => ?_
     | refine M_cons fun K hK => ?_
     | (refine hK _ ?_; clear hK K)
     | refine wp2_region ?_
     | simp (maxSteps := 4000000) (disch := omega) [hg])
    all_goals try (simp [hg, Back]; done)
  clear hK
  refine wp2_loop (fun n s => ∃ k : Nat, s.tm 0 = .t (recs encRu rs) ∧ s.tm 1 = .t (ints w) ∧ s.tm 5 = .t (.v (.int .i64 k)) ∧ k ≤ rs.length ∧ n = rs.length - k ∧ ∀ i < k, badR w (nth rs i) = false) rs.length ?_ ?_
  · exact ⟨0, by simp [t0], by simp [t1], by simp, by omega, rfl, fun i hi => by omega⟩
  · rintro n s ⟨k, s0, s1, s5, hk, rfl, hq⟩ K' hK'
    by_cases hlt : k < rs.length
    · have hb := hW.each k hlt
      have f1 := suffix_c w (nth rs k).seq hw hb
      have yes : badR w (nth rs k) = true → badB rs w = true := fun h => List.any_eq_true.2 ⟨_, mem_nth.2 ⟨k, hlt, rfl⟩, h⟩
      have nx := fun h => below_succ (p := fun i : Nat => badR w (nth rs i) = false) hq h
      generalize hr : nth rs (k : Int) = r at *
      cases ho : r.only with
      | true =>
        repeat' (first
         | refine wp2_seq fun K hK => ?_
         | refine M_cons fun K hK => ?_
         | (refine hK _ ?_; clear hK K)
         | (refine hX _ ?_; clear hX hY X Y)
         | (refine hY _ ?_; clear hX hY X Y)
         | refine wp2_block ?_
         | refine wp2_region ?_
         | refine wp2_cond fun X Y hX hY => ?_
         | (refine condK_of (fun c => ?_) (fun c => ?_) <;> (try simp [-List.length_eq_zero_iff] at c))
         | simp (maxSteps := 4000000) (disch := omega) [s0, s1, s5, hlt, hr, encRu, ho])
        all_goals first | omega | skip
        exact hK' (rs.length - (k + 1)) _ (by omega) ⟨k + 1, by simp [s0], by simp [s1], by simp, by omega, rfl, nx (by unfold badR; rw [ho]; rfl)⟩
      | false =>
        cases hs : sufB w r.seq with
        | true =>
          have hg := yes (by unfold badR; rw [ho, hs]; rfl)
          repeat' (first
           | refine wp2_seq fun K hK => ?_
           | refine M_cons fun K hK => ?_
           | (refine hK _ ?_; clear hK K)
           | (refine hX _ ?_; clear hX hY X Y)
           | refine wp2_block ?_
           | refine wp2_region ?_
           | refine wp2_cond fun X Y hX hY => ?_
           | (refine condK_of (fun c => ?_) (fun c => ?_) <;> (try simp [-List.length_eq_zero_iff] at c))
           | (refine callT_fl (f1) (by simp [St.args, St.arg, s0, s1, s5, hlt, hr, encRu, ho, hs, hg] <;> first | rfl | ((repeat' first | rfl | apply And.intro); first | done | fail)) ?_)
           | simp (maxSteps := 4000000) (disch := omega) [s0, s1, s5, hlt, hr, encRu, ho, hs, hg])
          all_goals try (simp [s0, s1, s5, hlt, hr, encRu, ho, hs, hg, Back]; done)
          all_goals first | omega | simp [Back, hg]
        | false =>
          repeat' (first
           | refine wp2_seq fun K hK => ?_
           | refine M_cons fun K hK => ?_
           | (refine hK _ ?_; clear hK K)
           | (refine hX _ ?_; clear hX hY X Y)
           | (refine hY _ ?_; clear hX hY X Y)
           | refine wp2_block ?_
           | refine wp2_region ?_
           | refine wp2_cond fun X Y hX hY => ?_
           | (refine condK_of (fun c => ?_) (fun c => ?_) <;> (try simp [-List.length_eq_zero_iff] at c))
           | (refine callT_fl (f1) (by simp [St.args, St.arg, s0, s1, s5, hlt, hr, encRu, ho, hs] <;> first | rfl | ((repeat' first | rfl | apply And.intro); first | done | fail)) ?_)
           | simp (maxSteps := 4000000) (disch := omega) [s0, s1, s5, hlt, hr, encRu, ho, hs])
          all_goals first | omega | skip
          exact hK' (rs.length - (k + 1)) _ (by omega) ⟨k + 1, by simp [s0], by simp [s1], by simp, by omega, rfl, nx (by unfold badR; rw [ho, hs]; rfl)⟩
    · obtain rfl : k = rs.length := by omega
      repeat' (first
       | refine wp2_seq fun K hK => ?_
       | refine M_cons fun K hK => ?_
       | (refine hK _ ?_; clear hK K)
       | (refine hY _ ?_; clear hX hY X Y)
       | refine wp2_region ?_
       | refine wp2_cond fun X Y hX hY => ?_
       | (refine condK_of (fun c => ?_) (fun c => ?_) <;> (try simp [-List.length_eq_zero_iff] at c))
       | simp (maxSteps := 4000000) (disch := omega) [s0, s1, s5])
      all_goals first | omega | skip
      refine hJ ?_ _
      unfold badB
      rw [List.any_eq_false]
      intro x hx
      obtain ⟨i, hi, rfl⟩ := mem_nth.1 hx
      rw [hq i hi]
      simp
/-- The code of spec.l3Must. -/
def k94 : Code1 :=
 (.seq
 (.region [] false ([]) [
 ⟨some 4,Op.assign (Operand.const (Value.int IntKind.i64 0)),none⟩])
 (.seq
 (.region [] false ([]) [
 ⟨some 5,Op.assign (Operand.const (Value.int IntKind.i64 (-1))),none⟩])
 (.seq
 (.seq
 (.region [] false ([]) [
 ⟨some 6,Op.assign (Operand.const (Value.int IntKind.i64 0)),none⟩])
 (.block 0
 (.loop
 (.seq
 (.seq
 (.region [] false ([]) [
 ⟨some 9,Op.move (Operand.tmp 6),none⟩,
 ⟨some 10,Op.move (Operand.tmp 0),none⟩,
 ⟨some 11,Op.call {callee:=Callee.builtin Builtin.len,args:=#[Operand.tmp 10],argTypes:=#[65]},none⟩,
 ⟨some 12,Op.binOp BinOp.lss 3 (Operand.tmp 9) (Operand.tmp 11) 3,none⟩])
 (.cond (Operand.tmp 12)
 .skip
 (.exit 0)))
 (.seq
 (.block 1
 (.seq
 (.region [] false ([]) [
 ⟨some 15,Op.move (Operand.tmp 0),none⟩,
 ⟨some 16,Op.move (Operand.tmp 6),none⟩,
 ⟨some 17,Op.indexAddr 65 (Operand.tmp 15) (Operand.tmp 16),none⟩,
 ⟨some 18,Op.fieldAddr 98 (Operand.tmp 17) 2,none⟩,
 ⟨some 19,Op.load 22 (Operand.tmp 18),none⟩,
 ⟨some 20,Op.call {callee:=Callee.builtin Builtin.len,args:=#[Operand.tmp 19],argTypes:=#[22]},none⟩,
 ⟨some 21,Op.binOp BinOp.sub 3 (Operand.tmp 20) (Operand.const (Value.int IntKind.i64 1)) 3,none⟩,
 ⟨some 7,Op.assign (Operand.tmp 21),none⟩])
 (.seq
 (.region [38] false ([]) [
 ⟨some 22,Op.move (Operand.tmp 0),none⟩,
 ⟨some 23,Op.move (Operand.tmp 6),none⟩,
 ⟨some 24,Op.indexAddr 65 (Operand.tmp 22) (Operand.tmp 23),none⟩,
 ⟨some 25,Op.fieldAddr 98 (Operand.tmp 24) 1,none⟩,
 ⟨some 26,Op.load 4 (Operand.tmp 25),none⟩,
 ⟨some 27,Op.move (Operand.tmp 26),none⟩,
 ⟨some 28,Op.move (Operand.tmp 1),some (27,true)⟩,
 ⟨some 29,Op.move (Operand.tmp 1),some (27,true)⟩,
 ⟨some 30,Op.call {callee:=Callee.builtin Builtin.len,args:=#[Operand.tmp 29],argTypes:=#[22]},some (27,true)⟩,
 ⟨some 31,Op.move (Operand.tmp 0),some (27,true)⟩,
 ⟨some 32,Op.move (Operand.tmp 6),some (27,true)⟩,
 ⟨some 33,Op.indexAddr 65 (Operand.tmp 31) (Operand.tmp 32),some (27,true)⟩,
 ⟨some 34,Op.fieldAddr 98 (Operand.tmp 33) 2,some (27,true)⟩,
 ⟨some 35,Op.load 22 (Operand.tmp 34),some (27,true)⟩,
 ⟨some 36,Op.move (Operand.tmp 7),some (27,true)⟩,
 ⟨some 37,Op.slice 22 (Operand.tmp 35) none (some (Operand.tmp 36)) none,some (27,true)⟩,
 ⟨some 38,Op.call {callee:=Callee.value (Operand.func 153),args:=#[Operand.tmp 28,Operand.tmp 30,Operand.tmp 37],argTypes:=#[22,3,22]},some (27,true)⟩,
 ⟨some 39,Op.pick (Operand.tmp 27) (Operand.tmp 38) (Operand.const (Value.bool false)),none⟩])
 (.cond (Operand.tmp 39)
 (.seq
 (.region [] false ([]) [
 ⟨some 40,Op.move (Operand.tmp 0),none⟩,
 ⟨some 41,Op.move (Operand.tmp 6),none⟩,
 ⟨some 42,Op.indexAddr 65 (Operand.tmp 40) (Operand.tmp 41),none⟩,
 ⟨some 43,Op.fieldAddr 98 (Operand.tmp 42) 2,none⟩,
 ⟨some 44,Op.load 22 (Operand.tmp 43),none⟩,
 ⟨some 45,Op.move (Operand.tmp 7),none⟩,
 ⟨some 46,Op.indexAddr 22 (Operand.tmp 44) (Operand.tmp 45),none⟩,
 ⟨some 47,Op.load 2 (Operand.tmp 46),none⟩,
 ⟨some 8,Op.assign (Operand.tmp 47),none⟩])
 (.seq
 (.region [] false ([]) [
 ⟨some 48,Op.move (Operand.tmp 5),none⟩,
 ⟨some 49,Op.binOp BinOp.eql 2 (Operand.tmp 48) (Operand.const (Value.int IntKind.i64 (-1))) 2,none⟩,
 ⟨some 50,Op.move (Operand.tmp 49),none⟩,
 ⟨some 51,Op.move (Operand.tmp 5),some (50,false)⟩,
 ⟨some 52,Op.move (Operand.tmp 8),some (50,false)⟩,
 ⟨some 53,Op.binOp BinOp.eql 2 (Operand.tmp 51) (Operand.tmp 52) 2,some (50,false)⟩,
 ⟨some 54,Op.pick (Operand.tmp 50) (Operand.const (Value.bool true)) (Operand.tmp 53),none⟩])
 (.cond (Operand.tmp 54)
 (.region [] false ([]) [
 ⟨some 55,Op.move (Operand.tmp 8),none⟩,
 ⟨some 5,Op.assign (Operand.tmp 55),none⟩])
 (.region [] false ([]) [
 ⟨some 5,Op.assign (Operand.const (Value.int IntKind.i64 (-2))),none⟩]))))
 .skip))))
 (.region [] false ([]) [
 ⟨some 13,Op.move (Operand.tmp 6),none⟩,
 ⟨some 14,Op.binOp BinOp.add 3 (Operand.tmp 13) (Operand.const (Value.int IntKind.i64 1)) 3,none⟩,
 ⟨some 6,Op.assign (Operand.tmp 14),none⟩]))))))
 (.seq
 (.region [] false ([]) [
 ⟨some 56,Op.move (Operand.tmp 5),none⟩,
 ⟨some 4,Op.assign (Operand.tmp 56),none⟩])
 .ret))))
set_option maxHeartbeats 0 in
theorem must_c {rs : List Ru} {w : List Int} (hW : Rus rs) (h2 : ∀ i : Nat, i < rs.length → 1 ≤ (nth rs i).seq.length) (hw : w.length ≤ 1048576) : CallsF Try.prog 94 [.val (recs encRu rs), .val (ints w)] (.t (.v (.int .i64 (mustI rs w)))) [] := by
  have l1 := hW.len
  refine callsF_of_wp2 (fn := Try.f94) (k := k94) (fun _ => []) mixed (by kernel_rfl) rfl (by kernel_rfl) (by kernel_rfl) (by kernel_rfl) rfl (by simp [Try.f94]) (by simp [Arg.like]) ?_
  generalize hst : St.enter [.val (recs encRu rs), .val (ints w)] = st0
  have t0 : st0.tm 0 = .t (recs encRu rs) := by rw [← hst]; rfl
  have t1 : st0.tm 1 = .t (ints w) := by rw [← hst]; rfl
  clear hst
  unfold k94
  repeat' (first
   | refine wp2_seq fun K hK => ?_
   | refine M_cons fun K hK => ?_
   | (refine hK _ ?_; clear hK K)
   | refine wp2_block ?_
   | refine wp2_region ?_
   | simp (maxSteps := 4000000) (disch := omega) [t0, t1])
  have hJ : ∀ s, s.tm 5 = .t (.v (.int .i64 (mustI rs w))) → K s := by
    intro s s5
    repeat' (first
     | refine wp2_seq fun K hK => ?_
     | refine M_cons fun K hK => ?_
     | (refine hK _ ?_; clear hK K)
     | refine wp2_region ?_
     | simp (maxSteps := 4000000) (disch := omega) [s5])
    all_goals try (simp [s5, Back]; done)
  clear hK
  refine wp2_loop (fun n s => ∃ k : Nat, s.tm 0 = .t (recs encRu rs) ∧ s.tm 1 = .t (ints w) ∧ s.tm 5 = .t (.v (.int .i64 (mustI (rs.take k) w))) ∧ s.tm 6 = .t (.v (.int .i64 k)) ∧ k ≤ rs.length ∧ n = rs.length - k) rs.length ?_ ?_
  · exact ⟨0, by simp [t0], by simp [t1], by simp [mustI], by simp, by omega, rfl⟩
  · rintro n s ⟨k, s0, s1, s5, s6, hk, rfl⟩ K' hK'
    by_cases hlt : k < rs.length
    · have hb := hW.each k hlt
      have h2 := h2 k hlt
      have tk := mustI_take (w := w) hlt
      have f1 := suffix_c w ((nth rs k).seq.take ((nth rs k).seq.length - 1)) hw (by rw [List.length_take]; omega)
      generalize hr : nth rs (k : Int) = r at *
      generalize hm : mustI (rs.take k) w = m at *
      have ek : (r.seq.length : Int) - 1 = ((r.seq.length - 1 : Nat) : Int) := by omega
      have elt : r.seq.length - 1 < r.seq.length := by omega
      have st : mustR w m r = if r.only = true ∧ sufB w (r.seq.take (r.seq.length - 1)) = true then (if m = -1 ∨ m = rd r.seq (r.seq.length - 1 : Nat) then rd r.seq (r.seq.length - 1 : Nat) else -2) else m := rfl
      rw [st] at tk
      generalize r.seq.length - 1 = p at *
      have done : ∀ s' : St, s'.tm 0 = .t (recs encRu rs) → s'.tm 1 = .t (ints w) → s'.tm 5 = .t (.v (.int .i64 (mustI (rs.take (k + 1)) w))) → s'.tm 6 = .t (.v (.int .i64 (k + 1))) → K' s' := fun s' a b c d => hK' (rs.length - (k + 1)) _ (by omega) ⟨k + 1, a, b, c, by simpa using d, by omega, rfl⟩
      clear hK' st
      cases ho : r.only with
      | false =>
        rw [if_neg (by rw [ho]; simp)] at tk
        repeat' (first
         | refine wp2_seq fun K hK => ?_
         | refine M_cons fun K hK => ?_
         | (refine hK _ ?_; clear hK K)
         | (refine hX _ ?_; clear hX hY X Y)
         | (refine hY _ ?_; clear hX hY X Y)
         | refine wp2_block ?_
         | refine wp2_region ?_
         | refine wp2_cond fun X Y hX hY => ?_
         | (refine condK_of (fun c => ?_) (fun c => ?_) <;> (try simp [-List.length_eq_zero_iff] at c))
         | simp (maxSteps := 4000000) (disch := omega) [s0, s1, s5, s6, hlt, hr, encRu, ho, ek, elt])
        all_goals first | omega | skip
        all_goals exact done _ (by simp [s0]) (by simp [s1]) (by simp [s5, tk]) (by simp)
      | true =>
        cases hs : sufB w (r.seq.take p) with
        | false =>
          rw [if_neg (by rw [hs]; simp)] at tk
          repeat' (first
           | refine wp2_seq fun K hK => ?_
           | refine M_cons fun K hK => ?_
           | (refine hK _ ?_; clear hK K)
           | (refine hX _ ?_; clear hX hY X Y)
           | (refine hY _ ?_; clear hX hY X Y)
           | refine wp2_block ?_
           | refine wp2_region ?_
           | refine wp2_cond fun X Y hX hY => ?_
           | (refine condK_of (fun c => ?_) (fun c => ?_) <;> (try simp [-List.length_eq_zero_iff] at c))
           | (refine callT_fl (f1) (by simp [St.args, St.arg, s0, s1, s5, s6, hlt, hr, encRu, ho, hs, ek, elt] <;> first | rfl | ((repeat' first | rfl | apply And.intro); first | done | fail)) ?_)
           | simp (maxSteps := 4000000) (disch := omega) [s0, s1, s5, s6, hlt, hr, encRu, ho, hs, ek, elt])
          all_goals first | omega | skip
          all_goals exact done _ (by simp [s0]) (by simp [s1]) (by simp [s5, tk]) (by simp)
        | true =>
          rw [if_pos ⟨ho, hs⟩] at tk
          by_cases hm1 : m = -1
          · rw [if_pos (.inl hm1)] at tk
            have hm1' : (m == -1) = true := by simpa using hm1
            repeat' (first
             | refine wp2_seq fun K hK => ?_
             | refine M_cons fun K hK => ?_
             | (refine hK _ ?_; clear hK K)
             | (refine hX _ ?_; clear hX hY X Y)
             | refine wp2_block ?_
             | refine wp2_region ?_
             | refine wp2_cond fun X Y hX hY => ?_
             | (refine condK_of (fun c => ?_) (fun c => ?_) <;> (try simp [-List.length_eq_zero_iff] at c))
             | (refine callT_fl (f1) (by simp [St.args, St.arg, s0, s1, s5, s6, hlt, hr, encRu, ho, hs, ek, elt, hm1'] <;> first | rfl | ((repeat' first | rfl | apply And.intro); first | done | fail)) ?_)
             | simp (maxSteps := 4000000) (disch := omega) [s0, s1, s5, s6, hlt, hr, encRu, ho, hs, ek, elt, hm1'])
            all_goals first | omega | skip
            all_goals exact done _ (by simp [s0]) (by simp [s1]) (by simp [tk]) (by simp)
          · have hm1' : (m == -1) = false := by simpa using hm1
            by_cases hm2 : m = rd r.seq p
            · rw [if_pos (.inr hm2)] at tk
              have hm2' : (m == rd r.seq (p : Int)) = true := by simpa using hm2
              repeat' (first
               | refine wp2_seq fun K hK => ?_
               | refine M_cons fun K hK => ?_
               | (refine hK _ ?_; clear hK K)
               | (refine hX _ ?_; clear hX hY X Y)
               | refine wp2_block ?_
               | refine wp2_region ?_
               | refine wp2_cond fun X Y hX hY => ?_
               | (refine condK_of (fun c => ?_) (fun c => ?_) <;> (try simp [-List.length_eq_zero_iff] at c))
               | (refine callT_fl (f1) (by simp [St.args, St.arg, s0, s1, s5, s6, hlt, hr, encRu, ho, hs, ek, elt, hm1', hm2'] <;> first | rfl | ((repeat' first | rfl | apply And.intro); first | done | fail)) ?_)
               | simp (maxSteps := 4000000) (disch := omega) [s0, s1, s5, s6, hlt, hr, encRu, ho, hs, ek, elt, hm1', hm2'])
              all_goals first | omega | skip
              all_goals exact done _ (by simp [s0]) (by simp [s1]) (by simp [tk]) (by simp)
            · rw [if_neg (by rintro (h | h); exact hm1 h; exact hm2 h)] at tk
              have hm2' : (m == rd r.seq (p : Int)) = false := by simpa using hm2
              repeat' (first
               | refine wp2_seq fun K hK => ?_
               | refine M_cons fun K hK => ?_
               | (refine hK _ ?_; clear hK K)
               | (refine hX _ ?_; clear hX hY X Y)
               | (refine hY _ ?_; clear hX hY X Y)
               | refine wp2_block ?_
               | refine wp2_region ?_
               | refine wp2_cond fun X Y hX hY => ?_
               | (refine condK_of (fun c => ?_) (fun c => ?_) <;> (try simp [-List.length_eq_zero_iff] at c))
               | (refine callT_fl (f1) (by simp [St.args, St.arg, s0, s1, s5, s6, hlt, hr, encRu, ho, hs, ek, elt, hm1', hm2'] <;> first | rfl | ((repeat' first | rfl | apply And.intro); first | done | fail)) ?_)
               | simp (maxSteps := 4000000) (disch := omega) [s0, s1, s5, s6, hlt, hr, encRu, ho, hs, ek, elt, hm1', hm2'])
              all_goals first | omega | skip
              all_goals exact done _ (by simp [s0]) (by simp [s1]) (by simp [tk]) (by simp)
    · obtain rfl : k = rs.length := by omega
      rw [List.take_length] at s5
      repeat' (first
       | refine wp2_seq fun K hK => ?_
       | refine M_cons fun K hK => ?_
       | (refine hK _ ?_; clear hK K)
       | (refine hY _ ?_; clear hX hY X Y)
       | refine wp2_region ?_
       | refine wp2_cond fun X Y hX hY => ?_
       | (refine condK_of (fun c => ?_) (fun c => ?_) <;> (try simp [-List.length_eq_zero_iff] at c))
       | simp (maxSteps := 4000000) (disch := omega) [s0, s1, s5, s6])
      all_goals first | omega | skip
      exact hJ _ (by simp [s5])
end Cal

/- impl.both. -/
set_option linter.unusedSimpArgs false
set_option linter.unusedVariables false
namespace Cal
open Go Go.Proofs
set_option maxRecDepth 100000
def bothI (a b : Int) : Int := if a = -1 then b else if b = -1 ∨ a = b then a else -2
/-- The code of impl.both. -/
def k99 : Code1 :=
 (.seq
 (.region [] false ([]) [
 ⟨some 4,Op.assign (Operand.const (Value.int IntKind.i64 0)),none⟩])
 (.seq
 (.block 0
 (.seq
 (.region [] false ([]) [
 ⟨some 6,Op.move (Operand.tmp 0),none⟩,
 ⟨some 7,Op.binOp BinOp.eql 2 (Operand.tmp 6) (Operand.const (Value.int IntKind.i64 (-1))) 2,none⟩,
 ⟨some 5,Op.assign (Operand.tmp 7),none⟩])
 (.cond (Operand.tmp 5)
 (.seq
 (.region [] false ([]) [
 ⟨some 8,Op.move (Operand.tmp 1),none⟩,
 ⟨some 4,Op.assign (Operand.tmp 8),none⟩])
 .ret)
 (.seq
 (.region [] false ([]) [
 ⟨some 10,Op.move (Operand.tmp 1),none⟩,
 ⟨some 11,Op.binOp BinOp.eql 2 (Operand.tmp 10) (Operand.const (Value.int IntKind.i64 (-1))) 2,none⟩,
 ⟨some 12,Op.move (Operand.tmp 11),none⟩,
 ⟨some 13,Op.move (Operand.tmp 0),some (12,false)⟩,
 ⟨some 14,Op.move (Operand.tmp 1),some (12,false)⟩,
 ⟨some 15,Op.binOp BinOp.eql 2 (Operand.tmp 13) (Operand.tmp 14) 2,some (12,false)⟩,
 ⟨some 16,Op.pick (Operand.tmp 12) (Operand.const (Value.bool true)) (Operand.tmp 15),none⟩,
 ⟨some 9,Op.assign (Operand.tmp 16),none⟩])
 (.cond (Operand.tmp 9)
 (.seq
 (.region [] false ([]) [
 ⟨some 17,Op.move (Operand.tmp 0),none⟩,
 ⟨some 4,Op.assign (Operand.tmp 17),none⟩])
 .ret)
 .skip)))))
 (.seq
 (.region [] false ([]) [
 ⟨some 4,Op.assign (Operand.const (Value.int IntKind.i64 (-2))),none⟩])
 .ret)))
theorem both_c (a b : Int) : CallsF Try.prog 99 [.val (.v (.int .i64 a)), .val (.v (.int .i64 b))] (.t (.v (.int .i64 (bothI a b)))) [] := by
  refine callsF_of_wp2 (fn := Try.f99) (k := k99) (fun _ => []) mixed (by kernel_rfl) rfl (by kernel_rfl) (by kernel_rfl) (by kernel_rfl) rfl (by simp [Try.f99]) (by simp [Arg.like]) ?_
  generalize hst : St.enter [.val (.v (.int .i64 a)), .val (.v (.int .i64 b))] = st0
  have t0 : st0.tm 0 = .t (.v (.int .i64 a)) := by rw [← hst]; rfl
  have t1 : st0.tm 1 = .t (.v (.int .i64 b)) := by rw [← hst]; rfl
  clear hst
  unfold k99
  by_cases h1 : a = -1
  · have e : bothI a b = b := by unfold bothI; rw [if_pos h1]
    have h1' : (a == -1) = true := by simpa using h1
    repeat' (first
     | refine wp2_seq fun K hK => ?_
     | refine M_cons fun K hK => ?_
     | (refine hK _ ?_; clear hK K)
     | (refine hX _ ?_; clear hX hY X Y)
     | refine wp2_block ?_
     | refine wp2_region ?_
     | refine wp2_cond fun X Y hX hY => ?_
     | (refine condK_of (fun c => ?_) (fun c => ?_) <;> (try simp [-List.length_eq_zero_iff] at c))
     | simp (maxSteps := 4000000) (disch := omega) [t0, t1, h1', e])
    all_goals try (simp [t0, t1, h1', e, Back]; done)
  · have h1' : (a == -1) = false := by simpa using h1
    by_cases h2 : b = -1
    · have e : bothI a b = a := by unfold bothI; rw [if_neg h1, if_pos (.inl h2)]
      have h2' : (b == -1) = true := by simpa using h2
      repeat' (first
       | refine wp2_seq fun K hK => ?_
       | refine M_cons fun K hK => ?_
       | (refine hK _ ?_; clear hK K)
       | (refine hX _ ?_; clear hX hY X Y)
       | (refine hY _ ?_; clear hX hY X Y)
       | refine wp2_block ?_
       | refine wp2_region ?_
       | refine wp2_cond fun X Y hX hY => ?_
       | (refine condK_of (fun c => ?_) (fun c => ?_) <;> (try simp [-List.length_eq_zero_iff] at c))
       | simp (maxSteps := 4000000) (disch := omega) [t0, t1, h1', h2', e])
      all_goals try (simp [t0, t1, h1', h2', e, Back]; done)
    · have h2' : (b == -1) = false := by simpa using h2
      by_cases h3 : a = b
      · have e : bothI a b = a := by unfold bothI; rw [if_neg h1, if_pos (.inr h3)]
        have h3' : (a == b) = true := by simpa using h3
        repeat' (first
         | refine wp2_seq fun K hK => ?_
         | refine M_cons fun K hK => ?_
         | (refine hK _ ?_; clear hK K)
         | (refine hX _ ?_; clear hX hY X Y)
         | (refine hY _ ?_; clear hX hY X Y)
         | refine wp2_block ?_
         | refine wp2_region ?_
         | refine wp2_cond fun X Y hX hY => ?_
         | (refine condK_of (fun c => ?_) (fun c => ?_) <;> (try simp [-List.length_eq_zero_iff] at c))
         | simp (maxSteps := 4000000) (disch := omega) [t0, t1, h1', h2', h3', e])
        all_goals try (simp [t0, t1, h1', h2', h3', e, Back]; done)
      · have e : bothI a b = -2 := by unfold bothI; rw [if_neg h1, if_neg (by rintro (h | h); exact h2 h; exact h3 h)]
        have h3' : (a == b) = false := by simpa using h3
        repeat' (first
         | refine wp2_seq fun K hK => ?_
         | refine M_cons fun K hK => ?_
         | (refine hK _ ?_; clear hK K)
         | (refine hY _ ?_; clear hX hY X Y)
         | refine wp2_block ?_
         | refine wp2_region ?_
         | refine wp2_cond fun X Y hX hY => ?_
         | (refine condK_of (fun c => ?_) (fun c => ?_) <;> (try simp [-List.length_eq_zero_iff] at c))
         | simp (maxSteps := 4000000) (disch := omega) [t0, t1, h1', h2', h3', e])
        all_goals try (simp [t0, t1, h1', h2', h3', e, Back]; done)
end Cal

/- The plain law of what is forced and what is forbidden, along the failure links. -/
set_option linter.unusedSimpArgs false
set_option linter.unusedVariables false
namespace Cal
open Go Go.Proofs Auto AC
theorem bothI_comm (a b : Int) : bothI a b = bothI b a := by unfold bothI; split <;> split <;> (try split) <;> (try split) <;> omega
theorem bothI_assoc (a b c : Int) : bothI (bothI a b) c = bothI a (bothI b c) := by
  unfold bothI
  by_cases h1 : a = -1 <;> by_cases h2 : b = -1 <;> by_cases h3 : c = -1 <;> by_cases h4 : a = b <;> by_cases h5 : b = c <;> by_cases h6 : a = c <;> by_cases h7 : a = -2 <;> by_cases h8 : c = -2 <;> simp_all <;> omega
theorem bothI_self (a : Int) : bothI a a = a := by unfold bothI; split <;> simp_all
theorem bothI_nil (a : Int) : bothI (-1) a = a := by unfold bothI; rw [if_pos rfl]
def lastR (r : Ru) : Int := rd r.seq (r.seq.length - 1 : Nat)
def preR (r : Ru) : List Int := r.seq.take (r.seq.length - 1)
/-- What the rules that p has force. -/
def mustOf (p : Ru → Bool) (rs : List Ru) : Int := rs.foldl (fun m r => if p r = true then bothI m (lastR r) else m) (-1)
theorem mustOf_from (p : Ru → Bool) : ∀ (rs : List Ru) (a : Int), rs.foldl (fun m r => if p r = true then bothI m (lastR r) else m) a = bothI a (mustOf p rs)
  | [], a => by
    have : mustOf p [] = -1 := rfl
    rw [this, bothI_comm, bothI_nil]
    rfl
  | r :: rs, a => by
    unfold mustOf
    rw [List.foldl_cons, List.foldl_cons, mustOf_from p rs, mustOf_from p rs]
    split
    · rw [bothI_nil, bothI_assoc]
    · rw [bothI_nil]
theorem mustOf_cons (p : Ru → Bool) (r : Ru) (rs : List Ru) : mustOf p (r :: rs) = if p r = true then bothI (lastR r) (mustOf p rs) else mustOf p rs := by
  have : mustOf p (r :: rs) = rs.foldl (fun m r => if p r = true then bothI m (lastR r) else m) (if p r = true then bothI (-1) (lastR r) else -1) := rfl
  rw [this, mustOf_from]
  split
  · rw [bothI_nil]
  · rw [bothI_nil]
theorem mustOf_or (p q : Ru → Bool) : ∀ rs : List Ru, mustOf (fun r => p r || q r) rs = bothI (mustOf p rs) (mustOf q rs)
  | [] => rfl
  | r :: rs => by
    have ih := mustOf_or p q rs
    rw [mustOf_cons, mustOf_cons, mustOf_cons, ih]
    cases hp : p r <;> cases hq : q r <;> simp
    · rw [← bothI_assoc, ← bothI_assoc, bothI_comm (lastR r)]
    · rw [bothI_assoc]
    · rw [bothI_assoc, ← bothI_assoc (mustOf p rs), bothI_comm (mustOf p rs) (lastR r), bothI_assoc (lastR r) (mustOf p rs), ← bothI_assoc (lastR r) (lastR r), bothI_self]
theorem mustOf_congr {p q : Ru → Bool} : ∀ {rs : List Ru}, (∀ r ∈ rs, p r = q r) → mustOf p rs = mustOf q rs
  | [], _ => rfl
  | r :: rs, h => by
    rw [mustOf_cons, mustOf_cons, h r (by simp), mustOf_congr fun x hx => h x (by simp [hx])]
def pM (w : List Int) (r : Ru) : Bool := r.only && sufB w (preR r)
def pE (w : List Int) (r : Ru) : Bool := r.only && decide (preR r = w)
theorem mustI_of {rs : List Ru} (hp : ∀ r ∈ rs, 0 ≤ lastR r) (w : List Int) : mustI rs w = mustOf (pM w) rs := by
  have go : ∀ (rs : List Ru) (a : Int), (∀ r ∈ rs, 0 ≤ lastR r) → rs.foldl (mustR w) a = rs.foldl (fun m r => if pM w r = true then bothI m (lastR r) else m) a := by
    intro rs
    induction rs with
    | nil => intro a _; rfl
    | cons r rs ih =>
      intro a h
      rw [List.foldl_cons, List.foldl_cons, ih _ fun x hx => h x (by simp [hx])]
      congr 1
      have h0 := h r (by simp)
      unfold mustR pM preR
      by_cases hc : r.only = true ∧ sufB w (r.seq.take (r.seq.length - 1)) = true
      · have hb : (r.only && sufB w (r.seq.take (r.seq.length - 1))) = true := by rw [hc.1, hc.2]; rfl
        rw [if_pos hc, if_pos hb]
        unfold bothI
        unfold lastR at *
        generalize rd r.seq _ = x at *
        by_cases h1 : a = -1
        · rw [if_pos (.inl h1), if_pos h1]
        · rw [if_neg h1]
          by_cases h2 : a = x
          · rw [if_pos (.inr h2), if_pos (.inr h2), h2]
          · rw [if_neg (by omega), if_neg (by omega)]
      · have hb : ¬ (r.only && sufB w (r.seq.take (r.seq.length - 1))) = true := by rw [Bool.and_eq_true]; exact hc
        rw [if_neg hc, if_neg hb]
  exact go rs (-1) hp
end Cal

/- Plain law: the words of an automaton's states, and when it is valid. -/
set_option linter.unusedSimpArgs false
set_option linter.unusedVariables false
namespace Cal
open Auto AC
/-- The words of the first n states. -/
def wsOf (par last : List Int) : Nat → List (List Int)
  | 0 => []
  | s + 1 => wsOf par last s ++ [if s = 0 then [] else wd (wsOf par last s) (rd par s) ++ [rd last s]]
@[simp] theorem wsOf_length (par last : List Int) : ∀ n, (wsOf par last n).length = n
  | 0 => rfl
  | n + 1 => by simp [wsOf, wsOf_length par last n]
/-- The word of one state. -/
def W (par last : List Int) (s : Nat) : List Int := wd (wsOf par last (s + 1)) s
/-- A state stands where it may. -/
def SOKA (par last : List Int) (s : Nat) : Prop :=
  if s = 0 then rd par 0 = -1 ∧ rd last 0 = -1 else
  0 ≤ rd par s ∧ rd par s < s ∧ 0 ≤ rd last s ∧ rd last s < 4000 ∧ (W par last s).length ≤ 402 ∧ Short.before (W par last (s - 1)) (W par last s) = true
/-! the automaton -/
structure Au where
  parent : List Int
  last : List Int
  fail : List Int
  must : List Int
  bad : List Bool
/-- Failure links, one by one. -/
def FOK (a : Au) (s : Nat) : Prop := rd a.fail s = stI (wsOf a.parent a.last a.parent.length) (LS (isWord (wsOf a.parent a.last a.parent.length)) ((W a.parent a.last s).tail))
def MOK (a : Au) (s : Nat) : Prop := -2 ≤ rd a.must s ∧ rd a.must s < 4000
structure VA (a : Au) : Prop where
  n1 : 1 ≤ a.parent.length
  n2 : a.parent.length ≤ 2000
  l1 : a.last.length = a.parent.length
  l2 : a.fail.length = a.parent.length
  l3 : a.must.length = a.parent.length
  l4 : a.bad.length = a.parent.length
  f0 : rd a.fail 0 = -1
  m0 : rd a.must 0 = -1
  b0 : rdb a.bad 0 = false
  so : ∀ i < a.parent.length, SOKA a.parent a.last i
  mo : ∀ i : Nat, 1 ≤ i → i < a.parent.length → MOK a i
  fo : ∀ i : Nat, 1 ≤ i → i < a.parent.length → FOK a i
noncomputable instance (a : Au) : Decidable (VA a) := Classical.propDecidable _
end Cal

set_option linter.unusedSimpArgs false
set_option linter.unusedVariables false
namespace Cal
open Go Go.Proofs Auto AC
set_option maxRecDepth 100000
def appendW (o : Option Ob) (d : Nat) (id : Id) (n : Nat) (es : List (List T)) : Option (AV × Eff) := match o with
  | some (.row sz fs) => if sz = 1 ∧ n = fs.length ∧ (n + es.length) * 24 ≤ lim then some (.row (d, 0) sz 0 (n + es.length), [(id, none), ((d, 0), some (.row sz (fs ++ es)))]) else none
  | _ => none
@[simp] theorem appendA_word (d : Nat) (st : St) (id : Id) (n : Nat) (es : List (List T)) : appendA d st ⟨true, 1, 24, [.slice none 0 0]⟩ (.row id 1 0 n) es = appendW (st.ob id) d id n es := by
  unfold appendA appendW
  rfl
@[simp] theorem appendW_word (d : Nat) (id : Id) (ws : List (List Int)) (w : List Int) (n : Nat) (h1 : n = ws.length) (h2 : n ≤ 1000000) : appendW (some (.row 1 (wordRow ws))) d id n [[ints w]] = some (.row (d, 0) 1 0 (n + 1), [(id, none), ((d, 0), some (.row 1 (wordRow (ws ++ [w]))))]) := by
  subst h1
  have : (ws.length + 1) * 24 ≤ lim := by unfold lim; omega
  simp [appendW, this]
@[simp] theorem appendW_word0 (d : Nat) (id : Id) (ws : List (List Int)) (n : Nat) (h1 : n = ws.length) (h2 : n ≤ 1000000) : appendW (some (.row 1 (wordRow ws))) d id n [[T.sl []]] = some (.row (d, 0) 1 0 (n + 1), [(id, none), ((d, 0), some (.row 1 (wordRow (ws ++ [[]]))))]) := appendW_word d id ws [] n h1 h2
@[simp] theorem wordRow_snoc0 (l : List (List Int)) : wordRow l ++ [[T.sl []]] = wordRow (l ++ [[]]) := wordRow_append l [[]]
@[simp] theorem take_one (x : Int) : (intRow [x]).take 1 = intRow [x] := rfl
end Cal

/- spec.l3Insert. -/
set_option linter.unusedSimpArgs false
set_option linter.unusedVariables false
namespace Cal
open Go Go.Proofs
set_option maxRecDepth 100000
theorem place_low : ∀ {ws : List (List Int)} {w : List Int} {i : Nat}, i < place ws w → Short.before (ws.getD i []) w = true
  | [], w, i, h => by simp [place] at h
  | x :: xs, w, i, h => by
    unfold place at h
    split at h
    · rename_i hb
      cases i with
      | zero => simpa using hb
      | succ i =>
        have := place_low (ws := xs) (w := w) (i := i) (by omega)
        simpa using this
    · omega
theorem place_at : ∀ {ws : List (List Int)} {w : List Int}, place ws w < ws.length → Short.before (ws.getD (place ws w) []) w = false
  | [], w, h => by simp at h
  | x :: xs, w, h => by
    unfold place at h ⊢
    split
    · rename_i hb
      rw [if_pos hb] at h
      have := place_at (ws := xs) (w := w) (by simpa using h)
      simpa using this
    · rename_i hb
      simpa using hb
def insW (ws : List (List Int)) (w : List Int) : List (List Int) := if place ws w < ws.length ∧ wd ws (place ws w) = w then ws else ws.take (place ws w) ++ w :: ws.drop (place ws w)
theorem wd_getD (ws : List (List Int)) (i : Nat) : wd ws i = ws.getD i [] := by
  unfold wd
  rw [Int.toNat_natCast]
theorem getD_get {ws : List (List Int)} {i : Nat} (h : i < ws.length) : ws.getD i [] = ws[i] := by
  rw [List.getD_eq_getElem?_getD, List.getElem?_eq_getElem h]
  rfl
theorem mem_insW {ws : List (List Int)} {w x : List Int} : x ∈ insW ws w ↔ x ∈ ws ∨ x = w := by
  unfold insW
  split
  · rename_i h
    refine ⟨.inl, fun hx => ?_⟩
    rcases hx with hx | rfl
    · exact hx
    · rw [← h.2, wd_getD, getD_get h.1]
      exact List.getElem_mem _
  · rw [List.mem_append, List.mem_cons]
    have : x ∈ ws ↔ x ∈ ws.take (place ws w) ∨ x ∈ ws.drop (place ws w) := by
      rw [← List.mem_append, List.take_append_drop]
    rw [this]
    constructor
    · rintro (h | h | h)
      · exact .inl (.inl h)
      · exact .inr h
      · exact .inl (.inr h)
    · rintro ((h | h) | h)
      · exact .inl h
      · exact .inr (.inr h)
      · exact .inr (.inl h)
theorem insW_len (ws : List (List Int)) (w : List Int) : (insW ws w).length ≤ ws.length + 1 ∧ ws.length ≤ (insW ws w).length := by
  have := place_le ws w
  unfold insW
  split
  · omega
  · simp
    omega
theorem insW_rise {ws : List (List Int)} {w : List Int} (h : Short.Rising ws) : Short.Rising (insW ws w) := by
  unfold insW
  split
  · exact h
  · rename_i hn
    have hp := place_le ws w
    unfold Short.Rising at *
    have h' := h
    rw [← List.take_append_drop (place ws w) ws, List.pairwise_append] at h'
    obtain ⟨h1, h2, h3⟩ := h'
    have low : ∀ a ∈ ws.take (place ws w), Short.before a w = true := by
      intro a ha
      obtain ⟨i, hi, rfl⟩ := List.mem_iff_getElem.1 ha
      rw [List.length_take] at hi
      have := place_low (ws := ws) (w := w) (i := i) (by omega)
      rw [getD_get (by omega)] at this
      simpa using this
    rw [List.pairwise_append]
    refine ⟨h1, ?_, fun a ha b hb => ?_⟩
    · rw [List.pairwise_cons]
      refine ⟨fun b hb => ?_, h2⟩
      obtain ⟨i, hi, rfl⟩ := List.mem_iff_getElem.1 hb
      rw [List.length_drop] at hi
      have hlt : place ws w < ws.length := by omega
      have at' := place_at hlt
      have ne : ws.getD (place ws w) [] ≠ w := fun e => hn ⟨hlt, by rw [wd_getD]; exact e⟩
      have wb : Short.before w (ws.getD (place ws w) []) = true := by
        cases hb' : Short.before w (ws.getD (place ws w) []) with
        | true => rfl
        | false => exact absurd (Short.before_total at' hb') ne
      rw [List.getElem_drop]
      by_cases e : i = 0
      · subst e
        rw [getD_get hlt] at wb
        exact wb
      · have := List.pairwise_iff_getElem.1 h (place ws w) (place ws w + i) hlt (by omega) (by omega)
        rw [getD_get hlt] at wb
        exact Short.before_trans wb this
    · rcases List.mem_cons.1 hb with rfl | hb
      · exact low a ha
      · exact h3 a ha b hb
@[simp] theorem wordRow_set (l : List (List Int)) (i : Nat) (w : List Int) : (wordRow l).set i [ints w] = wordRow (l.set i w) := by
  simp [wordRow, List.map_set]
theorem shift_at {ws : List (List Int)} {j : Nat} {X : List Int} (h : j < ws.length) : wd (ws.take (j + 1) ++ X :: ws.drop (j + 1)) j = wd ws j ∧ (ws.take (j + 1) ++ X :: ws.drop (j + 1)).set (j + 1) (wd ws j) = ws.take j ++ wd ws j :: ws.drop j ++ [] := by
  have lt : (ws.take (j + 1)).length = j + 1 := by rw [List.length_take]; omega
  constructor
  · rw [wd_getD, wd_getD, List.getD_eq_getElem?_getD, List.getD_eq_getElem?_getD, List.getElem?_append_left (by omega), List.getElem?_take, if_pos (by omega)]
  · rw [List.append_nil, List.set_append_right _ _ (by omega), lt, Nat.sub_self, List.set_cons_zero, List.take_add_one, List.getElem?_eq_getElem h, wd_getD, getD_get h, List.append_assoc]
    congr 1
    have e : ws.drop j = ws[j] :: ws.drop (j + 1) := List.drop_eq_getElem_cons h
    rw [e]
    rfl
@[simp] theorem words_slM (ws : List (List Int)) : T.sl (wordRow ws) = words ws := rfl
attribute [simp] take_wordRow
/-- The code of spec.l3Insert. -/
def k151 : Code1 :=
 (.seq
 (.region [] false ([]) [
 ⟨some 4,Op.assign (Operand.const (Value.slice none 0 0)),none⟩])
 (.seq
 (.region [9] false ([]) [
 ⟨some 7,Op.move (Operand.tmp 0),none⟩,
 ⟨some 8,Op.move (Operand.tmp 1),none⟩,
 ⟨some 9,Op.call {callee:=Callee.value (Operand.func 152),args:=#[Operand.tmp 7,Operand.tmp 8],argTypes:=#[135,22]},none⟩,
 ⟨some 5,Op.assign (Operand.tmp 9),none⟩])
 (.seq
 (.seq
 (.region [21] false ([]) [
 ⟨some 10,Op.move (Operand.tmp 5),none⟩,
 ⟨some 11,Op.move (Operand.tmp 0),none⟩,
 ⟨some 12,Op.call {callee:=Callee.builtin Builtin.len,args:=#[Operand.tmp 11],argTypes:=#[135]},none⟩,
 ⟨some 13,Op.binOp BinOp.lss 3 (Operand.tmp 10) (Operand.tmp 12) 3,none⟩,
 ⟨some 14,Op.move (Operand.tmp 13),none⟩,
 ⟨some 15,Op.move (Operand.tmp 0),some (14,true)⟩,
 ⟨some 16,Op.move (Operand.tmp 5),some (14,true)⟩,
 ⟨some 17,Op.indexAddr 135 (Operand.tmp 15) (Operand.tmp 16),some (14,true)⟩,
 ⟨some 18,Op.fieldAddr 138 (Operand.tmp 17) 0,some (14,true)⟩,
 ⟨some 19,Op.load 22 (Operand.tmp 18),some (14,true)⟩,
 ⟨some 20,Op.move (Operand.tmp 1),some (14,true)⟩,
 ⟨some 21,Op.call {callee:=Callee.value (Operand.func 146),args:=#[Operand.tmp 19,Operand.tmp 20],argTypes:=#[22,22]},some (14,true)⟩,
 ⟨some 22,Op.pick (Operand.tmp 14) (Operand.tmp 21) (Operand.const (Value.bool false)),none⟩])
 (.cond (Operand.tmp 22)
 (.seq
 (.region [] false ([]) [
 ⟨some 23,Op.move (Operand.tmp 0),none⟩,
 ⟨some 4,Op.assign (Operand.tmp 23),none⟩])
 .ret)
 .skip))
 (.seq
 (.region [27,28] false ([]) [
 ⟨some 24,Op.move (Operand.tmp 0),none⟩,
 ⟨some 25,Op.move (Operand.tmp 1),none⟩,
 ⟨some 26,Op.build 138 #[(0,Operand.tmp 25)],none⟩,
 ⟨some 27,Op.buildSlice 135 1 #[(0,Operand.tmp 26)],none⟩,
 ⟨some 28,Op.call {callee:=Callee.builtin Builtin.append,args:=#[Operand.tmp 24,Operand.tmp 27],argTypes:=#[135,135]},none⟩,
 ⟨some 0,Op.assign (Operand.tmp 28),none⟩])
 (.seq
 (.seq
 (.region [] false ([]) [
 ⟨some 29,Op.move (Operand.tmp 0),none⟩,
 ⟨some 30,Op.call {callee:=Callee.builtin Builtin.len,args:=#[Operand.tmp 29],argTypes:=#[135]},none⟩,
 ⟨some 31,Op.binOp BinOp.sub 3 (Operand.tmp 30) (Operand.const (Value.int IntKind.i64 1)) 3,none⟩,
 ⟨some 6,Op.assign (Operand.tmp 31),none⟩])
 (.block 0
 (.loop
 (.seq
 (.seq
 (.region [] false ([]) [
 ⟨some 32,Op.move (Operand.tmp 6),none⟩,
 ⟨some 33,Op.move (Operand.tmp 5),none⟩,
 ⟨some 34,Op.binOp BinOp.gtr 3 (Operand.tmp 32) (Operand.tmp 33) 3,none⟩])
 (.cond (Operand.tmp 34)
 .skip
 (.exit 0)))
 (.seq
 (.block 1
 (.region [] false ([]) [
 ⟨some 37,Op.move (Operand.tmp 0),none⟩,
 ⟨some 38,Op.move (Operand.tmp 6),none⟩,
 ⟨some 39,Op.move (Operand.tmp 0),none⟩,
 ⟨some 40,Op.move (Operand.tmp 6),none⟩,
 ⟨some 41,Op.binOp BinOp.sub 3 (Operand.tmp 40) (Operand.const (Value.int IntKind.i64 1)) 3,none⟩,
 ⟨some 42,Op.indexAddr 135 (Operand.tmp 39) (Operand.tmp 41),none⟩,
 ⟨some 43,Op.load 138 (Operand.tmp 42),none⟩,
 ⟨some 44,Op.indexAddr 135 (Operand.tmp 37) (Operand.tmp 38),none⟩,
 ⟨none,Op.store 138 (Operand.tmp 44) (Operand.tmp 43),none⟩]))
 (.region [] false ([]) [
 ⟨some 35,Op.move (Operand.tmp 6),none⟩,
 ⟨some 36,Op.binOp BinOp.sub 3 (Operand.tmp 35) (Operand.const (Value.int IntKind.i64 1)) 3,none⟩,
 ⟨some 6,Op.assign (Operand.tmp 36),none⟩]))))))
 (.seq
 (.region [] false ([]) [
 ⟨some 45,Op.move (Operand.tmp 0),none⟩,
 ⟨some 46,Op.move (Operand.tmp 5),none⟩,
 ⟨some 47,Op.move (Operand.tmp 1),none⟩,
 ⟨some 48,Op.build 138 #[(0,Operand.tmp 47)],none⟩,
 ⟨some 49,Op.indexAddr 135 (Operand.tmp 45) (Operand.tmp 46),none⟩,
 ⟨none,Op.store 138 (Operand.tmp 49) (Operand.tmp 48),none⟩])
 (.seq
 (.region [] false ([]) [
 ⟨some 50,Op.move (Operand.tmp 0),none⟩,
 ⟨some 4,Op.assign (Operand.tmp 50),none⟩])
 .ret)))))))
set_option maxHeartbeats 0 in
theorem insert_c {ws : List (List Int)} {w : List Int} (hW : Wds ws) (hl : ws.length ≤ 5000) (hw : w.length ≤ 100000) :
    CallsF Try.prog 151 [.mrow 1 (wordRow ws), .val (ints w)] (.own 1 (wordRow (insW ws w))) [none] := by
  have pl := place_le ws w
  have f1 := place_c hW (w := w) (by omega)
  refine callsF_of_wp2 (fn := Try.f151) (k := k151) (fun _ => []) mixed (by kernel_rfl) rfl (by kernel_rfl) (by kernel_rfl) (by kernel_rfl) rfl (by simp [Try.f151]) (by simp [Arg.like]) ?_
  generalize hst : St.enter [.mrow 1 (wordRow ws), .val (ints w)] = st0
  have t0 : st0.tm 0 = .row (100000, 0) 1 0 ((wordRow ws)).length := by rw [← hst]; rfl
  have o0 : st0.ob (100000, 0) = some (.row 1 (wordRow ws)) := by rw [← hst]; rfl
  have t1 : st0.tm 1 = .t (ints w) := by rw [← hst]; rfl
  clear hst
  unfold k151
  generalize hp : place ws w = p at *
  by_cases hlt : p < ws.length
  · have hb := hW.each p hlt
    have f2 := same_c (wd ws p) w (by rw [wd_getD]; omega) (by omega)
    by_cases he : wd ws p = w
    · have hi : insW ws w = ws := by unfold insW; rw [hp, if_pos ⟨hlt, he⟩]
      repeat' (first
       | refine wp2_seq fun K hK => ?_
       | refine M_cons fun K hK => ?_
       | (refine hK _ ?_; clear hK K)
       | (refine hX _ ?_; clear hX hY X Y)
       | refine wp2_region ?_
       | refine wp2_cond fun X Y hX hY => ?_
       | (refine condK_of (fun c => ?_) (fun c => ?_) <;> (try simp [-List.length_eq_zero_iff] at c))
       | (refine callT_fl (f1) (by simp [St.args, St.arg, t0, t1, o0, hlt, he, hi] <;> first | rfl | ((repeat' first | rfl | apply And.intro); first | done | fail)) ?_)
       | (refine callT_fl (f2) (by simp [St.args, St.arg, t0, t1, o0, hlt, he, hi] <;> first | rfl | ((repeat' first | rfl | apply And.intro); first | done | fail)) ?_)
       | simp (maxSteps := 4000000) (disch := omega) [t0, t1, o0, hlt, he, hi])
      all_goals try (simp [t0, t1, o0, hlt, he, hi, Back]; done)
      all_goals first | omega | skip
      all_goals simp [Back, o0]
    · have hi : insW ws w = ws.take p ++ w :: ws.drop p := by unfold insW; rw [hp, if_neg (fun h => he h.2)]
      repeat' (first
       | refine wp2_seq fun K hK => ?_
       | refine M_cons fun K hK => ?_
       | (refine hK _ ?_; clear hK K)
       | (refine hY _ ?_; clear hX hY X Y)
       | refine wp2_block ?_
       | refine wp2_region ?_
       | refine wp2_cond fun X Y hX hY => ?_
       | (refine condK_of (fun c => ?_) (fun c => ?_) <;> (try simp [-List.length_eq_zero_iff] at c))
       | (refine callT_fl (f1) (by simp [St.args, St.arg, t0, t1, o0, hlt, he] <;> first | rfl | ((repeat' first | rfl | apply And.intro); first | done | fail)) ?_)
       | (refine callT_fl (f2) (by simp [St.args, St.arg, t0, t1, o0, hlt, he] <;> first | rfl | ((repeat' first | rfl | apply And.intro); first | done | fail)) ?_)
       | simp (maxSteps := 4000000) (disch := omega) [t0, t1, o0, hlt, he])
      all_goals first | omega | skip
      have hJ : ∀ (s : St) (X : List Int), s.tm 0 = .row (28, 0) 1 0 (ws.length + 1) → s.tm 1 = .t (ints w) → s.tm 5 = .t (.v (.int .i64 p)) → s.ob (28, 0) = some (.row 1 (wordRow (ws.take p ++ X :: ws.drop p))) → K s := by
        intro s X s0 s1 s5 o
        have ln : (ws.take p ++ X :: ws.drop p).length = ws.length + 1 := by simp; omega
        have lq : min p ws.length + (ws.length - p + 1) = ws.length + 1 := by omega
        have lt : (ws.take p).length = p := by rw [List.length_take]; omega
        have st : (ws.take p ++ X :: ws.drop p).set p w = ws.take p ++ w :: ws.drop p := by
          rw [List.set_append_right _ _ (by omega), lt, Nat.sub_self, List.set_cons_zero]
        repeat' (first
         | refine wp2_seq fun K hK => ?_
         | refine M_cons fun K hK => ?_
         | (refine hK _ ?_; clear hK K)
         | refine wp2_region ?_
         | simp (maxSteps := 4000000) (disch := omega) [s0, s1, s5, o, ln, st, hi])
        all_goals first | omega | skip
        all_goals simp [Back, s0, s1, s5, o, ln, st, hi, lq]
      clear hK
      refine wp2_loop (fun n s => ∃ (j : Nat) (X : List Int), s.tm 0 = .row (28, 0) 1 0 (ws.length + 1) ∧ s.tm 1 = .t (ints w) ∧ s.tm 5 = .t (.v (.int .i64 p)) ∧ s.tm 6 = .t (.v (.int .i64 j)) ∧ s.ob (28, 0) = some (.row 1 (wordRow (ws.take j ++ X :: ws.drop j))) ∧ p ≤ j ∧ j ≤ ws.length ∧ n = j) ws.length ?_ ?_
      · exact ⟨ws.length, w, by simp, by simp [t1], by simp, by simp, by simp, by omega, by omega, rfl⟩
      · rintro n s ⟨j, X, s0, s1, s5, s6, o, hj1, hj2, rfl⟩ K' hK'
        have ln : (ws.take n ++ X :: ws.drop n).length = ws.length + 1 := by simp; omega
        by_cases hjp : p < n
        · obtain ⟨j, rfl⟩ : ∃ j, n = j + 1 := ⟨n - 1, by omega⟩
          obtain ⟨e1, e2⟩ := shift_at (ws := ws) (X := X) (j := j) (by omega)
          rw [List.append_nil] at e2
          repeat' (first
           | refine wp2_seq fun K hK => ?_
           | refine M_cons fun K hK => ?_
           | (refine hK _ ?_; clear hK K)
           | (refine hX _ ?_; clear hX hY X Y)
           | (refine hY _ ?_; clear hX hY X Y)
           | refine wp2_block ?_
           | refine wp2_region ?_
           | refine wp2_cond fun X Y hX hY => ?_
           | (refine condK_of (fun c => ?_) (fun c => ?_) <;> (try simp [-List.length_eq_zero_iff] at c))
           | simp (maxSteps := 4000000) (disch := omega) [s0, s1, s5, s6, o, ln, e1, e2, hjp])
          all_goals first | omega | skip
          all_goals exact hK' j _ (by omega) ⟨j, wd ws j, by simp [s0], by simp [s1], by simp [s5], by simp, by simp [e2], by omega, by omega, rfl⟩
        · obtain rfl : n = p := by omega
          repeat' (first
           | refine wp2_seq fun K hK => ?_
           | refine M_cons fun K hK => ?_
           | (refine hK _ ?_; clear hK K)
           | (refine hY _ ?_; clear hX hY X Y)
           | refine wp2_region ?_
           | refine wp2_cond fun X Y hX hY => ?_
           | (refine condK_of (fun c => ?_) (fun c => ?_) <;> (try simp [-List.length_eq_zero_iff] at c))
           | simp (maxSteps := 4000000) (disch := omega) [s0, s1, s5, s6, o, ln])
          all_goals first | omega | skip
          all_goals exact hJ _ X (by simp [s0]) (by simp [s1]) (by simp [s5]) (by simp [o])
  · have hi : insW ws w = ws.take p ++ w :: ws.drop p := by unfold insW; rw [hp, if_neg (fun h => hlt h.1)]
    repeat' (first
     | refine wp2_seq fun K hK => ?_
     | refine M_cons fun K hK => ?_
     | (refine hK _ ?_; clear hK K)
     | (refine hY _ ?_; clear hX hY X Y)
     | refine wp2_block ?_
     | refine wp2_region ?_
     | refine wp2_cond fun X Y hX hY => ?_
     | (refine condK_of (fun c => ?_) (fun c => ?_) <;> (try simp [-List.length_eq_zero_iff] at c))
     | (refine callT_fl (f1) (by simp [St.args, St.arg, t0, t1, o0, hlt] <;> first | rfl | ((repeat' first | rfl | apply And.intro); first | done | fail)) ?_)
     | simp (maxSteps := 4000000) (disch := omega) [t0, t1, o0, hlt])
    all_goals first | omega | skip
    have hJ : ∀ (s : St) (X : List Int), s.tm 0 = .row (28, 0) 1 0 (ws.length + 1) → s.tm 1 = .t (ints w) → s.tm 5 = .t (.v (.int .i64 p)) → s.ob (28, 0) = some (.row 1 (wordRow (ws.take p ++ X :: ws.drop p))) → K s := by
      intro s X s0 s1 s5 o
      have ln : (ws.take p ++ X :: ws.drop p).length = ws.length + 1 := by simp; omega
      have lq : min p ws.length + (ws.length - p + 1) = ws.length + 1 := by omega
      have lt : (ws.take p).length = p := by rw [List.length_take]; omega
      have st : (ws.take p ++ X :: ws.drop p).set p w = ws.take p ++ w :: ws.drop p := by
        rw [List.set_append_right _ _ (by omega), lt, Nat.sub_self, List.set_cons_zero]
      repeat' (first
       | refine wp2_seq fun K hK => ?_
       | refine M_cons fun K hK => ?_
       | (refine hK _ ?_; clear hK K)
       | refine wp2_region ?_
       | simp (maxSteps := 4000000) (disch := omega) [s0, s1, s5, o, ln, st, hi])
      all_goals first | omega | skip
      all_goals simp [Back, s0, s1, s5, o, ln, st, hi, lq]
    clear hK
    refine wp2_loop (fun n s => ∃ (j : Nat) (X : List Int), s.tm 0 = .row (28, 0) 1 0 (ws.length + 1) ∧ s.tm 1 = .t (ints w) ∧ s.tm 5 = .t (.v (.int .i64 p)) ∧ s.tm 6 = .t (.v (.int .i64 j)) ∧ s.ob (28, 0) = some (.row 1 (wordRow (ws.take j ++ X :: ws.drop j))) ∧ p ≤ j ∧ j ≤ ws.length ∧ n = j) ws.length ?_ ?_
    · exact ⟨ws.length, w, by simp, by simp [t1], by simp, by simp, by simp, by omega, by omega, rfl⟩
    · rintro n s ⟨j, X, s0, s1, s5, s6, o, hj1, hj2, rfl⟩ K' hK'
      have ln : (ws.take n ++ X :: ws.drop n).length = ws.length + 1 := by simp; omega
      by_cases hjp : p < n
      · obtain ⟨j, rfl⟩ : ∃ j, n = j + 1 := ⟨n - 1, by omega⟩
        obtain ⟨e1, e2⟩ := shift_at (ws := ws) (X := X) (j := j) (by omega)
        rw [List.append_nil] at e2
        repeat' (first
         | refine wp2_seq fun K hK => ?_
         | refine M_cons fun K hK => ?_
         | (refine hK _ ?_; clear hK K)
         | (refine hX _ ?_; clear hX hY X Y)
         | (refine hY _ ?_; clear hX hY X Y)
         | refine wp2_block ?_
         | refine wp2_region ?_
         | refine wp2_cond fun X Y hX hY => ?_
         | (refine condK_of (fun c => ?_) (fun c => ?_) <;> (try simp [-List.length_eq_zero_iff] at c))
         | simp (maxSteps := 4000000) (disch := omega) [s0, s1, s5, s6, o, ln, e1, e2, hjp])
        all_goals first | omega | skip
        all_goals exact hK' j _ (by omega) ⟨j, wd ws j, by simp [s0], by simp [s1], by simp [s5], by simp, by simp [e2], by omega, by omega, rfl⟩
      · obtain rfl : n = p := by omega
        repeat' (first
         | refine wp2_seq fun K hK => ?_
         | refine M_cons fun K hK => ?_
         | (refine hK _ ?_; clear hK K)
         | (refine hY _ ?_; clear hX hY X Y)
         | refine wp2_region ?_
         | refine wp2_cond fun X Y hX hY => ?_
         | (refine condK_of (fun c => ?_) (fun c => ?_) <;> (try simp [-List.length_eq_zero_iff] at c))
         | simp (maxSteps := 4000000) (disch := omega) [s0, s1, s5, s6, o, ln])
        all_goals first | omega | skip
        all_goals exact hJ _ X (by simp [s0]) (by simp [s1]) (by simp [s5]) (by simp [o])
end Cal

/- spec.l3Words. -/
set_option linter.unusedSimpArgs false
set_option linter.unusedVariables false
namespace Cal
open Go Go.Proofs
set_option maxRecDepth 100000
def mostR (r : Ru) : Nat := if r.only = true then r.seq.length - 1 else r.seq.length
def insStep (ws : List (List Int)) (w : List Int) : List (List Int) := if ws.length ≤ 2000 then insW ws w else ws
def insRun (r : Ru) (ws : List (List Int)) : Nat → List (List Int)
  | 0 => ws
  | n + 1 => insStep (insRun r ws n) (r.seq.take (n + 1))
def wordsN (rs : List Ru) : Nat → List (List Int)
  | 0 => [[]]
  | k + 1 => insRun (nth rs k) (wordsN rs k) (mostR (nth rs k))
def wordsOf (rs : List Ru) : List (List Int) := wordsN rs rs.length
/-- Rising words, not too many, none too long. -/
structure Wsm (ws : List (List Int)) : Prop where
  rise : Short.Rising ws
  len : ws.length ≤ 2001
  each : ∀ w ∈ ws, w.length ≤ 402
theorem Wsm.wds {ws : List (List Int)} (h : Wsm ws) : Wds ws := by
  have := h.len
  refine ⟨h.rise, by omega, fun i hi => ?_⟩
  rw [getD_get hi]
  have := h.each _ (List.getElem_mem hi)
  omega
theorem Wsm.step {ws : List (List Int)} (h : Wsm ws) {w : List Int} (hw : w.length ≤ 402) : Wsm (insStep ws w) := by
  unfold insStep
  split
  · have := (insW_len ws w).1
    refine ⟨insW_rise h.rise, by omega, fun x hx => ?_⟩
    rcases mem_insW.1 hx with hx | rfl
    · exact h.each x hx
    · exact hw
  · exact h
theorem Wsm.run {ws : List (List Int)} (h : Wsm ws) {r : Ru} (hr : r.seq.length ≤ 402) : ∀ n, Wsm (insRun r ws n)
  | 0 => h
  | n + 1 => (h.run hr n).step (by rw [List.length_take]; omega)
theorem wordsN_sm {rs : List Ru} (hg : RGood rs) : ∀ k, k ≤ rs.length → Wsm (wordsN rs k)
  | 0, _ => ⟨by unfold wordsN Short.Rising; simp, by simp [wordsN], by simp [wordsN]⟩
  | k + 1, hk => (wordsN_sm hg k (by omega)).run (hg.2 k (by omega)).2.1 _
/-- The code of spec.l3Words. -/
def k91 : Code1 :=
 (.seq
 (.region [] false ([]) [
 ⟨some 2,Op.assign (Operand.const (Value.slice none 0 0)),none⟩])
 (.seq
 (.region [7,9] false ([]) [
 ⟨some 7,Op.buildSlice 22 0 #[],none⟩,
 ⟨some 8,Op.build 138 #[(0,Operand.tmp 7)],none⟩,
 ⟨some 9,Op.buildSlice 135 1 #[(0,Operand.tmp 8)],none⟩,
 ⟨some 3,Op.assign (Operand.tmp 9),none⟩])
 (.seq
 (.seq
 (.region [] false ([]) [
 ⟨some 4,Op.assign (Operand.const (Value.int IntKind.i64 0)),none⟩])
 (.block 0
 (.loop
 (.seq
 (.seq
 (.region [] false ([]) [
 ⟨some 10,Op.move (Operand.tmp 4),none⟩,
 ⟨some 11,Op.move (Operand.tmp 0),none⟩,
 ⟨some 12,Op.call {callee:=Callee.builtin Builtin.len,args:=#[Operand.tmp 11],argTypes:=#[65]},none⟩,
 ⟨some 13,Op.binOp BinOp.lss 3 (Operand.tmp 10) (Operand.tmp 12) 3,none⟩])
 (.cond (Operand.tmp 13)
 .skip
 (.exit 0)))
 (.seq
 (.block 1
 (.seq
 (.region [] false ([]) [
 ⟨some 16,Op.move (Operand.tmp 0),none⟩,
 ⟨some 17,Op.move (Operand.tmp 4),none⟩,
 ⟨some 18,Op.indexAddr 65 (Operand.tmp 16) (Operand.tmp 17),none⟩,
 ⟨some 19,Op.fieldAddr 98 (Operand.tmp 18) 2,none⟩,
 ⟨some 20,Op.load 22 (Operand.tmp 19),none⟩,
 ⟨some 21,Op.call {callee:=Callee.builtin Builtin.len,args:=#[Operand.tmp 20],argTypes:=#[22]},none⟩,
 ⟨some 5,Op.assign (Operand.tmp 21),none⟩])
 (.seq
 (.seq
 (.region [] false ([]) [
 ⟨some 22,Op.move (Operand.tmp 0),none⟩,
 ⟨some 23,Op.move (Operand.tmp 4),none⟩,
 ⟨some 24,Op.indexAddr 65 (Operand.tmp 22) (Operand.tmp 23),none⟩,
 ⟨some 25,Op.fieldAddr 98 (Operand.tmp 24) 1,none⟩,
 ⟨some 26,Op.load 4 (Operand.tmp 25),none⟩])
 (.cond (Operand.tmp 26)
 (.region [] false ([]) [
 ⟨some 27,Op.move (Operand.tmp 5),none⟩,
 ⟨some 28,Op.binOp BinOp.sub 3 (Operand.tmp 27) (Operand.const (Value.int IntKind.i64 1)) 3,none⟩,
 ⟨some 5,Op.assign (Operand.tmp 28),none⟩])
 .skip))
 (.seq
 (.region [] false ([]) [
 ⟨some 6,Op.assign (Operand.const (Value.int IntKind.i64 1)),none⟩])
 (.block 2
 (.loop
 (.seq
 (.seq
 (.region [] false ([]) [
 ⟨some 29,Op.move (Operand.tmp 6),none⟩,
 ⟨some 30,Op.move (Operand.tmp 5),none⟩,
 ⟨some 31,Op.binOp BinOp.leq 3 (Operand.tmp 29) (Operand.tmp 30) 3,none⟩])
 (.cond (Operand.tmp 31)
 .skip
 (.exit 2)))
 (.seq
 (.block 3
 (.seq
 (.region [] false ([]) [
 ⟨some 34,Op.move (Operand.tmp 3),none⟩,
 ⟨some 35,Op.call {callee:=Callee.builtin Builtin.len,args:=#[Operand.tmp 34],argTypes:=#[135]},none⟩,
 ⟨some 36,Op.binOp BinOp.leq 3 (Operand.tmp 35) (Operand.const (Value.int IntKind.i64 2000)) 3,none⟩])
 (.cond (Operand.tmp 36)
 (.region [45] false ([]) [
 ⟨some 37,Op.move (Operand.tmp 3),none⟩,
 ⟨some 38,Op.move (Operand.tmp 0),none⟩,
 ⟨some 39,Op.move (Operand.tmp 4),none⟩,
 ⟨some 40,Op.indexAddr 65 (Operand.tmp 38) (Operand.tmp 39),none⟩,
 ⟨some 41,Op.fieldAddr 98 (Operand.tmp 40) 2,none⟩,
 ⟨some 42,Op.load 22 (Operand.tmp 41),none⟩,
 ⟨some 43,Op.move (Operand.tmp 6),none⟩,
 ⟨some 44,Op.slice 22 (Operand.tmp 42) none (some (Operand.tmp 43)) none,none⟩,
 ⟨some 45,Op.call {callee:=Callee.value (Operand.func 151),args:=#[Operand.tmp 37,Operand.tmp 44],argTypes:=#[135,22]},none⟩,
 ⟨some 3,Op.assign (Operand.tmp 45),none⟩])
 .skip)))
 (.region [] false ([]) [
 ⟨some 32,Op.move (Operand.tmp 6),none⟩,
 ⟨some 33,Op.binOp BinOp.add 3 (Operand.tmp 32) (Operand.const (Value.int IntKind.i64 1)) 3,none⟩,
 ⟨some 6,Op.assign (Operand.tmp 33),none⟩])))))))))
 (.region [] false ([]) [
 ⟨some 14,Op.move (Operand.tmp 4),none⟩,
 ⟨some 15,Op.binOp BinOp.add 3 (Operand.tmp 14) (Operand.const (Value.int IntKind.i64 1)) 3,none⟩,
 ⟨some 4,Op.assign (Operand.tmp 15),none⟩]))))))
 (.seq
 (.region [] false ([]) [
 ⟨some 46,Op.move (Operand.tmp 3),none⟩,
 ⟨some 2,Op.assign (Operand.tmp 46),none⟩])
 .ret))))
set_option maxHeartbeats 0 in
theorem words_c {rs : List Ru} (hg : RGood rs) : CallsF Try.prog 91 [.val (recs encRu rs)] (.own 1 (wordRow (wordsOf rs))) [] := by
  have l1 := hg.1
  refine callsF_of_wp2 (fn := Try.f91) (k := k91) (fun _ => []) mixed (by kernel_rfl) rfl (by kernel_rfl) (by kernel_rfl) (by kernel_rfl) rfl (by simp [Try.f91]) (by simp [Arg.like]) ?_
  generalize hst : St.enter [.val (recs encRu rs)] = st0
  have t0 : st0.tm 0 = .t (recs encRu rs) := by rw [← hst]; rfl
  clear hst
  unfold k91
  have w0 : ([[T.sl []]] : List (List T)) = wordRow [[]] := rfl
  repeat' (first
   | refine wp2_seq fun K hK => ?_
   | refine M_cons fun K hK => ?_
   | (refine hK _ ?_; clear hK K)
   | refine wp2_block ?_
   | refine wp2_region ?_
   | simp (maxSteps := 4000000) (disch := omega) [t0, w0])
  all_goals first | omega | skip
  have hJ : ∀ s, s.tm 3 = .row (9, 0) 1 0 (wordsOf rs).length → s.ob (9, 0) = some (.row 1 (wordRow (wordsOf rs))) → K s := by
    intro s s3 o
    repeat' (first
     | refine wp2_seq fun K hK => ?_
     | refine M_cons fun K hK => ?_
     | (refine hK _ ?_; clear hK K)
     | refine wp2_region ?_
     | simp (maxSteps := 4000000) (disch := omega) [s3, o])
    all_goals try (simp [s3, o, Back]; done)
    all_goals simp [Back, s3, o]
  clear hK
  refine wp2_loop (fun n s => ∃ k : Nat, s.tm 0 = .t (recs encRu rs) ∧ s.tm 3 = .row (9, 0) 1 0 (wordsN rs k).length ∧ s.ob (9, 0) = some (.row 1 (wordRow (wordsN rs k))) ∧ s.tm 4 = .t (.v (.int .i64 k)) ∧ k ≤ rs.length ∧ n = rs.length - k) rs.length ?_ ?_
  · exact ⟨0, by simp [t0], by simp [wordsN], by simp [wordsN, w0], by simp, by omega, rfl⟩
  · rintro n s ⟨k, s0, s3, o, s4, hk, rfl⟩ K' hK'
    by_cases hlt : k < rs.length
    · have hf := hg.2 k hlt
      have sm := wordsN_sm hg k hk
      have nx : wordsN rs (k + 1) = insRun (nth rs k) (wordsN rs k) (mostR (nth rs k)) := rfl
      generalize hr : nth rs (k : Int) = r at *
      generalize hW : wordsN rs k = W at *
      obtain ⟨h1, h2, h3⟩ := hf
      have done : ∀ s' : St, s'.tm 0 = .t (recs encRu rs) → s'.tm 3 = .row (9, 0) 1 0 (insRun r W (mostR r)).length → s'.ob (9, 0) = some (.row 1 (wordRow (insRun r W (mostR r)))) → s'.tm 4 = .t (.v (.int .i64 (k + 1))) → K' s' := fun s' a b c d =>
        hK' (rs.length - (k + 1)) _ (by omega) ⟨k + 1, a, by rw [nx]; exact b, by rw [nx]; exact c, by simpa using d, by omega, rfl⟩
      clear hK' nx
      have hmost : mostR r ≤ 402 ∧ mostR r ≤ r.seq.length := by unfold mostR; split <;> omega
      cases ho : r.only with
      | true =>
        have em : (r.seq.length : Int) - 1 = (mostR r : Int) := by unfold mostR; rw [if_pos ho]; omega
        repeat' (first
         | refine wp2_seq fun K hK => ?_
         | refine M_cons fun K hK => ?_
         | (refine hK _ ?_; clear hK K)
         | (refine hX _ ?_; clear hX hY X Y)
         | refine wp2_block ?_
         | refine wp2_region ?_
         | refine wp2_cond fun X Y hX hY => ?_
         | (refine condK_of (fun c => ?_) (fun c => ?_) <;> (try simp [-List.length_eq_zero_iff] at c))
         | simp (maxSteps := 4000000) (disch := omega) [s0, s3, o, s4, hlt, hr, encRu, ho, em])
        all_goals first | omega | skip
        refine wp2_loop (fun n s => ∃ j : Nat, s.tm 0 = .t (recs encRu rs) ∧ s.tm 3 = .row (9, 0) 1 0 (insRun r W j).length ∧ s.ob (9, 0) = some (.row 1 (wordRow (insRun r W j))) ∧ s.tm 4 = .t (.v (.int .i64 k)) ∧ s.tm 5 = .t (.v (.int .i64 (mostR r))) ∧ s.tm 6 = .t (.v (.int .i64 (j + 1))) ∧ j ≤ mostR r ∧ n = mostR r - j) (mostR r) ?_ ?_
        · exact ⟨0, by simp [s0], by simp [s3, insRun], by simp [o, insRun], by simp [s4], by simp [em], by simp, by omega, rfl⟩
        · rintro n s ⟨j, s0, s3, o, s4, s5, s6, hj, rfl⟩ K2 hK2
          have smj := sm.run h2 j
          have nxj : insRun r W (j + 1) = insStep (insRun r W j) (r.seq.take (j + 1)) := rfl
          generalize hU : insRun r W j = U at *
          have lu := smj.len
          by_cases hjm : j < mostR r
          · by_cases hu : U.length ≤ 2000
            · have f1 := insert_c smj.wds (w := r.seq.take (j + 1)) (by omega) (by rw [List.length_take]; omega)
              have e1 : insStep U (r.seq.take (j + 1)) = insW U (r.seq.take (j + 1)) := by unfold insStep; rw [if_pos hu]
              rw [e1] at nxj
              repeat' (first
               | refine wp2_seq fun K hK => ?_
               | refine M_cons fun K hK => ?_
               | (refine hK _ ?_; clear hK K)
               | (clear hK K; refine hK _ ?_; clear hK K)
               | (refine hX _ ?_; clear hX hY X Y)
               | (refine hY _ ?_; clear hX hY X Y)
               | refine wp2_block ?_
               | refine wp2_canon (ops := ⟨some 32, _, _⟩ :: _) [(3, 9)] ?_
               | refine wp2_region ?_
               | refine wp2_cond fun X Y hX hY => ?_
               | (refine condK_of (fun c => ?_) (fun c => ?_) <;> (try simp [-List.length_eq_zero_iff] at c))
               | (refine callT_gen false (f1) (by simp) (by simp [St.args, St.arg, s0, s3, o, s4, s5, s6, hlt, hr, encRu, hjm, hu] <;> first | rfl | ((repeat' first | rfl | apply And.intro); first | done | fail)) (by simp [apartArgs, mutsOf, noRow]) (by simp [callFrz, valsOf, outEff]) ?_)
               | simp (maxSteps := 4000000) (disch := omega) [s0, s3, o, s4, s5, s6, hlt, hr, encRu, hjm, hu])
              all_goals first | omega | skip
              all_goals exact hK2 (mostR r - (j + 1)) _ (by omega) ⟨j + 1, by simp [s0], by simp [nxj], by simp [nxj], by simp [s4], by simp [s5], by simp, by omega, rfl⟩
            · have e1 : insStep U (r.seq.take (j + 1)) = U := by unfold insStep; rw [if_neg hu]
              rw [e1] at nxj
              repeat' (first
               | refine wp2_seq fun K hK => ?_
               | refine M_cons fun K hK => ?_
               | (refine hK _ ?_; clear hK K)
               | (clear hK K; refine hK _ ?_; clear hK K)
               | (refine hX _ ?_; clear hX hY X Y)
               | (refine hY _ ?_; clear hX hY X Y)
               | refine wp2_block ?_
               | refine wp2_region ?_
               | refine wp2_cond fun X Y hX hY => ?_
               | (refine condK_of (fun c => ?_) (fun c => ?_) <;> (try simp [-List.length_eq_zero_iff] at c))
               | simp (maxSteps := 4000000) (disch := omega) [s0, s3, o, s4, s5, s6, hlt, hr, encRu, hjm, hu])
              all_goals first | omega | skip
              all_goals exact hK2 (mostR r - (j + 1)) _ (by omega) ⟨j + 1, by simp [s0], by simp [s3, nxj], by simp [o, nxj], by simp [s4], by simp [s5], by simp, by omega, rfl⟩
          · obtain rfl : j = mostR r := by omega
            repeat' (first
             | refine wp2_seq fun K hK => ?_
             | refine M_cons fun K hK => ?_
             | (refine hK _ ?_; clear hK K)
             | (clear hK K; refine hK _ ?_; clear hK K)
             | (refine hX _ ?_; clear hX hY X Y)
             | (refine hY _ ?_; clear hX hY X Y)
             | refine wp2_block ?_
             | refine wp2_region ?_
             | refine wp2_cond fun X Y hX hY => ?_
             | (refine condK_of (fun c => ?_) (fun c => ?_) <;> (try simp [-List.length_eq_zero_iff] at c))
             | simp (maxSteps := 4000000) (disch := omega) [s0, s3, o, s4, s5, s6])
            all_goals first | omega | skip
            all_goals exact done _ (by simp [s0]) (by simp [s3, hU]) (by simp [o, hU]) (by simp)
      | false =>
        have em : r.seq.length = mostR r := by unfold mostR; rw [if_neg (by rw [ho]; simp)]
        repeat' (first
         | refine wp2_seq fun K hK => ?_
         | refine M_cons fun K hK => ?_
         | (refine hK _ ?_; clear hK K)
         | (refine hX _ ?_; clear hX hY X Y)
         | (refine hY _ ?_; clear hX hY X Y)
         | refine wp2_block ?_
         | refine wp2_region ?_
         | refine wp2_cond fun X Y hX hY => ?_
         | (refine condK_of (fun c => ?_) (fun c => ?_) <;> (try simp [-List.length_eq_zero_iff] at c))
         | simp (maxSteps := 4000000) (disch := omega) [s0, s3, o, s4, hlt, hr, encRu, ho])
        all_goals first | omega | skip
        refine wp2_loop (fun n s => ∃ j : Nat, s.tm 0 = .t (recs encRu rs) ∧ s.tm 3 = .row (9, 0) 1 0 (insRun r W j).length ∧ s.ob (9, 0) = some (.row 1 (wordRow (insRun r W j))) ∧ s.tm 4 = .t (.v (.int .i64 k)) ∧ s.tm 5 = .t (.v (.int .i64 (mostR r))) ∧ s.tm 6 = .t (.v (.int .i64 (j + 1))) ∧ j ≤ mostR r ∧ n = mostR r - j) (mostR r) ?_ ?_
        · exact ⟨0, by simp [s0], by simp [s3, insRun], by simp [o, insRun], by simp [s4], by simp [← em], by simp, by omega, rfl⟩
        · rintro n s ⟨j, s0, s3, o, s4, s5, s6, hj, rfl⟩ K2 hK2
          have smj := sm.run h2 j
          have nxj : insRun r W (j + 1) = insStep (insRun r W j) (r.seq.take (j + 1)) := rfl
          generalize hU : insRun r W j = U at *
          have lu := smj.len
          by_cases hjm : j < mostR r
          · by_cases hu : U.length ≤ 2000
            · have f1 := insert_c smj.wds (w := r.seq.take (j + 1)) (by omega) (by rw [List.length_take]; omega)
              have e1 : insStep U (r.seq.take (j + 1)) = insW U (r.seq.take (j + 1)) := by unfold insStep; rw [if_pos hu]
              rw [e1] at nxj
              repeat' (first
               | refine wp2_seq fun K hK => ?_
               | refine M_cons fun K hK => ?_
               | (refine hK _ ?_; clear hK K)
               | (clear hK K; refine hK _ ?_; clear hK K)
               | (refine hX _ ?_; clear hX hY X Y)
               | (refine hY _ ?_; clear hX hY X Y)
               | refine wp2_block ?_
               | refine wp2_canon (ops := ⟨some 32, _, _⟩ :: _) [(3, 9)] ?_
               | refine wp2_region ?_
               | refine wp2_cond fun X Y hX hY => ?_
               | (refine condK_of (fun c => ?_) (fun c => ?_) <;> (try simp [-List.length_eq_zero_iff] at c))
               | (refine callT_gen false (f1) (by simp) (by simp [St.args, St.arg, s0, s3, o, s4, s5, s6, hlt, hr, encRu, hjm, hu] <;> first | rfl | ((repeat' first | rfl | apply And.intro); first | done | fail)) (by simp [apartArgs, mutsOf, noRow]) (by simp [callFrz, valsOf, outEff]) ?_)
               | simp (maxSteps := 4000000) (disch := omega) [s0, s3, o, s4, s5, s6, hlt, hr, encRu, hjm, hu])
              all_goals first | omega | skip
              all_goals exact hK2 (mostR r - (j + 1)) _ (by omega) ⟨j + 1, by simp [s0], by simp [nxj], by simp [nxj], by simp [s4], by simp [s5], by simp, by omega, rfl⟩
            · have e1 : insStep U (r.seq.take (j + 1)) = U := by unfold insStep; rw [if_neg hu]
              rw [e1] at nxj
              repeat' (first
               | refine wp2_seq fun K hK => ?_
               | refine M_cons fun K hK => ?_
               | (refine hK _ ?_; clear hK K)
               | (clear hK K; refine hK _ ?_; clear hK K)
               | (refine hX _ ?_; clear hX hY X Y)
               | (refine hY _ ?_; clear hX hY X Y)
               | refine wp2_block ?_
               | refine wp2_region ?_
               | refine wp2_cond fun X Y hX hY => ?_
               | (refine condK_of (fun c => ?_) (fun c => ?_) <;> (try simp [-List.length_eq_zero_iff] at c))
               | simp (maxSteps := 4000000) (disch := omega) [s0, s3, o, s4, s5, s6, hlt, hr, encRu, hjm, hu])
              all_goals first | omega | skip
              all_goals exact hK2 (mostR r - (j + 1)) _ (by omega) ⟨j + 1, by simp [s0], by simp [s3, nxj], by simp [o, nxj], by simp [s4], by simp [s5], by simp, by omega, rfl⟩
          · obtain rfl : j = mostR r := by omega
            repeat' (first
             | refine wp2_seq fun K hK => ?_
             | refine M_cons fun K hK => ?_
             | (refine hK _ ?_; clear hK K)
             | (clear hK K; refine hK _ ?_; clear hK K)
             | (refine hX _ ?_; clear hX hY X Y)
             | (refine hY _ ?_; clear hX hY X Y)
             | refine wp2_block ?_
             | refine wp2_region ?_
             | refine wp2_cond fun X Y hX hY => ?_
             | (refine condK_of (fun c => ?_) (fun c => ?_) <;> (try simp [-List.length_eq_zero_iff] at c))
             | simp (maxSteps := 4000000) (disch := omega) [s0, s3, o, s4, s5, s6])
            all_goals first | omega | skip
            all_goals exact done _ (by simp [s0]) (by simp [s3, hU]) (by simp [o, hU]) (by simp)
    · obtain rfl : k = rs.length := by omega
      repeat' (first
       | refine wp2_seq fun K hK => ?_
       | refine M_cons fun K hK => ?_
       | (refine hK _ ?_; clear hK K)
       | (refine hY _ ?_; clear hX hY X Y)
       | refine wp2_region ?_
       | refine wp2_cond fun X Y hX hY => ?_
       | (refine condK_of (fun c => ?_) (fun c => ?_) <;> (try simp [-List.length_eq_zero_iff] at c))
       | simp (maxSteps := 4000000) (disch := omega) [s0, s3, o, s4])
      all_goals first | omega | skip
      exact hJ _ (by simp [s3]; rfl) (by simp [o]; rfl)
end Cal

/- What is forced and what is forbidden, along the failure links. -/
set_option linter.unusedSimpArgs false
set_option linter.unusedVariables false
namespace Cal
open Go Go.Proofs Auto AC
/-- Where the failure link of a word leads. -/
def linkW (ws : List (List Int)) (w : List Int) : List Int := LS (isWord ws) w.tail
theorem suf_link {ws : List (List Int)} {w b : List Int} (hw : w ≠ []) (hb : b ∈ ws) : b <:+ w ↔ b = w ∨ b <:+ linkW ws w := by
  cases w with
  | nil => exact absurd rfl hw
  | cons x l =>
    unfold linkW
    rw [List.tail_cons, List.suffix_cons_iff]
    constructor
    · rintro (h | h)
      · exact .inl h
      · exact .inr (LS_max h (isWord_iff.2 hb))
    · rintro (h | h)
      · exact .inl h
      · exact .inr (h.trans (LS_suffix _ _))
def badE (w : List Int) (r : Ru) : Bool := !r.only && decide (r.seq = w)
/-- All the words that the rules need are there. -/
def Has (ws : List (List Int)) (rs : List Ru) : Prop := ∀ r ∈ rs, (r.only = true → preR r ∈ ws) ∧ (r.only = false → r.seq ∈ ws)
theorem must_link {ws : List (List Int)} {rs : List Ru} (hp : ∀ r ∈ rs, 0 ≤ lastR r) (hh : Has ws rs) {w : List Int} (hw : w ≠ []) : mustI rs w = bothI (mustOf (pE w) rs) (mustI rs (linkW ws w)) := by
  rw [mustI_of hp, mustI_of hp, ← mustOf_or]
  refine mustOf_congr fun r hr => ?_
  unfold pM pE
  cases ho : r.only with
  | false => rfl
  | true =>
    have := suf_link hw ((hh r hr).1 ho)
    unfold sufB
    rw [Bool.true_and, Bool.true_and, Bool.true_and, ← Bool.decide_or]
    exact decide_eq_decide.2 this
theorem must_nil {rs : List Ru} (hp : ∀ r ∈ rs, 0 ≤ lastR r) : mustI rs [] = mustOf (pE []) rs := by
  rw [mustI_of hp]
  refine mustOf_congr fun r hr => ?_
  unfold pM pE sufB
  congr 1
  exact decide_eq_decide.2 List.suffix_nil
theorem any_or {α : Type} (p q : α → Bool) : ∀ l : List α, l.any (fun x => p x || q x) = (l.any p || l.any q)
  | [] => rfl
  | x :: l => by
    rw [List.any_cons, List.any_cons, List.any_cons, any_or p q l]
    cases p x <;> cases q x <;> cases l.any p <;> rfl
theorem any_congr' {α : Type} {p q : α → Bool} : ∀ {l : List α}, (∀ x ∈ l, p x = q x) → l.any p = l.any q
  | [], _ => rfl
  | x :: l, h => by
    rw [List.any_cons, List.any_cons, h x (by simp), any_congr' fun y hy => h y (by simp [hy])]
theorem bad_link {ws : List (List Int)} {rs : List Ru} (hh : Has ws rs) {w : List Int} (hw : w ≠ []) : badB rs w = (rs.any (badE w) || badB rs (linkW ws w)) := by
  unfold badB
  rw [← any_or]
  refine any_congr' fun r hr => ?_
  unfold badR badE
  cases ho : r.only with
  | true => rfl
  | false =>
    have := suf_link hw ((hh r hr).2 ho)
    unfold sufB
    rw [Bool.not_false, Bool.true_and, Bool.true_and, Bool.true_and, ← Bool.decide_or]
    exact decide_eq_decide.2 this
theorem bad_nil {rs : List Ru} : badB rs [] = rs.any (badE []) := by
  unfold badB
  refine any_congr' fun r hr => ?_
  unfold badR badE sufB
  congr 1
  exact decide_eq_decide.2 List.suffix_nil
/-! the words that are there -/
theorem ins_sub (r : Ru) (ws : List (List Int)) : ∀ n, ∀ x ∈ ws, x ∈ insRun r ws n
  | 0, x, h => h
  | n + 1, x, h => by
    have := ins_sub r ws n x h
    unfold insRun insStep
    split
    · exact mem_insW.2 (.inl this)
    · exact this
theorem ins_len (r : Ru) (ws : List (List Int)) : ∀ n, ws.length ≤ (insRun r ws n).length
  | 0 => Nat.le_refl _
  | n + 1 => by
    have := ins_len r ws n
    unfold insRun insStep
    split
    · have := (insW_len (insRun r ws n) (r.seq.take (n + 1))).2
      omega
    · exact this
theorem ins_mem (r : Ru) (ws : List (List Int)) : ∀ n, (insRun r ws n).length ≤ 2000 → ∀ j, 1 ≤ j → j ≤ n → r.seq.take j ∈ insRun r ws n
  | 0, _, j, h1, h2 => by omega
  | n + 1, hl, j, h1, h2 => by
    have sh : insRun r ws (n + 1) = insStep (insRun r ws n) (r.seq.take (n + 1)) := rfl
    by_cases hc : (insRun r ws n).length ≤ 2000
    · rw [sh]
      unfold insStep
      rw [if_pos hc]
      by_cases e : j = n + 1
      · subst e
        exact mem_insW.2 (.inr rfl)
      · exact mem_insW.2 (.inl (ins_mem r ws n hc j h1 (by omega)))
    · rw [sh] at hl
      unfold insStep at hl
      rw [if_neg hc] at hl
      exact absurd hl hc
theorem wordsN_len {rs : List Ru} : ∀ {k n : Nat}, k ≤ n → (wordsN rs k).length ≤ (wordsN rs n).length
  | k, 0, h => by
    obtain rfl : k = 0 := by omega
    exact Nat.le_refl _
  | k, n + 1, h => by
    by_cases e : k = n + 1
    · subst e; exact Nat.le_refl _
    · exact Nat.le_trans (wordsN_len (by omega)) (ins_len _ _ _)
theorem wordsN_sub {rs : List Ru} : ∀ {k n : Nat}, k ≤ n → ∀ x ∈ wordsN rs k, x ∈ wordsN rs n
  | k, 0, h, x, hx => by
    obtain rfl : k = 0 := by omega
    exact hx
  | k, n + 1, h, x, hx => by
    by_cases e : k = n + 1
    · subst e; exact hx
    · exact ins_sub _ _ _ _ (wordsN_sub (by omega) x hx)
theorem words_has {rs : List Ru} (hg : RGood rs) (hl : (wordsOf rs).length ≤ 2000) : Has (wordsOf rs) rs := by
  intro r hr
  obtain ⟨i, hi, rfl⟩ := mem_nth.1 hr
  have f := hg.2 i hi
  have hm : ∀ j, 1 ≤ j → j ≤ mostR (nth rs i) → (nth rs i).seq.take j ∈ wordsOf rs := by
    intro j h1 h2
    refine wordsN_sub (k := i + 1) (by omega) _ (ins_mem _ _ _ ?_ j h1 h2)
    exact Nat.le_trans (wordsN_len (rs := rs) (k := i + 1) (n := rs.length) (by omega)) hl
  constructor
  · intro ho
    have := hm ((nth rs i).seq.length - 1) (by have := f.1; omega) (by unfold mostR; rw [if_pos ho]; exact Nat.le_refl _)
    exact this
  · intro ho
    have := hm (nth rs i).seq.length (by have := f.1; omega) (by unfold mostR; rw [if_neg (by rw [ho]; simp)]; exact Nat.le_refl _)
    rwa [List.take_length] at this
end Cal

/- spec.BuildAuto. -/
set_option linter.unusedSimpArgs false
set_option linter.unusedVariables false
namespace Cal
open Go Go.Proofs Auto AC
set_option maxRecDepth 100000
def tabI (f : Nat → Int) (n : Nat) : List Int := (List.range n).map f
def tabB (f : Nat → Bool) (n : Nat) : List Bool := (List.range n).map f
@[simp] theorem tabI_len (f : Nat → Int) (n : Nat) : (tabI f n).length = n := by simp [tabI]
@[simp] theorem tabB_len (f : Nat → Bool) (n : Nat) : (tabB f n).length = n := by simp [tabB]
theorem tabI_succ (f : Nat → Int) (n : Nat) : tabI f n ++ [f n] = tabI f (n + 1) := by unfold tabI; rw [List.range_succ, List.map_append]; rfl
theorem tabB_succ (f : Nat → Bool) (n : Nat) : tabB f n ++ [f n] = tabB f (n + 1) := by unfold tabB; rw [List.range_succ, List.map_append]; rfl
def parW (ws : List (List Int)) (i : Nat) : Int := if (wd ws i).length = 0 then -1 else stI ws ((wd ws i).take ((wd ws i).length - 1))
def lastW (ws : List (List Int)) (i : Nat) : Int := if (wd ws i).length = 0 then -1 else rd (wd ws i) ((wd ws i).length - 1 : Nat)
def failW (ws : List (List Int)) (i : Nat) : Int := if (wd ws i).length = 0 then -1 else stI ws (LS (isWord ws) ((wd ws i).drop 1))
def mustW (rs : List Ru) (ws : List (List Int)) (i : Nat) : Int := mustI rs (wd ws i)
def badW (rs : List Ru) (ws : List (List Int)) (i : Nat) : Bool := badB rs (wd ws i)
def rvR (d n : Nat) : AV := if n = 0 then .t (.v (.slice none 0 0)) else .row (d, 0) 1 0 n
theorem nil_word (rs : List Ru) : ∀ k, [] ∈ wordsN rs k
  | 0 => by simp [wordsN]
  | k + 1 => by
    have run : ∀ n, [] ∈ insRun (nth rs k) (wordsN rs k) n := by
      intro n
      induction n with
      | zero => exact nil_word rs k
      | succ n ih =>
        unfold insRun insStep
        split
        · exact mem_insW.2 (.inl ih)
        · exact ih
    exact run _
def appendRB (o : Option Ob) (d : Nat) (id : Id) (n : Nat) (es : List (List T)) : Option (AV × Eff) := match o with
  | some (.row sz fs) => if sz = 1 ∧ n = fs.length ∧ (n + es.length) * 1 ≤ lim then some (.row (d, 0) sz 0 (n + es.length), [(id, none), ((d, 0), some (.row sz (fs ++ es)))]) else none
  | _ => none
@[simp] theorem appendA_bool (d : Nat) (st : St) (id : Id) (n : Nat) (es : List (List T)) : appendA d st ⟨false, 1, 1, [.bool false]⟩ (.row id 1 0 n) es = appendRB (st.ob id) d id n es := rfl
@[simp] theorem appendRB_row (d : Nat) (id : Id) (l : List Bool) (x : Bool) (n : Nat) (h1 : n = l.length) (h2 : n ≤ 1000000) : appendRB (some (.row 1 (boolRow l))) d id n (boolRow [x]) = some (.row (d, 0) 1 0 (n + 1), [(id, none), ((d, 0), some (.row 1 (boolRow (l ++ [x]))))]) := by
  subst h1
  have : l.length + 1 ≤ lim := by unfold lim; omega
  simp [appendRB, this]
@[simp] theorem appendA_bnil (d : Nat) (st : St) (x : Bool) : appendA d st ⟨false, 1, 1, [.bool false]⟩ (.t (.v (.slice none 0 0))) (boolRow [x]) = some (.row (d, 0) 1 0 1, [((d, 0), some (.row 1 (boolRow [x])))]) := rfl
/-- The code of spec.BuildAuto. -/
def k30 : Code1 :=
 (.seq
 (.region [2] false ([]) [
 ⟨some 2,Op.alloc 63,none⟩])
 (.seq
 (.seq
 (.region [8] false ([]) [
 ⟨some 7,Op.move (Operand.tmp 0),none⟩,
 ⟨some 8,Op.call {callee:=Callee.value (Operand.func 90),args:=#[Operand.tmp 7],argTypes:=#[65]},none⟩,
 ⟨some 9,Op.unOp UnOp.not 4 (Operand.tmp 8),none⟩])
 (.cond (Operand.tmp 9)
 (.seq
 (.region [] false ([]) [
 ⟨some 10,Op.build 63 #[(0,Operand.const (Value.int IntKind.i64 12))],none⟩,
 ⟨none,Op.store 63 (Operand.tmp 2) (Operand.tmp 10),none⟩])
 .ret)
 .skip))
 (.seq
 (.region [12] false ([]) [
 ⟨some 11,Op.move (Operand.tmp 0),none⟩,
 ⟨some 12,Op.call {callee:=Callee.value (Operand.func 91),args:=#[Operand.tmp 11],argTypes:=#[65]},none⟩,
 ⟨some 3,Op.assign (Operand.tmp 12),none⟩])
 (.seq
 (.seq
 (.region [] false ([]) [
 ⟨some 13,Op.move (Operand.tmp 3),none⟩,
 ⟨some 14,Op.call {callee:=Callee.builtin Builtin.len,args:=#[Operand.tmp 13],argTypes:=#[135]},none⟩,
 ⟨some 15,Op.binOp BinOp.gtr 3 (Operand.tmp 14) (Operand.const (Value.int IntKind.i64 2000)) 3,none⟩])
 (.cond (Operand.tmp 15)
 (.seq
 (.region [] false ([]) [
 ⟨some 16,Op.build 63 #[(0,Operand.const (Value.int IntKind.i64 13))],none⟩,
 ⟨none,Op.store 63 (Operand.tmp 2) (Operand.tmp 16),none⟩])
 .ret)
 .skip))
 (.seq
 (.region [4] false ([]) [
 ⟨some 17,Op.build 61 #[],none⟩,
 ⟨some 4,Op.alloc 61,none⟩,
 ⟨none,Op.store 61 (Operand.tmp 4) (Operand.tmp 17),none⟩])
 (.seq
 (.seq
 (.region [] false ([]) [
 ⟨some 5,Op.assign (Operand.const (Value.int IntKind.i64 0)),none⟩])
 (.block 0
 (.loop
 (.seq
 (.seq
 (.region [] false ([]) [
 ⟨some 18,Op.move (Operand.tmp 5),none⟩,
 ⟨some 19,Op.move (Operand.tmp 3),none⟩,
 ⟨some 20,Op.call {callee:=Callee.builtin Builtin.len,args:=#[Operand.tmp 19],argTypes:=#[135]},none⟩,
 ⟨some 21,Op.binOp BinOp.lss 3 (Operand.tmp 18) (Operand.tmp 20) 3,none⟩])
 (.cond (Operand.tmp 21)
 .skip
 (.exit 0)))
 (.seq
 (.block 1
 (.seq
 (.region [] false ([]) [
 ⟨some 24,Op.move (Operand.tmp 3),none⟩,
 ⟨some 25,Op.move (Operand.tmp 5),none⟩,
 ⟨some 26,Op.indexAddr 135 (Operand.tmp 24) (Operand.tmp 25),none⟩,
 ⟨some 27,Op.fieldAddr 138 (Operand.tmp 26) 0,none⟩,
 ⟨some 28,Op.load 22 (Operand.tmp 27),none⟩,
 ⟨some 6,Op.assign (Operand.tmp 28),none⟩])
 (.seq
 (.seq
 (.region [] false ([]) [
 ⟨some 29,Op.move (Operand.tmp 6),none⟩,
 ⟨some 30,Op.call {callee:=Callee.builtin Builtin.len,args:=#[Operand.tmp 29],argTypes:=#[22]},none⟩,
 ⟨some 31,Op.binOp BinOp.eql 3 (Operand.tmp 30) (Operand.const (Value.int IntKind.i64 0)) 3,none⟩])
 (.cond (Operand.tmp 31)
 (.seq
 (.region [34,35] false ([]) [
 ⟨some 32,Op.fieldAddr 61 (Operand.tmp 4) 0,none⟩,
 ⟨some 33,Op.load 22 (Operand.tmp 32),none⟩,
 ⟨some 34,Op.buildSlice 22 1 #[(0,Operand.const (Value.int IntKind.i64 (-1)))],none⟩,
 ⟨some 35,Op.call {callee:=Callee.builtin Builtin.append,args:=#[Operand.tmp 33,Operand.tmp 34],argTypes:=#[22,22]},none⟩,
 ⟨some 36,Op.fieldAddr 61 (Operand.tmp 4) 0,none⟩,
 ⟨none,Op.store 22 (Operand.tmp 36) (Operand.tmp 35),none⟩])
 (.seq
 (.region [39,40] false ([]) [
 ⟨some 37,Op.fieldAddr 61 (Operand.tmp 4) 1,none⟩,
 ⟨some 38,Op.load 22 (Operand.tmp 37),none⟩,
 ⟨some 39,Op.buildSlice 22 1 #[(0,Operand.const (Value.int IntKind.i64 (-1)))],none⟩,
 ⟨some 40,Op.call {callee:=Callee.builtin Builtin.append,args:=#[Operand.tmp 38,Operand.tmp 39],argTypes:=#[22,22]},none⟩,
 ⟨some 41,Op.fieldAddr 61 (Operand.tmp 4) 1,none⟩,
 ⟨none,Op.store 22 (Operand.tmp 41) (Operand.tmp 40),none⟩])
 (.region [44,45] false ([]) [
 ⟨some 42,Op.fieldAddr 61 (Operand.tmp 4) 2,none⟩,
 ⟨some 43,Op.load 22 (Operand.tmp 42),none⟩,
 ⟨some 44,Op.buildSlice 22 1 #[(0,Operand.const (Value.int IntKind.i64 (-1)))],none⟩,
 ⟨some 45,Op.call {callee:=Callee.builtin Builtin.append,args:=#[Operand.tmp 43,Operand.tmp 44],argTypes:=#[22,22]},none⟩,
 ⟨some 46,Op.fieldAddr 61 (Operand.tmp 4) 2,none⟩,
 ⟨none,Op.store 22 (Operand.tmp 46) (Operand.tmp 45),none⟩])))
 (.seq
 (.region [55,56,57] true ([57]) [
 ⟨some 47,Op.fieldAddr 61 (Operand.tmp 4) 0,none⟩,
 ⟨some 48,Op.load 22 (Operand.tmp 47),none⟩,
 ⟨some 49,Op.move (Operand.tmp 3),none⟩,
 ⟨some 50,Op.move (Operand.tmp 6),none⟩,
 ⟨some 51,Op.move (Operand.tmp 6),none⟩,
 ⟨some 52,Op.call {callee:=Callee.builtin Builtin.len,args:=#[Operand.tmp 51],argTypes:=#[22]},none⟩,
 ⟨some 53,Op.binOp BinOp.sub 3 (Operand.tmp 52) (Operand.const (Value.int IntKind.i64 1)) 3,none⟩,
 ⟨some 54,Op.slice 22 (Operand.tmp 50) none (some (Operand.tmp 53)) none,none⟩,
 ⟨some 55,Op.call {callee:=Callee.value (Operand.func 92),args:=#[Operand.tmp 49,Operand.tmp 54],argTypes:=#[135,22]},none⟩,
 ⟨some 56,Op.buildSlice 22 1 #[(0,Operand.tmp 55)],none⟩,
 ⟨some 57,Op.call {callee:=Callee.builtin Builtin.append,args:=#[Operand.tmp 48,Operand.tmp 56],argTypes:=#[22,22]},none⟩,
 ⟨some 58,Op.fieldAddr 61 (Operand.tmp 4) 0,none⟩,
 ⟨none,Op.store 22 (Operand.tmp 58) (Operand.tmp 57),none⟩])
 (.seq
 (.region [67,68] true ([68]) [
 ⟨some 59,Op.fieldAddr 61 (Operand.tmp 4) 1,none⟩,
 ⟨some 60,Op.load 22 (Operand.tmp 59),none⟩,
 ⟨some 61,Op.move (Operand.tmp 6),none⟩,
 ⟨some 62,Op.move (Operand.tmp 6),none⟩,
 ⟨some 63,Op.call {callee:=Callee.builtin Builtin.len,args:=#[Operand.tmp 62],argTypes:=#[22]},none⟩,
 ⟨some 64,Op.binOp BinOp.sub 3 (Operand.tmp 63) (Operand.const (Value.int IntKind.i64 1)) 3,none⟩,
 ⟨some 65,Op.indexAddr 22 (Operand.tmp 61) (Operand.tmp 64),none⟩,
 ⟨some 66,Op.load 2 (Operand.tmp 65),none⟩,
 ⟨some 67,Op.buildSlice 22 1 #[(0,Operand.tmp 66)],none⟩,
 ⟨some 68,Op.call {callee:=Callee.builtin Builtin.append,args:=#[Operand.tmp 60,Operand.tmp 67],argTypes:=#[22,22]},none⟩,
 ⟨some 69,Op.fieldAddr 61 (Operand.tmp 4) 1,none⟩,
 ⟨none,Op.store 22 (Operand.tmp 69) (Operand.tmp 68),none⟩])
 (.region [74,75,76] true ([76]) [
 ⟨some 70,Op.fieldAddr 61 (Operand.tmp 4) 2,none⟩,
 ⟨some 71,Op.load 22 (Operand.tmp 70),none⟩,
 ⟨some 72,Op.move (Operand.tmp 3),none⟩,
 ⟨some 73,Op.move (Operand.tmp 6),none⟩,
 ⟨some 74,Op.call {callee:=Callee.value (Operand.func 93),args:=#[Operand.tmp 72,Operand.tmp 73,Operand.const (Value.int IntKind.i64 1)],argTypes:=#[135,22,3]},none⟩,
 ⟨some 75,Op.buildSlice 22 1 #[(0,Operand.tmp 74)],none⟩,
 ⟨some 76,Op.call {callee:=Callee.builtin Builtin.append,args:=#[Operand.tmp 71,Operand.tmp 75],argTypes:=#[22,22]},none⟩,
 ⟨some 77,Op.fieldAddr 61 (Operand.tmp 4) 2,none⟩,
 ⟨none,Op.store 22 (Operand.tmp 77) (Operand.tmp 76),none⟩])))))
 (.seq
 (.region [82,83,84] true ([84]) [
 ⟨some 78,Op.fieldAddr 61 (Operand.tmp 4) 3,none⟩,
 ⟨some 79,Op.load 22 (Operand.tmp 78),none⟩,
 ⟨some 80,Op.move (Operand.tmp 0),none⟩,
 ⟨some 81,Op.move (Operand.tmp 6),none⟩,
 ⟨some 82,Op.call {callee:=Callee.value (Operand.func 94),args:=#[Operand.tmp 80,Operand.tmp 81],argTypes:=#[65,22]},none⟩,
 ⟨some 83,Op.buildSlice 22 1 #[(0,Operand.tmp 82)],none⟩,
 ⟨some 84,Op.call {callee:=Callee.builtin Builtin.append,args:=#[Operand.tmp 79,Operand.tmp 83],argTypes:=#[22,22]},none⟩,
 ⟨some 85,Op.fieldAddr 61 (Operand.tmp 4) 3,none⟩,
 ⟨none,Op.store 22 (Operand.tmp 85) (Operand.tmp 84),none⟩])
 (.region [90,91,92] true ([92]) [
 ⟨some 86,Op.fieldAddr 61 (Operand.tmp 4) 4,none⟩,
 ⟨some 87,Op.load 59 (Operand.tmp 86),none⟩,
 ⟨some 88,Op.move (Operand.tmp 0),none⟩,
 ⟨some 89,Op.move (Operand.tmp 6),none⟩,
 ⟨some 90,Op.call {callee:=Callee.value (Operand.func 95),args:=#[Operand.tmp 88,Operand.tmp 89],argTypes:=#[65,22]},none⟩,
 ⟨some 91,Op.buildSlice 59 1 #[(0,Operand.tmp 90)],none⟩,
 ⟨some 92,Op.call {callee:=Callee.builtin Builtin.append,args:=#[Operand.tmp 87,Operand.tmp 91],argTypes:=#[59,59]},none⟩,
 ⟨some 93,Op.fieldAddr 61 (Operand.tmp 4) 4,none⟩,
 ⟨none,Op.store 59 (Operand.tmp 93) (Operand.tmp 92),none⟩])))))
 (.region [] false ([]) [
 ⟨some 22,Op.move (Operand.tmp 5),none⟩,
 ⟨some 23,Op.binOp BinOp.add 3 (Operand.tmp 22) (Operand.const (Value.int IntKind.i64 1)) 3,none⟩,
 ⟨some 5,Op.assign (Operand.tmp 23),none⟩]))))))
 (.seq
 (.region [] false ([]) [
 ⟨some 94,Op.load 61 (Operand.tmp 4),none⟩,
 ⟨some 95,Op.build 63 #[(1,Operand.tmp 94)],none⟩,
 ⟨none,Op.store 63 (Operand.tmp 2) (Operand.tmp 95),none⟩])
 .ret)))))))
@[simp] theorem muteB_57m (t : Nat) : muteB true [57] (some t) = !(decide (t = 57)) := by simp [muteB]
@[simp] theorem muteB_68' (t : Nat) : muteB true [68] (some t) = !(decide (t = 68)) := by simp [muteB]
@[simp] theorem muteB_76' (t : Nat) : muteB true [76] (some t) = !(decide (t = 76)) := by simp [muteB]
@[simp] theorem muteB_84' (t : Nat) : muteB true [84] (some t) = !(decide (t = 84)) := by simp [muteB]
@[simp] theorem muteB_92' (t : Nat) : muteB true [92] (some t) = !(decide (t = 92)) := by simp [muteB]
set_option maxHeartbeats 0 in
theorem buildS_3 {rs : List Ru} (hW : Rus rs) (h : ¬ RGood rs) : CallsF Try.prog 30 [.val (recs encRu rs)] (.agg [.t (.v (.int .i64 12)), .t (.v (.slice none 0 0)), .t (.v (.slice none 0 0)), .t (.v (.slice none 0 0)), .t (.v (.slice none 0 0)), .t (.v (.slice none 0 0))]) [] := by
  have f1 := good_c hW
  refine callsF_of_wp2 (fn := Try.f30) (k := k30) (fun | 15 => (57 :: .nil) | 16 => (68 :: .nil) | 17 => (76 :: .nil) | 18 => (84 :: .nil) | 19 => (92 :: .nil) | _ => .nil) mixed (by kernel_rfl) rfl (by kernel_rfl) (by kernel_rfl) (by kernel_rfl) rfl (by simp [Try.f30]) (by simp [Arg.like]) ?_
  generalize hst : St.enter [.val (recs encRu rs)] = st0
  have t0 : st0.tm 0 = .t (recs encRu rs) := by rw [← hst]; rfl
  clear hst
  unfold k30
  repeat' (first
   | refine wp2_seq fun K hK => ?_
   | refine M_cons fun K hK => ?_
   | (refine hK _ ?_; clear hK K)
   | (refine hX _ ?_; clear hX hY X Y)
   | refine wp2_region ?_
   | refine wp2_cond fun X Y hX hY => ?_
   | (refine condK_of (fun c => ?_) (fun c => ?_) <;> (try simp [-List.length_eq_zero_iff] at c))
   | (refine callT_fl (f1) (by simp [St.args, St.arg, t0, h] <;> first | rfl | ((repeat' first | rfl | apply And.intro); first | done | fail)) ?_)
   | simp (maxSteps := 4000000) (disch := omega) [t0, h])
  all_goals try (simp [t0, h, Back]; done)
  all_goals first | omega | simp [Back]
set_option maxHeartbeats 0 in
theorem buildS_2 {rs : List Ru} (hW : Rus rs) (h : RGood rs) (hl : 2000 < (wordsOf rs).length) : CallsF Try.prog 30 [.val (recs encRu rs)] (.agg [.t (.v (.int .i64 13)), .t (.v (.slice none 0 0)), .t (.v (.slice none 0 0)), .t (.v (.slice none 0 0)), .t (.v (.slice none 0 0)), .t (.v (.slice none 0 0))]) [] := by
  have f1 := good_c hW
  have f2 := words_c h
  have sm := wordsN_sm h rs.length (Nat.le_refl _)
  have sl : (wordsOf rs).length ≤ 2001 := sm.len
  refine callsF_of_wp2 (fn := Try.f30) (k := k30) (fun | 15 => (57 :: .nil) | 16 => (68 :: .nil) | 17 => (76 :: .nil) | 18 => (84 :: .nil) | 19 => (92 :: .nil) | _ => .nil) mixed (by kernel_rfl) rfl (by kernel_rfl) (by kernel_rfl) (by kernel_rfl) rfl (by simp [Try.f30]) (by simp [Arg.like]) ?_
  generalize hst : St.enter [.val (recs encRu rs)] = st0
  have t0 : st0.tm 0 = .t (recs encRu rs) := by rw [← hst]; rfl
  clear hst
  unfold k30
  repeat' (first
   | refine wp2_seq fun K hK => ?_
   | refine M_cons fun K hK => ?_
   | (refine hK _ ?_; clear hK K)
   | (refine hX _ ?_; clear hX hY X Y)
   | (refine hY _ ?_; clear hX hY X Y)
   | refine wp2_region ?_
   | refine wp2_cond fun X Y hX hY => ?_
   | (refine condK_of (fun c => ?_) (fun c => ?_) <;> (try simp [-List.length_eq_zero_iff] at c))
   | (refine callT_fl (f1) (by simp [St.args, St.arg, t0, h, hl] <;> first | rfl | ((repeat' first | rfl | apply And.intro); first | done | fail)) ?_)
   | (refine callT_gen false (f2) (by simp) (by simp [St.args, St.arg, t0, h, hl] <;> first | rfl | ((repeat' first | rfl | apply And.intro); first | done | fail)) (by simp [apartArgs, mutsOf, noRow]) (by simp [callFrz, valsOf, outEff]) ?_)
   | simp (maxSteps := 4000000) (disch := omega) [t0, h, hl])
  all_goals try (simp [t0, h, hl, Back]; done)
  all_goals first | omega | simp [Back]
end Cal

/- spec.BuildAuto: what it builds. -/
set_option linter.unusedSimpArgs false
set_option linter.unusedVariables false
namespace Cal
open Go Go.Proofs Auto AC
set_option maxRecDepth 100000
theorem before_nil_false (a : List Int) : Short.before a [] = false := by
  unfold Short.before
  cases a with
  | nil => rfl
  | cons x l => simp
theorem first_nil {ws : List (List Int)} (hr : Short.Rising ws) (h0 : [] ∈ ws) {k : Nat} (hk : k < ws.length) : (wd ws k).length = 0 ↔ k = 0 := by
  obtain ⟨i, hi, he⟩ := List.mem_iff_getElem.1 h0
  have hp := List.pairwise_iff_getElem.1 hr
  have z : i = 0 := by
    apply Classical.byContradiction
    intro hn
    have := hp 0 i (by omega) hi (by omega)
    rw [he, before_nil_false] at this
    cases this
  subst z
  rw [wd_getD, getD_get hk]
  constructor
  · intro hl
    apply Classical.byContradiction
    intro hn
    have := hp 0 k hi hk (by omega)
    rw [List.eq_nil_of_length_eq_zero hl, before_nil_false] at this
    cases this
  · rintro rfl
    rw [he]
    rfl
@[simp] theorem appendA_bnil1 (d : Nat) (st : St) (x : Bool) : appendA d st ⟨false, 1, 1, [.bool false]⟩ (.t (.v (.slice none 0 0))) [[.v (.bool x)]] = some (.row (d, 0) 1 0 1, [((d, 0), some (.row 1 (boolRow [x])))]) := rfl
@[simp] theorem appendRB_row1 (d : Nat) (id : Id) (l : List Bool) (x : Bool) (n : Nat) (h1 : n = l.length) (h2 : n ≤ 1000000) : appendRB (some (.row 1 (boolRow l))) d id n [[.v (.bool x)]] = some (.row (d, 0) 1 0 (n + 1), [(id, none), ((d, 0), some (.row 1 (boolRow (l ++ [x]))))]) := appendRB_row d id l x n h1 h2
set_option maxHeartbeats 0 in
theorem buildS_1 {rs : List Ru} (hW : Rus rs) (h : RGood rs) (hl : ¬ 2000 < (wordsOf rs).length) (h1 : 1 ≤ (wordsOf rs).length) : CallsF Try.prog 30 [.val (recs encRu rs)] (.agg [.t (.v (.int .i64 0)), .own 1 (intRow (tabI (parW (wordsOf rs)) (wordsOf rs).length)), .own 1 (intRow (tabI (lastW (wordsOf rs)) (wordsOf rs).length)), .own 1 (intRow (tabI (failW (wordsOf rs)) (wordsOf rs).length)), .own 1 (intRow (tabI (mustW rs (wordsOf rs)) (wordsOf rs).length)), .own 1 (boolRow (tabB (badW rs (wordsOf rs)) (wordsOf rs).length))]) [] := by
  have f1 := good_c hW
  have f2 := words_c h
  have sm := wordsN_sm h rs.length (Nat.le_refl _)
  have nw := nil_word rs rs.length
  have ew : wordsN rs rs.length = wordsOf rs := rfl
  rw [ew] at sm nw
  have hlen : ∀ i : Nat, i < rs.length → 1 ≤ (nth rs i).seq.length := fun i hi => by have := (h.2 i hi).1; omega
  refine callsF_of_wp2 (fn := Try.f30) (k := k30) (fun | 15 => (57 :: .nil) | 16 => (68 :: .nil) | 17 => (76 :: .nil) | 18 => (84 :: .nil) | 19 => (92 :: .nil) | _ => .nil) mixed (by kernel_rfl) rfl (by kernel_rfl) (by kernel_rfl) (by kernel_rfl) rfl (by simp [Try.f30]) (by simp [Arg.like]) ?_
  generalize hst : St.enter [.val (recs encRu rs)] = st0
  have t0 : st0.tm 0 = .t (recs encRu rs) := by rw [← hst]; rfl
  clear hst
  unfold k30
  generalize wordsOf rs = ws at *
  repeat' (first
   | refine wp2_seq fun K hK => ?_
   | refine M_cons fun K hK => ?_
   | (refine hK _ ?_; clear hK K)
   | (refine hX _ ?_; clear hX hY X Y)
   | (refine hY _ ?_; clear hX hY X Y)
   | refine wp2_block ?_
   | refine wp2_region ?_
   | refine wp2_cond fun X Y hX hY => ?_
   | (refine condK_of (fun c => ?_) (fun c => ?_) <;> (try simp [-List.length_eq_zero_iff] at c))
   | (refine callT_fl (f1) (by simp [St.args, St.arg, t0, h, hl] <;> first | rfl | ((repeat' first | rfl | apply And.intro); first | done | fail)) ?_)
   | (refine callT_gen false (f2) (by simp) (by simp [St.args, St.arg, t0, h, hl] <;> first | rfl | ((repeat' first | rfl | apply And.intro); first | done | fail)) (by simp [apartArgs, mutsOf, noRow]) (by simp [callFrz, valsOf, outEff]) ?_)
   | simp (maxSteps := 4000000) (disch := omega) [t0, h, hl])
  all_goals first | omega | skip
  have hJ : ∀ s, (fun (k : Nat) (s : St) => s.tm 0 = .t (recs encRu rs) ∧ s.tm 2 = .ptr (2, 0) 0 0 ∧ s.ob (2, 0) = some (.var [.t (.v (.int .i64 0)), .t (.v (.slice none 0 0)), .t (.v (.slice none 0 0)), .t (.v (.slice none 0 0)), .t (.v (.slice none 0 0)), .t (.v (.slice none 0 0))]) ∧ s.tm 3 = .row (12, 0) 1 0 ws.length ∧ s.ob (12, 0) = some (.row 1 (wordRow ws)) ∧ s.tm 4 = .ptr (4, 0) 0 0 ∧ s.ob (4, 0) = some (.var [rvR 70001 k, rvR 70002 k, rvR 70003 k, rvR 70004 k, rvR 70005 k]) ∧ (k ≠ 0 → s.ob (70001, 0) = some (.row 1 (intRow (tabI (parW ws) k))) ∧ s.ob (70002, 0) = some (.row 1 (intRow (tabI (lastW ws) k))) ∧ s.ob (70003, 0) = some (.row 1 (intRow (tabI (failW ws) k))) ∧ s.ob (70004, 0) = some (.row 1 (intRow (tabI (mustW rs ws) k))) ∧ s.ob (70005, 0) = some (.row 1 (boolRow (tabB (badW rs ws) k))))) ws.length s → K s := by
    rintro s ⟨s0, s2, o2, s3, o3, s4, o4, ob⟩
    obtain ⟨b1, b2, b3, b4, b5⟩ := ob (by omega)
    simp only [rvR, if_neg (show ¬ ws.length = 0 by omega)] at o4
    repeat' (first
     | refine wp2_seq fun K hK => ?_
     | refine M_cons fun K hK => ?_
     | (refine hK _ ?_; clear hK K)
     | refine wp2_region ?_
     | simp (maxSteps := 4000000) (disch := omega) [s2, o2, s4, o4, b1, b2, b3, b4, b5])
    all_goals try (simp [s2, o2, s4, o4, b1, b2, b3, b4, b5, Back]; done)
    all_goals simp [Back, s2, o2, b1, b2, b3, b4, b5]
  clear hK
  refine wp2_loop (fun n s => ∃ k : Nat, (s.tm 0 = .t (recs encRu rs) ∧ s.tm 2 = .ptr (2, 0) 0 0 ∧ s.ob (2, 0) = some (.var [.t (.v (.int .i64 0)), .t (.v (.slice none 0 0)), .t (.v (.slice none 0 0)), .t (.v (.slice none 0 0)), .t (.v (.slice none 0 0)), .t (.v (.slice none 0 0))]) ∧ s.tm 3 = .row (12, 0) 1 0 ws.length ∧ s.ob (12, 0) = some (.row 1 (wordRow ws)) ∧ s.tm 4 = .ptr (4, 0) 0 0 ∧ s.ob (4, 0) = some (.var [rvR 70001 k, rvR 70002 k, rvR 70003 k, rvR 70004 k, rvR 70005 k]) ∧ (k ≠ 0 → s.ob (70001, 0) = some (.row 1 (intRow (tabI (parW ws) k))) ∧ s.ob (70002, 0) = some (.row 1 (intRow (tabI (lastW ws) k))) ∧ s.ob (70003, 0) = some (.row 1 (intRow (tabI (failW ws) k))) ∧ s.ob (70004, 0) = some (.row 1 (intRow (tabI (mustW rs ws) k))) ∧ s.ob (70005, 0) = some (.row 1 (boolRow (tabB (badW rs ws) k))))) ∧ s.tm 5 = .t (.v (.int .i64 k)) ∧ k ≤ ws.length ∧ n = ws.length - k) ws.length ?_ ?_
  · exact ⟨0, ⟨by simp [t0], by simp, by simp, by simp, by simp, by simp, by simp [rvR], fun hx => absurd rfl hx⟩, by simp, by omega, rfl⟩
  · rintro n s ⟨k, ⟨s0, s2, o2, s3, o3, s4, o4, ob⟩, s5, hk, rfl⟩ K' hK'
    have lw := sm.len
    by_cases hlt : k < ws.length
    · have hwl : (wd ws k).length ≤ 402 := by
        rw [wd_getD, getD_get hlt]
        exact sm.each _ (List.getElem_mem hlt)
      have e1 := tabI_succ (parW ws) k
      have e2 := tabI_succ (lastW ws) k
      have e3 := tabI_succ (failW ws) k
      have e4 := tabI_succ (mustW rs ws) k
      have e5 := tabB_succ (badW rs ws) k
      have d1 : parW ws k = if (wd ws k).length = 0 then -1 else stI ws ((wd ws k).take ((wd ws k).length - 1)) := rfl
      have d2 : lastW ws k = if (wd ws k).length = 0 then -1 else rd (wd ws k) ((wd ws k).length - 1 : Nat) := rfl
      have d3 : failW ws k = if (wd ws k).length = 0 then -1 else stI ws (LS (isWord ws) ((wd ws k).drop 1)) := rfl
      have d4 : mustW rs ws k = mustI rs (wd ws k) := rfl
      have d5 : badW rs ws k = badB rs (wd ws k) := rfl
      have gm := must_c (w := wd ws k) hW hlen (by omega)
      have gb := bad_c (w := wd ws k) hW (by omega)
      rw [← d4] at gm
      rw [← d5] at gb
      have fz := first_nil sm.rise nw hlt
      by_cases h0 : k = 0
      · have hz := fz.2 h0
        have hz' : (((wd ws (k : Int)).length : Int) == 0) = true := by simp [hz]
        rw [if_pos hz] at d1 d2 d3
        rw [d1] at e1
        rw [d2] at e2
        rw [d3] at e3
        simp only [rvR, if_pos h0] at o4
        have z : ∀ f, tabI f k = [] := fun f => by rw [h0]; rfl
        have zb : ∀ f, tabB f k = [] := fun f => by rw [h0]; rfl
        rw [z, List.nil_append] at e1 e2 e3 e4
        rw [zb, List.nil_append] at e5
        repeat' (first
         | refine wp2_seq fun K hK => ?_
         | refine M_cons fun K hK => ?_
         | (refine hK _ ?_; clear hK K)
         | (refine hX _ ?_; clear hX hY X Y)
         | refine wp2_block ?_
         | refine wp2_canon (ops := ⟨some 22, _, _⟩ :: _) [(35, 70001), (40, 70002), (45, 70003), (84, 70004), (92, 70005)] ?_
         | refine wp2_region ?_
         | refine wp2_cond fun X Y hX hY => ?_
         | (refine condK_of (fun c => ?_) (fun c => ?_) <;> (try simp [-List.length_eq_zero_iff] at c))
         | (refine callT_fl (gm) (by simp [St.args, St.arg, s0, s2, o2, s3, o3, s4, o4, s5, hlt, hz'] <;> first | rfl | ((repeat' first | rfl | apply And.intro); first | done | fail)) ?_)
         | (refine callT_fl (gb) (by simp [St.args, St.arg, s0, s2, o2, s3, o3, s4, o4, s5, hlt, hz'] <;> first | rfl | ((repeat' first | rfl | apply And.intro); first | done | fail)) ?_)
         | simp (maxSteps := 4000000) (disch := omega) [s0, s2, o2, s3, o3, s4, o4, s5, hlt, hz'])
        all_goals first | omega | skip
        refine hK' (ws.length - (k + 1)) _ (by omega) ⟨k + 1, ⟨by simp [s0], by simp [s2], by simp [o2], by simp [s3], by simp [o3], by simp [s4], by simp [rvR, h0], fun _ => ⟨by simp [← e1], by simp [← e2], by simp [← e3], by simp [← e4], by simp [← e5]⟩⟩, by simp, by omega, rfl⟩
      · have hz : ¬ (wd ws k).length = 0 := fun hx => h0 (fz.1 hx)
        have hz' : (((wd ws (k : Int)).length : Int) == 0) = false := by simpa using hz
        obtain ⟨b1, b2, b3, b4, b5⟩ := ob h0
        rw [if_neg hz] at d1 d2 d3
        simp only [rvR, if_neg h0] at o4
        have q1 := tabI_len (parW ws) k
        have q2 := tabI_len (lastW ws) k
        have q3 := tabI_len (failW ws) k
        have q4 := tabI_len (mustW rs ws) k
        have q5 := tabB_len (badW rs ws) k
        have gs := state_c (w := (wd ws k).take ((wd ws k).length - 1)) sm.wds (by rw [List.length_take]; omega)
        have gl := longest_c (l := wd ws k) (k := 1) sm.wds nw (by omega) (by omega)
        rw [← d1] at gs
        rw [← d3] at gl
        have ek : ((wd ws (k : Int)).length : Int) - 1 = (((wd ws (k : Int)).length - 1 : Nat) : Int) := by omega
        have elt : (wd ws (k : Int)).length - 1 < (wd ws (k : Int)).length := by omega
        rw [d2] at e2
        generalize (wd ws (k : Int)).length - 1 = p at *
        repeat' (first
         | refine wp2_seq fun K hK => ?_
         | refine M_cons fun K hK => ?_
         | (refine hK _ ?_; clear hK K)
         | (refine hX _ ?_; clear hX hY X Y)
         | (refine hY _ ?_; clear hX hY X Y)
         | refine wp2_block ?_
         | refine wp2_canon (ops := ⟨some 22, _, _⟩ :: _) [(57, 70001), (68, 70002), (76, 70003), (84, 70004), (92, 70005)] ?_
         | refine wp2_region ?_
         | refine wp2_cond fun X Y hX hY => ?_
         | (refine condK_of (fun c => ?_) (fun c => ?_) <;> (try simp [-List.length_eq_zero_iff] at c))
         | (refine callT_fl (gm) (by simp [St.args, St.arg, s0, s2, o2, s3, o3, s4, o4, s5, b1, b2, b3, b4, b5, hlt, hz', ek, elt] <;> first | rfl | ((repeat' first | rfl | apply And.intro); first | done | fail)) ?_)
         | (refine callT_fl (gb) (by simp [St.args, St.arg, s0, s2, o2, s3, o3, s4, o4, s5, b1, b2, b3, b4, b5, hlt, hz', ek, elt] <;> first | rfl | ((repeat' first | rfl | apply And.intro); first | done | fail)) ?_)
         | (refine callT_fl (gs) (by simp [St.args, St.arg, s0, s2, o2, s3, o3, s4, o4, s5, b1, b2, b3, b4, b5, hlt, hz', ek, elt] <;> first | rfl | ((repeat' first | rfl | apply And.intro); first | done | fail)) ?_)
         | (refine callT_fl (gl) (by simp [St.args, St.arg, s0, s2, o2, s3, o3, s4, o4, s5, b1, b2, b3, b4, b5, hlt, hz', ek, elt] <;> first | rfl | ((repeat' first | rfl | apply And.intro); first | done | fail)) ?_)
         | simp (maxSteps := 4000000) (disch := omega) [s0, s2, o2, s3, o3, s4, o4, s5, b1, b2, b3, b4, b5, hlt, hz', ek, elt])
        all_goals first | omega | skip
        refine hK' (ws.length - (k + 1)) _ (by omega) ⟨k + 1, ⟨by simp [s0], by simp [s2], by simp [o2], by simp [s3], by simp [o3], by simp [s4], by simp [rvR], fun _ => ⟨by simp [← e1], by simp [← e2], by simp [← e3], by simp [← e4], by simp [← e5]⟩⟩, by simp, by omega, rfl⟩
    · obtain rfl : k = ws.length := by omega
      repeat' (first
       | refine wp2_seq fun K hK => ?_
       | refine M_cons fun K hK => ?_
       | (refine hK _ ?_; clear hK K)
       | (refine hY _ ?_; clear hX hY X Y)
       | refine wp2_region ?_
       | refine wp2_cond fun X Y hX hY => ?_
       | (refine condK_of (fun c => ?_) (fun c => ?_) <;> (try simp [-List.length_eq_zero_iff] at c))
       | simp (maxSteps := 4000000) (disch := omega) [s3, o3, s5])
      all_goals first | omega | skip
      exact hJ _ ⟨by simp [s0], by simp [s2], by simp [o2], by simp [s3], by simp [o3], by simp [s4], by simp [o4], fun hx => by simpa using ob hx⟩
end Cal

/- The words as a trie. -/
set_option linter.unusedSimpArgs false
set_option linter.unusedVariables false
namespace Cal
open Go Go.Proofs Auto AC
theorem insRun_pc {r : Ru} {ws : List (List Int)} (h : PC ws) : ∀ n, n ≤ r.seq.length → PC (insRun r ws n)
  | 0, _ => h
  | n + 1, hn => by
    have ih := insRun_pc (r := r) h n (by omega)
    have sh : insRun r ws (n + 1) = insStep (insRun r ws n) (r.seq.take (n + 1)) := rfl
    rw [sh]
    unfold insStep
    split
    · rename_i hc
      refine ⟨mem_insW.2 (.inl ih.1), fun w hw => mem_insW.2 (.inl ?_)⟩
      rcases mem_insW.1 hw with hw | rfl
      · exact ih.2 w hw
      · have e : (r.seq.take (n + 1)).take ((r.seq.take (n + 1)).length - 1) = r.seq.take n := by
          rw [List.length_take, List.take_take]
          congr 1
          omega
        rw [e]
        by_cases h0 : n = 0
        · subst h0; exact ih.1
        · exact ins_mem r ws n hc n (by omega) (Nat.le_refl _)
    · exact ih
theorem wordsN_pc (rs : List Ru) : ∀ k, PC (wordsN rs k)
  | 0 => ⟨by simp [wordsN], by simp [wordsN]⟩
  | k + 1 => insRun_pc (wordsN_pc rs k) _ (by unfold mostR; split <;> omega)
theorem tabI_get (f : Nat → Int) {n i : Nat} (h : i < n) : (tabI f n).getD i 0 = f i := by
  unfold tabI
  rw [List.getD_eq_getElem?_getD, List.getElem?_map, List.getElem?_range h]
  rfl
theorem snoc_of {w : List Int} (h : ¬ w.length = 0) : w = w.take (w.length - 1) ++ [rd w (w.length - 1 : Nat)] := by
  have hl : w.length - 1 < w.length := by omega
  conv => lhs; rw [← List.take_append_drop (w.length - 1) w]
  congr 1
  rw [List.drop_eq_getElem_cons hl, List.drop_of_length_le (by omega)]
  unfold rd
  rw [Int.toNat_natCast, List.getD_eq_getElem?_getD, List.getElem?_eq_getElem hl]
  rfl
theorem words_trie {ws : List (List Int)} (hr : Short.Rising ws) (hp : PC ws) : Trie ws (tabI (parW ws) ws.length) (tabI (lastW ws) ws.length) := by
  have pos : 0 < ws.length := List.length_pos_of_mem hp.1
  have fz : ∀ {k : Nat}, k < ws.length → ((wd ws k).length = 0 ↔ k = 0) := fun hk => first_nil hr hp.1 hk
  have st : ∀ s : Nat, 1 ≤ s → s < ws.length → 0 ≤ parW ws s ∧ parW ws s < ws.length ∧ ws.getD (parW ws s).toNat [] = (wd ws s).take ((wd ws s).length - 1) := by
    intro s h1 h2
    have hz : ¬ (wd ws s).length = 0 := fun e => by have := (fz h2).1 e; omega
    have hm := hp.2 (wd ws s) (by rw [wd_getD, getD_get h2]; exact List.getElem_mem h2)
    unfold parW
    rw [if_neg hz]
    exact stI_mem hr hm
  refine ⟨pos, by simp, by simp, ?_, fun s h1 h2 => ?_, fun s h1 h2 => ?_, hr⟩
  · rw [List.getElem?_eq_getElem pos]
    have := (fz pos).2 rfl
    rw [wd_getD, getD_get pos] at this
    rw [List.eq_nil_of_length_eq_zero this]
  · rw [tabI_get _ h2]
    obtain ⟨a, b, c⟩ := st s h1 h2
    refine ⟨a, ?_⟩
    have hz : ¬ (wd ws s).length = 0 := fun e => by have := (fz h2).1 e; omega
    have lt : (ws.getD (parW ws s).toNat []).length < (ws.getD s []).length := by
      rw [c, ← wd_getD ws s, List.length_take]
      omega
    have h3 : (parW ws s).toNat < ws.length := by omega
    rw [getD_get h3, getD_get h2] at lt
    rcases Nat.lt_trichotomy (parW ws s).toNat s with h4 | h4 | h4
    · exact h4
    · exfalso
      have : ws[(parW ws s).toNat] = ws[s] := by congr 1
      rw [this] at lt
      omega
    · exfalso
      have := List.pairwise_iff_getElem.1 hr s (parW ws s).toNat h2 h3 h4
      unfold Short.before at this
      rw [if_neg (by omega)] at this
      simp at this
      omega
  · rw [tabI_get _ h2, tabI_get _ h2]
    have hz : ¬ (wd ws s).length = 0 := fun e => by have := (fz h2).1 e; omega
    rw [(st s h1 h2).2.2]
    have : lastW ws s = rd (wd ws s) ((wd ws s).length - 1 : Nat) := by unfold lastW; rw [if_neg hz]
    rw [this, ← wd_getD]
    exact snoc_of hz
theorem words_fails {ws : List (List Int)} (hr : Short.Rising ws) (hp : PC ws) : FailsTo ws (tabI (failW ws) ws.length) ws.length := by
  intro s h1 h2
  have hz : ¬ (wd ws s).length = 0 := fun e => by have := (first_nil hr hp.1 h2).1 e; omega
  rw [tabI_get _ h2]
  have e : failW ws s = stI ws (LS (isWord ws) ((wd ws s).drop 1)) := by unfold failW; rw [if_neg hz]
  have ew : LS (isWord ws) ((wd ws s).drop 1) = LS (isWord ws) (ws.getD s []).tail := by rw [wd_getD, List.drop_one]
  rw [ew] at e
  have hm : LS (isWord ws) (ws.getD s []).tail ∈ ws := isWord_iff.1 (LS_p (isWord_iff.2 hp.1) _)
  obtain ⟨a, b, c⟩ := stI_mem hr hm
  rw [← e] at a b c
  refine ⟨(failW ws s).toNat, by omega, ?_, c⟩
  have lt : (ws.getD (failW ws s).toNat []).length < (ws.getD s []).length := by
    rw [c]
    have := LS_length (isWord ws) (ws.getD s []).tail
    rw [List.length_tail] at this
    rw [wd_getD] at hz
    omega
  have h3 : (failW ws s).toNat < ws.length := by omega
  rw [getD_get h3, getD_get h2] at lt
  rcases Nat.lt_trichotomy (failW ws s).toNat s with h4 | h4 | h4
  · exact h4
  · exfalso
    have : ws[(failW ws s).toNat] = ws[s] := by congr 1
    rw [this] at lt
    omega
  · exfalso
    have := List.pairwise_iff_getElem.1 hr s (failW ws s).toNat h2 h3 h4
    unfold Short.before at this
    rw [if_neg (by omega)] at this
    simp at this
    omega
end Cal
