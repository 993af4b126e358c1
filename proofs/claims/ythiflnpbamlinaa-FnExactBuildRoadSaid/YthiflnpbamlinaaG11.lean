/- A part of the proof: a calculus of our own over the model's code, and contracts of the program's functions. -/
import Derived.Test.YthiflnpbamlinaaG10
set_option linter.unusedSimpArgs false
set_option linter.unusedVariables false
namespace Cal
open Go Go.Proofs
set_option maxRecDepth 100000
def rvRoad (N : List Int) (R : List Ed) : RV := .agg [rvO N, .own 7 (recRow encE R), .own 1 (intRow (starts R (N.length + 1))), rvO (outs R (N.length + 1))]
def rv0 : RV := .agg [.t (.v (.slice none 0 0)), .t (.v (.slice none 0 0)), .t (.v (.slice none 0 0)), .t (.v (.slice none 0 0))]
def eds (n : Net) : List Ed := edgs n n.ways.length
theorem blk_twin (n : Net) (i j : Nat) : ∀ e ∈ blk n i j, e.twin = -1 := by
  intro e he
  unfold blk at he
  split at he <;> simp [edA, edB] at he
  · rcases he with rfl | rfl <;> rfl
  · rw [he]
theorem segs_twin (n : Net) (i : Nat) : ∀ j : Nat, ∀ e ∈ segs n i j, e.twin = -1
  | 0, e, he => by simp [segs] at he
  | j + 1, e, he => by
    unfold segs at he
    rcases List.mem_append.1 he with he | he
    · exact segs_twin n i j e he
    · exact blk_twin n i j e he
theorem edgs_twin (n : Net) : ∀ i : Nat, ∀ e ∈ edgs n i, e.twin = -1
  | 0, e, he => by simp [edgs] at he
  | i + 1, e, he => by
    unfold edgs at he
    rcases List.mem_append.1 he with he | he
    · exact edgs_twin n i e he
    · exact segs_twin n i _ e he
theorem roadE_length (L : List Ed) : (roadE L).length = L.length := by simp [roadE]
theorem eds_len {n : Net} (hv : VNet n) : (eds n).length ≤ 4000 := by
  have h1 := edgs_length n n.ways.length
  have h2 := hv.es
  unfold eds
  omega
set_option maxHeartbeats 0 in
theorem roadS (n : Net) (h : LN n) : CallsF Try.prog 12 [.agg (encN n)] (if VNet n then rvRoad n.nodes (roadE (eds n)) else rv0) [] := by
  refine callsF_of_wp2 (fn := Try.f12) (k := k12) (fun _ => []) mixed (by kernel_rfl) rfl (by kernel_rfl) (by kernel_rfl) (by kernel_rfl) rfl (by simp [Try.f12]) (by simp [Arg.like]) ?_
  generalize hst : St.enter [.agg (encN n)] = st0
  have t0 : st0.tm 0 = .agg ((encN n) |>.map .t) := by rw [← hst]; rfl
  clear hst
  unfold k12
  simp [encN] at t0
  by_cases hv : VNet n
  · rw [if_pos hv]
    have hl := eds_len hv
    have hlR := roadE_length (eds n)
    have ht : ∀ i : Nat, i < (eds n).length → (nth (eds n) (i : Int)).twin = -1 := fun i hi => edgs_twin n n.ways.length _ (by rw [nth_get hi]; exact List.getElem_mem hi)
    repeat' (first
     | refine wp2_seq fun K hK => ?_
     | refine M_cons fun K hK => ?_
     | (refine hK _ ?_; clear hK K)
     | (refine hY _ ?_; clear hX hY X Y)
     | refine wp2_block ?_
     | refine wp2_region ?_
     | refine wp2_cond fun X Y hX hY => ?_
     | (refine condK_of (fun c => ?_) (fun c => ?_) <;> (try simp [-List.length_eq_zero_iff] at c))
     | (refine callT_fl (vnS n h) (by simp [St.args, St.arg, t0, hv, encN] <;> first | rfl | ((repeat' first | rfl | apply And.intro); first | done | fail)) ?_)
     | simp (maxSteps := 4000000) (disch := omega) [t0, hv, encN])
    refine wp2_loop _ n.nodes.length ?_ (br_l0 n hv.c1 ?_)
    · refine ⟨0, ?_⟩
      simp [t0, objN, optR]
    · rintro s ⟨s1, o1, s3, o3, o29, s2, o2⟩
      simp only [objN] at o1
      repeat' (first
       | refine wp2_seq fun K hK => ?_
       | refine M_cons fun K hK => ?_
       | (refine hK _ ?_; clear hK K)
       | refine wp2_block ?_
       | refine wp2_region ?_
       | (refine callT_gen false (edges_c n h hl (fun i hi => (hv.wi i hi).1.ln)) (by simp) (by simp [St.args, St.arg, s1, o1, s3, o3, s2, o2, encN] <;> first | rfl | ((repeat' first | rfl | apply And.intro); first | done | fail)) (by simp [apartArgs, mutsOf, noRow]) (by simp [callFrz, valsOf, outEff]) ?_)
       | simp (maxSteps := 4000000) (disch := omega) [s1, o1, s3, o3, s2, o2, encN])
      refine wp2_loop _ (eds n).length ?_ (br_l1 n.nodes (eds n) hl ht ?_)
      · refine ⟨0, ?_⟩
        rw [← gE_0 (eds n) ht]
        exact ⟨by simp [s2], by simp [o2, nil4], by simp [s3], by simp [eds], fun h => by simp [o29 h], by simp [eds], by simp, by omega, by omega⟩
      · rintro s ⟨s2, o2, s3, o3, o29, o32⟩
        rw [← hlR] at o3
        repeat' (first
         | refine wp2_seq fun K hK => ?_
         | refine M_cons fun K hK => ?_
         | (refine hK _ ?_; clear hK K)
         | refine wp2_block ?_
         | refine wp2_region ?_
         | simp (maxSteps := 4000000) (disch := omega) [s2, o2, s3, o3, o32])
        refine wp2_loop _ (n.nodes.length + 1) ?_ (br_l3 n.nodes (roadE (eds n)) (by omega) hv.c1 ?_)
        · refine ⟨0, ?_⟩
          exact ⟨by simp [s2], by simp [o2, nil4], by simp [s3], by simp [o3, optR, starts, outs], fun h => by simp [o29 h], by simp [o32], fun h => absurd rfl h, fun h => absurd rfl h, by simp, by omega, by omega⟩
        · rintro s ⟨s2, o2, s3, o3, o29, o32, o110, o131⟩
          have o110 := o110 (by rw [starts_length]; omega)
          simp only [nil4] at o2
          rw [optR_row (l := starts _ _) _ (by rw [starts_length]; omega)] at o3
          have hsl := starts_length (roadE (eds n)) (n.nodes.length + 1)
          by_cases hN : n.nodes.length = 0 <;> by_cases hO : (outs (roadE (eds n)) (n.nodes.length + 1)).length = 0
          · rw [optR_nil _ hN, optR_nil _ hO] at o3
            repeat' (first
             | refine wp2_seq fun K hK => ?_
             | refine M_cons fun K hK => ?_
             | (refine hK _ ?_; clear hK K)
             | refine wp2_region ?_
             | simp (maxSteps := 4000000) (disch := omega) [s2, o2, s3, o3, o32, o110])
            all_goals simp [Back, rvRoad, rvO, hN, hO, s2, o32, o110]
            simpa [hN] using hO
          · rw [optR_nil _ hN, optR_row _ hO] at o3
            have o131 := o131 hO
            repeat' (first
             | refine wp2_seq fun K hK => ?_
             | refine M_cons fun K hK => ?_
             | (refine hK _ ?_; clear hK K)
             | refine wp2_region ?_
             | simp (maxSteps := 4000000) (disch := omega) [s2, o2, s3, o3, o32, o110, o131])
            all_goals simp [Back, rvRoad, rvO, hN, hO, s2, o32, o110, o131]
            simpa [hN] using hO
          · rw [optR_row _ hN, optR_nil _ hO] at o3
            have o29 := o29 hN
            repeat' (first
             | refine wp2_seq fun K hK => ?_
             | refine M_cons fun K hK => ?_
             | (refine hK _ ?_; clear hK K)
             | refine wp2_region ?_
             | simp (maxSteps := 4000000) (disch := omega) [s2, o2, s3, o3, o32, o110, o29])
            all_goals simp [Back, rvRoad, rvO, hN, hO, s2, o32, o110, o29]
          · rw [optR_row _ hN, optR_row _ hO] at o3
            have o29 := o29 hN
            have o131 := o131 hO
            repeat' (first
             | refine wp2_seq fun K hK => ?_
             | refine M_cons fun K hK => ?_
             | (refine hK _ ?_; clear hK K)
             | refine wp2_region ?_
             | simp (maxSteps := 4000000) (disch := omega) [s2, o2, s3, o3, o32, o110, o29, o131])
            all_goals simp [Back, rvRoad, rvO, hN, hO, s2, o32, o110, o29, o131]
  · rw [if_neg hv]
    repeat' (first
     | refine wp2_seq fun K hK => ?_
     | refine M_cons fun K hK => ?_
     | (refine hK _ ?_; clear hK K)
     | (refine hX _ ?_; clear hX hY X Y)
     | refine wp2_region ?_
     | refine wp2_cond fun X Y hX hY => ?_
     | (refine condK_of (fun c => ?_) (fun c => ?_) <;> (try simp [-List.length_eq_zero_iff] at c))
     | (refine callT_fl (vnS n h) (by simp [St.args, St.arg, t0, hv, encN, rv0] <;> first | rfl | ((repeat' first | rfl | apply And.intro); first | done | fail)) ?_)
     | simp (maxSteps := 4000000) (disch := omega) [t0, hv, encN, rv0])
    all_goals try (simp [t0, hv, encN, rv0, Back]; done)
end Cal

set_option linter.unusedSimpArgs false
set_option linter.unusedVariables false
namespace Cal
open Go Go.Proofs
set_option maxRecDepth 100000
def placeN (l : List Int) : Nat → List (MK × Int)
  | 0 => []
  | k + 1 => mset (placeN l k) (.i (rd l k)) k
theorem place_get {l : List Int} (hd : ∀ i j : Nat, i < j → j < l.length → rd l i ≠ rd l j) : ∀ {k i : Nat}, i < k → k ≤ l.length → mget (placeN l k) (.i (rd l i)) = some (i : Int)
  | 0, i, h, _ => by omega
  | k + 1, i, h, hk => by
    unfold placeN
    rw [mget_mset]
    by_cases e : i = k
    · subst e
      rw [if_pos rfl]
    · rw [if_neg (fun h2 => by
        injection h2 with h2
        exact hd i k (by omega) (by omega) h2.symm)]
      exact place_get hd (by omega) (by omega)
def nilV : AV := .t (.v (.slice none 0 0))
/-- The body of a loop. -/
def k68_l0 : Code1 :=
 (.seq
 (.region [] false ([]) [
 ⟨some 26,Op.binOp BinOp.lss 3 (Operand.tmp 25) (Operand.tmp 24) 3,none⟩])
 (.seq
 (.cond (Operand.tmp 26)
 .skip
 (.exit 0))
 (.seq
 (.block 1
 (.seq
 (.region [] false ([]) [
 ⟨some 27,Op.move (Operand.tmp 25),none⟩,
 ⟨some 28,Op.indexAddr 22 (Operand.tmp 23) (Operand.tmp 25),none⟩,
 ⟨some 29,Op.load 2 (Operand.tmp 28),none⟩,
 ⟨some 5,Op.assign (Operand.tmp 27),none⟩,
 ⟨some 6,Op.assign (Operand.tmp 29),none⟩])
 (.seq
 (.region [] false ([]) [
 ⟨some 30,Op.move (Operand.tmp 3),none⟩,
 ⟨some 31,Op.move (Operand.tmp 6),none⟩,
 ⟨some 32,Op.move (Operand.tmp 5),none⟩,
 ⟨none,Op.mapUpdate 197 (Operand.tmp 30) (Operand.tmp 31) (Operand.tmp 32),none⟩])
 (.region [36,37] false ([]) [
 ⟨some 33,Op.fieldAddr 31 (Operand.tmp 4) 0,none⟩,
 ⟨some 34,Op.load 22 (Operand.tmp 33),none⟩,
 ⟨some 35,Op.move (Operand.tmp 6),none⟩,
 ⟨some 36,Op.buildSlice 22 1 #[(0,Operand.tmp 35)],none⟩,
 ⟨some 37,Op.call {callee:=Callee.builtin Builtin.append,args:=#[Operand.tmp 34,Operand.tmp 36],argTypes:=#[22,22]},none⟩,
 ⟨some 38,Op.fieldAddr 31 (Operand.tmp 4) 0,none⟩,
 ⟨none,Op.store 22 (Operand.tmp 38) (Operand.tmp 37),none⟩]))))
 (.region [] false ([]) [
 ⟨some 39,Op.binOp BinOp.add 3 (Operand.tmp 25) (Operand.const (Value.int IntKind.i64 1)) 3,none⟩,
 ⟨some 25,Op.move (Operand.tmp 39),none⟩]))))
/-- The body of a loop. -/
def k68_l2 : Code1 :=
 (.seq
 (.region [] false ([]) [
 ⟨some 52,Op.binOp BinOp.lss 3 (Operand.tmp 51) (Operand.tmp 50) 3,none⟩])
 (.seq
 (.cond (Operand.tmp 52)
 .skip
 (.exit 4))
 (.seq
 (.block 5
 (.seq
 (.region [] false ([]) [
 ⟨some 53,Op.move (Operand.tmp 51),none⟩,
 ⟨some 9,Op.assign (Operand.tmp 53),none⟩])
 (.seq
 (.region [] true ([]) [
 ⟨some 54,Op.move (Operand.tmp 3),none⟩,
 ⟨some 55,Op.fieldAddr 100 (Operand.tmp 8) 2,none⟩,
 ⟨some 56,Op.load 22 (Operand.tmp 55),none⟩,
 ⟨some 57,Op.move (Operand.tmp 9),none⟩,
 ⟨some 58,Op.indexAddr 22 (Operand.tmp 56) (Operand.tmp 57),none⟩,
 ⟨some 59,Op.load 2 (Operand.tmp 58),none⟩,
 ⟨some 60,Op.lookup 197 (Operand.tmp 54) (Operand.tmp 59) false,none⟩,
 ⟨some 61,Op.move (Operand.tmp 3),none⟩,
 ⟨some 62,Op.fieldAddr 100 (Operand.tmp 8) 2,none⟩,
 ⟨some 63,Op.load 22 (Operand.tmp 62),none⟩,
 ⟨some 64,Op.move (Operand.tmp 9),none⟩,
 ⟨some 65,Op.binOp BinOp.add 3 (Operand.tmp 64) (Operand.const (Value.int IntKind.i64 1)) 3,none⟩,
 ⟨some 66,Op.indexAddr 22 (Operand.tmp 63) (Operand.tmp 65),none⟩,
 ⟨some 67,Op.load 2 (Operand.tmp 66),none⟩,
 ⟨some 68,Op.lookup 197 (Operand.tmp 61) (Operand.tmp 67) false,none⟩,
 ⟨some 10,Op.assign (Operand.tmp 60),none⟩,
 ⟨some 11,Op.assign (Operand.tmp 68),none⟩])
 (.seq
 (.region [12] false ([]) [
 ⟨some 69,Op.move (Operand.tmp 10),none⟩,
 ⟨some 70,Op.move (Operand.tmp 11),none⟩,
 ⟨some 71,Op.fieldAddr 100 (Operand.tmp 8) 3,none⟩,
 ⟨some 72,Op.load 22 (Operand.tmp 71),none⟩,
 ⟨some 73,Op.move (Operand.tmp 9),none⟩,
 ⟨some 74,Op.indexAddr 22 (Operand.tmp 72) (Operand.tmp 73),none⟩,
 ⟨some 75,Op.load 2 (Operand.tmp 74),none⟩,
 ⟨some 76,Op.move (Operand.tmp 7),none⟩,
 ⟨some 77,Op.move (Operand.tmp 9),none⟩,
 ⟨some 78,Op.build 102 #[(0,Operand.tmp 69),(1,Operand.tmp 70),(2,Operand.tmp 75),(3,Operand.tmp 76),(4,Operand.tmp 77),(6,Operand.const (Value.int IntKind.i64 (-1)))],none⟩,
 ⟨some 12,Op.alloc 102,none⟩,
 ⟨none,Op.store 102 (Operand.tmp 12) (Operand.tmp 78),none⟩])
 (.seq
 (.seq
 (.region [] false ([]) [
 ⟨some 79,Op.fieldAddr 100 (Operand.tmp 8) 1,none⟩,
 ⟨some 80,Op.load 4 (Operand.tmp 79),none⟩,
 ⟨some 81,Op.unOp UnOp.not 4 (Operand.tmp 80),none⟩])
 (.cond (Operand.tmp 81)
 (.seq
 (.region [85,86] false ([]) [
 ⟨some 82,Op.fieldAddr 31 (Operand.tmp 4) 1,none⟩,
 ⟨some 83,Op.load 29 (Operand.tmp 82),none⟩,
 ⟨some 84,Op.load 102 (Operand.tmp 12),none⟩,
 ⟨some 85,Op.buildSlice 29 1 #[(0,Operand.tmp 84)],none⟩,
 ⟨some 86,Op.call {callee:=Callee.builtin Builtin.append,args:=#[Operand.tmp 83,Operand.tmp 85],argTypes:=#[29,29]},none⟩,
 ⟨some 87,Op.fieldAddr 31 (Operand.tmp 4) 1,none⟩,
 ⟨none,Op.store 29 (Operand.tmp 87) (Operand.tmp 86),none⟩])
 (.exit 5))
 .skip))
 (.seq
 (.region [] false ([]) [
 ⟨some 88,Op.fieldAddr 31 (Operand.tmp 4) 1,none⟩,
 ⟨some 89,Op.load 29 (Operand.tmp 88),none⟩,
 ⟨some 90,Op.call {callee:=Callee.builtin Builtin.len,args:=#[Operand.tmp 89],argTypes:=#[29]},none⟩,
 ⟨some 13,Op.assign (Operand.tmp 90),none⟩])
 (.seq
 (.region [] false ([]) [
 ⟨some 91,Op.move (Operand.tmp 13),none⟩,
 ⟨some 92,Op.binOp BinOp.add 2 (Operand.tmp 91) (Operand.const (Value.int IntKind.i64 1)) 2,none⟩,
 ⟨some 93,Op.fieldAddr 102 (Operand.tmp 12) 6,none⟩,
 ⟨none,Op.store 2 (Operand.tmp 93) (Operand.tmp 92),none⟩])
 (.seq
 (.region [14] false ([]) [
 ⟨some 94,Op.move (Operand.tmp 11),none⟩,
 ⟨some 95,Op.move (Operand.tmp 10),none⟩,
 ⟨some 96,Op.fieldAddr 100 (Operand.tmp 8) 3,none⟩,
 ⟨some 97,Op.load 22 (Operand.tmp 96),none⟩,
 ⟨some 98,Op.move (Operand.tmp 9),none⟩,
 ⟨some 99,Op.indexAddr 22 (Operand.tmp 97) (Operand.tmp 98),none⟩,
 ⟨some 100,Op.load 2 (Operand.tmp 99),none⟩,
 ⟨some 101,Op.move (Operand.tmp 7),none⟩,
 ⟨some 102,Op.move (Operand.tmp 9),none⟩,
 ⟨some 103,Op.move (Operand.tmp 13),none⟩,
 ⟨some 104,Op.build 102 #[(0,Operand.tmp 94),(1,Operand.tmp 95),(2,Operand.tmp 100),(3,Operand.tmp 101),(4,Operand.tmp 102),(5,Operand.const (Value.bool true)),(6,Operand.tmp 103)],none⟩,
 ⟨some 14,Op.alloc 102,none⟩,
 ⟨none,Op.store 102 (Operand.tmp 14) (Operand.tmp 104),none⟩])
 (.region [109,110] false ([]) [
 ⟨some 105,Op.fieldAddr 31 (Operand.tmp 4) 1,none⟩,
 ⟨some 106,Op.load 29 (Operand.tmp 105),none⟩,
 ⟨some 107,Op.load 102 (Operand.tmp 12),none⟩,
 ⟨some 108,Op.load 102 (Operand.tmp 14),none⟩,
 ⟨some 109,Op.buildSlice 29 2 #[(0,Operand.tmp 107),(1,Operand.tmp 108)],none⟩,
 ⟨some 110,Op.call {callee:=Callee.builtin Builtin.append,args:=#[Operand.tmp 106,Operand.tmp 109],argTypes:=#[29,29]},none⟩,
 ⟨some 111,Op.fieldAddr 31 (Operand.tmp 4) 1,none⟩,
 ⟨none,Op.store 29 (Operand.tmp 111) (Operand.tmp 110),none⟩])))))))))
 (.region [] false ([]) [
 ⟨some 112,Op.binOp BinOp.add 3 (Operand.tmp 51) (Operand.const (Value.int IntKind.i64 1)) 3,none⟩,
 ⟨some 51,Op.move (Operand.tmp 112),none⟩]))))
/-- The body of a loop. -/
def k68_l1 : Code1 :=
 (.seq
 (.region [] false ([]) [
 ⟨some 44,Op.binOp BinOp.lss 3 (Operand.tmp 43) (Operand.tmp 42) 3,none⟩])
 (.seq
 (.cond (Operand.tmp 44)
 .skip
 (.exit 2))
 (.seq
 (.block 3
 (.seq
 (.region [8] false ([]) [
 ⟨some 45,Op.move (Operand.tmp 43),none⟩,
 ⟨some 46,Op.indexAddr 33 (Operand.tmp 41) (Operand.tmp 43),none⟩,
 ⟨some 47,Op.load 100 (Operand.tmp 46),none⟩,
 ⟨some 8,Op.alloc 100,none⟩,
 ⟨some 7,Op.assign (Operand.tmp 45),none⟩,
 ⟨none,Op.store 100 (Operand.tmp 8) (Operand.tmp 47),none⟩])
 (.seq
 (.region [] false ([]) [
 ⟨some 48,Op.fieldAddr 100 (Operand.tmp 8) 3,none⟩,
 ⟨some 49,Op.load 22 (Operand.tmp 48),none⟩,
 ⟨some 50,Op.call {callee:=Callee.builtin Builtin.len,args:=#[Operand.tmp 49],argTypes:=#[22]},none⟩,
 ⟨some 51,Op.move (Operand.const (Value.int IntKind.i64 0)),none⟩])
 (.block 4
 (.loop k68_l2)))))
 (.region [] false ([]) [
 ⟨some 113,Op.binOp BinOp.add 3 (Operand.tmp 43) (Operand.const (Value.int IntKind.i64 1)) 3,none⟩,
 ⟨some 43,Op.move (Operand.tmp 113),none⟩]))))
/-- The body of a loop. -/
def k68_l3 : Code1 :=
 (.seq
 (.region [] false ([]) [
 ⟨some 122,Op.binOp BinOp.lss 3 (Operand.tmp 121) (Operand.tmp 120) 3,none⟩])
 (.seq
 (.cond (Operand.tmp 122)
 .skip
 (.exit 6))
 (.seq
 (.block 7
 (.seq
 (.region [17] false ([]) [
 ⟨some 123,Op.move (Operand.tmp 121),none⟩,
 ⟨some 124,Op.indexAddr 29 (Operand.tmp 119) (Operand.tmp 121),none⟩,
 ⟨some 125,Op.load 102 (Operand.tmp 124),none⟩,
 ⟨some 17,Op.alloc 102,none⟩,
 ⟨some 16,Op.assign (Operand.tmp 123),none⟩,
 ⟨none,Op.store 102 (Operand.tmp 17) (Operand.tmp 125),none⟩])
 (.region [135,136] true ([999999]) [
 ⟨some 126,Op.move (Operand.tmp 15),none⟩,
 ⟨some 127,Op.fieldAddr 102 (Operand.tmp 17) 0,none⟩,
 ⟨some 128,Op.load 2 (Operand.tmp 127),none⟩,
 ⟨some 129,Op.move (Operand.tmp 15),none⟩,
 ⟨some 130,Op.fieldAddr 102 (Operand.tmp 17) 0,none⟩,
 ⟨some 131,Op.load 2 (Operand.tmp 130),none⟩,
 ⟨some 132,Op.indexAddr 198 (Operand.tmp 129) (Operand.tmp 131),none⟩,
 ⟨some 133,Op.load 22 (Operand.tmp 132),none⟩,
 ⟨some 134,Op.move (Operand.tmp 16),none⟩,
 ⟨some 135,Op.buildSlice 22 1 #[(0,Operand.tmp 134)],none⟩,
 ⟨some 136,Op.call {callee:=Callee.builtin Builtin.append,args:=#[Operand.tmp 133,Operand.tmp 135],argTypes:=#[22,22]},none⟩,
 ⟨some 137,Op.indexAddr 198 (Operand.tmp 126) (Operand.tmp 128),none⟩,
 ⟨none,Op.store 22 (Operand.tmp 137) (Operand.tmp 136),none⟩])))
 (.region [] false ([]) [
 ⟨some 138,Op.binOp BinOp.add 3 (Operand.tmp 121) (Operand.const (Value.int IntKind.i64 1)) 3,none⟩,
 ⟨some 121,Op.move (Operand.tmp 138),none⟩]))))
/-- The body of a loop. -/
def k68_l4 : Code1 :=
 (.seq
 (.region [] false ([]) [
 ⟨some 144,Op.binOp BinOp.lss 3 (Operand.tmp 143) (Operand.tmp 142) 3,none⟩])
 (.seq
 (.cond (Operand.tmp 144)
 .skip
 (.exit 8))
 (.seq
 (.block 9
 (.seq
 (.region [] false ([]) [
 ⟨some 145,Op.indexAddr 198 (Operand.tmp 141) (Operand.tmp 143),none⟩,
 ⟨some 146,Op.load 22 (Operand.tmp 145),none⟩,
 ⟨some 19,Op.assign (Operand.tmp 146),none⟩])
 (.seq
 (.region [150] false ([]) [
 ⟨some 147,Op.fieldAddr 31 (Operand.tmp 4) 3,none⟩,
 ⟨some 148,Op.load 22 (Operand.tmp 147),none⟩,
 ⟨some 149,Op.move (Operand.tmp 19),none⟩,
 ⟨some 150,Op.call {callee:=Callee.builtin Builtin.append,args:=#[Operand.tmp 148,Operand.tmp 149],argTypes:=#[22,22]},none⟩,
 ⟨some 151,Op.fieldAddr 31 (Operand.tmp 4) 3,none⟩,
 ⟨none,Op.store 22 (Operand.tmp 151) (Operand.tmp 150),none⟩])
 (.region [157,158] false ([]) [
 ⟨some 152,Op.fieldAddr 31 (Operand.tmp 4) 2,none⟩,
 ⟨some 153,Op.load 22 (Operand.tmp 152),none⟩,
 ⟨some 154,Op.fieldAddr 31 (Operand.tmp 4) 3,none⟩,
 ⟨some 155,Op.load 22 (Operand.tmp 154),none⟩,
 ⟨some 156,Op.call {callee:=Callee.builtin Builtin.len,args:=#[Operand.tmp 155],argTypes:=#[22]},none⟩,
 ⟨some 157,Op.buildSlice 22 1 #[(0,Operand.tmp 156)],none⟩,
 ⟨some 158,Op.call {callee:=Callee.builtin Builtin.append,args:=#[Operand.tmp 153,Operand.tmp 157],argTypes:=#[22,22]},none⟩,
 ⟨some 159,Op.fieldAddr 31 (Operand.tmp 4) 2,none⟩,
 ⟨none,Op.store 22 (Operand.tmp 159) (Operand.tmp 158),none⟩]))))
 (.region [] false ([]) [
 ⟨some 160,Op.binOp BinOp.add 3 (Operand.tmp 143) (Operand.const (Value.int IntKind.i64 1)) 3,none⟩,
 ⟨some 143,Op.move (Operand.tmp 160),none⟩]))))
/-- The code of impl.roadOf, its loops' bodies named. -/
def k68 : Code1 :=
 (.seq
 (.region [1,2] false ([]) [
 ⟨some 1,Op.box 37 (Operand.tmp 0),none⟩,
 ⟨some 2,Op.alloc 31,none⟩])
 (.seq
 (.region [20] false ([]) [
 ⟨some 20,Op.makeMap 197 none,none⟩,
 ⟨some 3,Op.assign (Operand.tmp 20),none⟩])
 (.seq
 (.region [4] false ([]) [
 ⟨some 21,Op.build 31 #[],none⟩,
 ⟨some 4,Op.alloc 31,none⟩,
 ⟨none,Op.store 31 (Operand.tmp 4) (Operand.tmp 21),none⟩])
 (.seq
 (.seq
 (.region [] false ([]) [
 ⟨some 22,Op.fieldAddr 37 (Operand.tmp 1) 0,none⟩,
 ⟨some 23,Op.load 22 (Operand.tmp 22),none⟩,
 ⟨some 24,Op.call {callee:=Callee.builtin Builtin.len,args:=#[Operand.tmp 23],argTypes:=#[22]},none⟩,
 ⟨some 25,Op.move (Operand.const (Value.int IntKind.i64 0)),none⟩])
 (.block 0
 (.loop k68_l0)))
 (.seq
 (.seq
 (.region [] false ([]) [
 ⟨some 40,Op.fieldAddr 37 (Operand.tmp 1) 1,none⟩,
 ⟨some 41,Op.load 33 (Operand.tmp 40),none⟩,
 ⟨some 42,Op.call {callee:=Callee.builtin Builtin.len,args:=#[Operand.tmp 41],argTypes:=#[33]},none⟩,
 ⟨some 43,Op.move (Operand.const (Value.int IntKind.i64 0)),none⟩])
 (.block 2
 (.loop k68_l1)))
 (.seq
 (.region [117] false ([]) [
 ⟨some 114,Op.fieldAddr 37 (Operand.tmp 1) 0,none⟩,
 ⟨some 115,Op.load 22 (Operand.tmp 114),none⟩,
 ⟨some 116,Op.call {callee:=Callee.builtin Builtin.len,args:=#[Operand.tmp 115],argTypes:=#[22]},none⟩,
 ⟨some 117,Op.makeSlice 198 (Operand.tmp 116) (Operand.tmp 116),none⟩,
 ⟨some 15,Op.assign (Operand.tmp 117),none⟩])
 (.seq
 (.seq
 (.region [] false ([]) [
 ⟨some 118,Op.fieldAddr 31 (Operand.tmp 4) 1,none⟩,
 ⟨some 119,Op.load 29 (Operand.tmp 118),none⟩,
 ⟨some 120,Op.call {callee:=Callee.builtin Builtin.len,args:=#[Operand.tmp 119],argTypes:=#[29]},none⟩,
 ⟨some 121,Op.move (Operand.const (Value.int IntKind.i64 0)),none⟩])
 (.block 6
 (.loop k68_l3)))
 (.seq
 (.region [139] false ([]) [
 ⟨some 139,Op.buildSlice 22 1 #[(0,Operand.const (Value.int IntKind.i64 0))],none⟩,
 ⟨some 140,Op.fieldAddr 31 (Operand.tmp 4) 2,none⟩,
 ⟨none,Op.store 22 (Operand.tmp 140) (Operand.tmp 139),none⟩])
 (.seq
 (.seq
 (.region [] false ([]) [
 ⟨some 141,Op.move (Operand.tmp 15),none⟩,
 ⟨some 142,Op.call {callee:=Callee.builtin Builtin.len,args:=#[Operand.tmp 141],argTypes:=#[198]},none⟩,
 ⟨some 143,Op.move (Operand.const (Value.int IntKind.i64 0)),none⟩])
 (.block 8
 (.loop k68_l4)))
 (.seq
 (.region [] false ([]) [
 ⟨some 161,Op.load 31 (Operand.tmp 4),none⟩,
 ⟨none,Op.store 31 (Operand.tmp 2) (Operand.tmp 161),none⟩])
 .ret))))))))))
set_option maxHeartbeats 0 in
theorem ro_l0 (n : Net) (h6 : n.nodes.length ≤ 2000) (hr : ∀ i : Nat, i < n.nodes.length → inR (rd n.nodes i)) {Q : Ex → St → Prop}
    (hE : ∀ s : St, (s.tm 1 = .ptr (1, 0) 0 0 ∧ s.ob (1, 0) = objN n ∧ s.tm 2 = .ptr (2, 0) 0 0 ∧ s.ob (2, 0) = nil4 ∧ s.tm 3 = .mp (20, 0) ∧ s.ob (20, 0) = some (.map 0 (vmap (Value.int .i64) (placeN n.nodes n.nodes.length))) ∧ s.tm 4 = .ptr (4, 0) 0 0 ∧ s.ob (4, 0) = some (.var [optR n.nodes (37, 0), nilV, nilV, nilV]) ∧ (¬ n.nodes.length = 0 → s.ob (37, 0) = some (.row 1 (intRow n.nodes)))) → Q .normal s)
    (m : Nat) (s : St) (hs : (fun (m : Nat) (s : St) => ∃ k : Nat, s.tm 1 = .ptr (1, 0) 0 0 ∧ s.ob (1, 0) = objN n ∧ s.tm 2 = .ptr (2, 0) 0 0 ∧ s.ob (2, 0) = nil4 ∧ s.tm 3 = .mp (20, 0) ∧ s.ob (20, 0) = some (.map 0 (vmap (Value.int .i64) (placeN n.nodes k))) ∧ s.tm 4 = .ptr (4, 0) 0 0 ∧ s.ob (4, 0) = some (.var [optR (n.nodes.take k) (37, 0), nilV, nilV, nilV]) ∧ (¬ (n.nodes.take k).length = 0 → s.ob (37, 0) = some (.row 1 (intRow (n.nodes.take k)))) ∧ s.tm 23 = .t (ints n.nodes) ∧ s.tm 24 = .t (.v (.int .i64 n.nodes.length)) ∧ s.tm 25 = .t (.v (.int .i64 k)) ∧ k ≤ n.nodes.length ∧ m = n.nodes.length - k) m s) (K' : St → Prop)
    (hN : ∀ (m' : Nat) (s' : St), m' < m → (fun (m : Nat) (s : St) => ∃ k : Nat, s.tm 1 = .ptr (1, 0) 0 0 ∧ s.ob (1, 0) = objN n ∧ s.tm 2 = .ptr (2, 0) 0 0 ∧ s.ob (2, 0) = nil4 ∧ s.tm 3 = .mp (20, 0) ∧ s.ob (20, 0) = some (.map 0 (vmap (Value.int .i64) (placeN n.nodes k))) ∧ s.tm 4 = .ptr (4, 0) 0 0 ∧ s.ob (4, 0) = some (.var [optR (n.nodes.take k) (37, 0), nilV, nilV, nilV]) ∧ (¬ (n.nodes.take k).length = 0 → s.ob (37, 0) = some (.row 1 (intRow (n.nodes.take k)))) ∧ s.tm 23 = .t (ints n.nodes) ∧ s.tm 24 = .t (.v (.int .i64 n.nodes.length)) ∧ s.tm 25 = .t (.v (.int .i64 k)) ∧ k ≤ n.nodes.length ∧ m = n.nodes.length - k) m' s' → K' s') :
    wp2 Try.prog k68_l0 (thenQ K' (inBlk 0 Q)) s := by
  obtain ⟨k, s1, o1, s2, o2, s3, o20, s4, o4, o37, s23, s24, s25, hk, rfl⟩ := hs
  have hpl : mset (placeN n.nodes k) (.i (rd n.nodes k)) k = placeN n.nodes (k + 1) := rfl
  have hin := hr k
  simp only [inR] at hin
  simp only [objN] at o1
  simp only [nil4] at o2
  have hlen : (n.nodes.take k).length = k := by rw [List.length_take]; omega
  have htk : k < n.nodes.length → n.nodes.take (k + 1) = n.nodes.take k ++ [rd n.nodes k] := fun hlt => by
    rw [List.take_add_one, List.getElem?_eq_getElem hlt]
    simp [rd, List.getD_eq_getElem?_getD, hlt]
  have hall : k = n.nodes.length → n.nodes.take k = n.nodes := fun e => by rw [e, List.take_length]
  generalize n.nodes.take k = L at *
  unfold k68_l0
  by_cases hlt : k < n.nodes.length
  · have hin := hin hlt
    by_cases h0 : L.length = 0
    · rw [optR_nil _ h0] at o4
      simp only [nilV] at o4
      repeat' (first
       | refine wp2_seq fun K hK => ?_
       | refine M_cons fun K hK => ?_
       | (refine hK _ ?_; clear hK K)
       | (refine hX _ ?_; clear hX hY X Y)
       | (refine hY _ ?_; clear hX hY X Y)
       | refine wp2_block ?_
       | refine wp2_rename (mk := [36, 37]) 37 60001 (by decide) ?_
       | refine wp2_region ?_
       | refine wp2_cond fun X Y hX hY => ?_
       | (refine condK_of (fun c => ?_) (fun c => ?_) <;> (try simp [-List.length_eq_zero_iff] at c))
       | simp (maxSteps := 4000000) (disch := omega) [s1, o1, s2, o2, s3, o20, s4, o4, s23, s24, s25])
      all_goals first | omega | skip
      refine hN (n.nodes.length - (k + 1)) _ (by omega) ⟨k + 1, ?_⟩
      rw [htk hlt, ← hpl]
      have hX0 : L = [] := List.eq_nil_of_length_eq_zero h0
      subst hX0
      have hrr : optR ([] ++ [rd n.nodes (k : Int)]) (37, 0) = .row (37, 0) 1 0 1 := rfl
      rw [hrr]
      exact ⟨by simp [s1], by simp [o1, objN], by simp [s2], by simp [o2, nil4], by simp [s3], by simp, by simp [s4], by simp [nilV], fun _ => by simp, by simp [s23], by simp [s24], by simp, by omega, by omega⟩
    · rw [optR_row _ h0] at o4
      have o37 := o37 h0
      simp only [nilV] at o4
      repeat' (first
       | refine wp2_seq fun K hK => ?_
       | refine M_cons fun K hK => ?_
       | (refine hK _ ?_; clear hK K)
       | (refine hX _ ?_; clear hX hY X Y)
       | (refine hY _ ?_; clear hX hY X Y)
       | refine wp2_block ?_
       | refine wp2_rename (mk := [36, 37]) 37 60001 (by decide) ?_
       | refine wp2_region ?_
       | refine wp2_cond fun X Y hX hY => ?_
       | (refine condK_of (fun c => ?_) (fun c => ?_) <;> (try simp [-List.length_eq_zero_iff] at c))
       | simp (maxSteps := 4000000) (disch := omega) [s1, o1, s2, o2, s3, o20, s4, o4, o37, s23, s24, s25])
      all_goals first | omega | skip
      refine hN (n.nodes.length - (k + 1)) _ (by omega) ⟨k + 1, ?_⟩
      rw [htk hlt, ← hpl]
      have hrr : optR (L ++ [rd n.nodes (k : Int)]) (37, 0) = .row (37, 0) 1 0 (L.length + 1) := by
        rw [optR_row _ (by simp)]
        simp
      rw [hrr]
      exact ⟨by simp [s1], by simp [o1, objN], by simp [s2], by simp [o2, nil4], by simp [s3], by simp, by simp [s4], by simp [nilV], fun _ => by simp, by simp [s23], by simp [s24], by simp, by omega, by omega⟩
  · have e1 : k = n.nodes.length := by omega
    have he := hall e1
    subst he
    repeat' (first
     | refine wp2_seq fun K hK => ?_
     | refine M_cons fun K hK => ?_
     | (refine hK _ ?_; clear hK K)
     | (refine hX _ ?_; clear hX hY X Y)
     | (refine hY _ ?_; clear hX hY X Y)
     | refine wp2_block ?_
     | refine wp2_region ?_
     | refine wp2_cond fun X Y hX hY => ?_
     | (refine condK_of (fun c => ?_) (fun c => ?_) <;> (try simp [-List.length_eq_zero_iff] at c))
     | simp (maxSteps := 4000000) (disch := omega) [s1, o1, s2, o2, s3, o20, s4, o4, s23, s24, s25])
    all_goals first | omega | skip
    refine hE _ ?_
    rw [e1] at o20
    exact ⟨by simp [s1], by simp [o1, objN], by simp [s2], by simp [o2, nil4], by simp [s3], by simp [o20], by simp [s4], by simp [o4], fun h => by simp [o37 h]⟩
end Cal

set_option linter.unusedSimpArgs false
set_option linter.unusedVariables false
namespace Cal
open Go Go.Proofs
set_option maxRecDepth 100000
def optE (l : List Ed) (id : Id) : AV := if l.length = 0 then .t (.v (.slice none 0 0)) else .row id 7 0 l.length
section
variable (l : List Ed) (a b : Nat)
@[simp] theorem optE_kill (ds : List Nat) : (optE l (a, b)).kill ds = if ds.contains a = true then (if l.length = 0 then .t (.v (.slice none 0 0)) else .bad) else optE l (a, b) := by
  unfold optE
  by_cases h : l.length = 0 <;> by_cases h2 : a ∈ ds <;> simp [h, h2]
@[simp] theorem optE_ren (r : Id → Id) (id : Id) : (optE l id).renG r = optE l (r id) := by
  unfold optE
  by_cases h : l.length = 0 <;> simp [h]
@[simp] theorem optE_one (id : Id) : (optE l id).one = true := by
  unfold optE
  split <;> rfl
@[simp] theorem optE_cells (id : Id) : (optE l id).cells = [optE l id] := by
  unfold optE
  split <;> rfl
@[simp] theorem optE_len (id : Id) (k : Nat) : lenA (.sl k) (optE l id) = some l.length := by
  unfold optE
  by_cases h : l.length = 0
  · rw [if_pos h, h]
    rfl
  · rw [if_neg h]
    rfl
@[simp] theorem optR_kill1s (l : List Int) (c d : Nat) : (optR l (a, b)).kill1 (c, d) = if a = c ∧ b = d then (if l.length = 0 then .t (.v (.slice none 0 0)) else .bad) else optR l (a, b) := by
  unfold optR
  by_cases h : l.length = 0 <;> by_cases h2 : a = c ∧ b = d <;> simp [h, h2]
theorem wrap_one : IntKind.i64.wrap 1 = 1 := rfl
end
theorem optE_nil {l : List Ed} (id : Id) (h : l.length = 0) : optE l id = .t (.v (.slice none 0 0)) := by unfold optE; rw [if_pos h]
theorem optE_row {l : List Ed} (id : Id) (h : ¬ l.length = 0) : optE l id = .row id 7 0 l.length := by unfold optE; rw [if_neg h]
@[simp] theorem appendE_nil1 (d : Nat) (st : St) (x1 x2 x3 x4 x5 x7 : Int) (x6 : Bool) : appendA d st ⟨true, 7, 56, [.int .i64 0, .int .i64 0, .int .i64 0, .int .i64 0, .int .i64 0, .bool false, .int .i64 0]⟩ (.t (.v (.slice none 0 0))) [[.v (.int .i64 x1), .v (.int .i64 x2), .v (.int .i64 x3), .v (.int .i64 x4), .v (.int .i64 x5), .v (.bool x6), .v (.int .i64 x7)]] = some (.row (d, 0) 7 0 1, [((d, 0), some (.row 7 (recRow encE [⟨x1, x2, x3, x4, x5, x6, x7⟩])))]) := rfl
@[simp] theorem appendE_nil2 (d : Nat) (st : St) (x1 x2 x3 x4 x5 x7 : Int) (x6 : Bool) (y1 y2 y3 y4 y5 y7 : Int) (y6 : Bool) : appendA d st ⟨true, 7, 56, [.int .i64 0, .int .i64 0, .int .i64 0, .int .i64 0, .int .i64 0, .bool false, .int .i64 0]⟩ (.t (.v (.slice none 0 0))) [[.v (.int .i64 x1), .v (.int .i64 x2), .v (.int .i64 x3), .v (.int .i64 x4), .v (.int .i64 x5), .v (.bool x6), .v (.int .i64 x7)], [.v (.int .i64 y1), .v (.int .i64 y2), .v (.int .i64 y3), .v (.int .i64 y4), .v (.int .i64 y5), .v (.bool y6), .v (.int .i64 y7)]] = some (.row (d, 0) 7 0 2, [((d, 0), some (.row 7 (recRow encE [⟨x1, x2, x3, x4, x5, x6, x7⟩, ⟨y1, y2, y3, y4, y5, y6, y7⟩])))]) := rfl
/-! edges with twins -/
def blkT (n : Net) (i j k : Nat) : List Ed := if (nth n.ways (i : Int)).two = true then [{ edA n i j with twin := (k : Int) + 1 }, { edB n i j with twin := (k : Int) }] else [edA n i j]
def segsT (n : Net) (i b : Nat) : Nat → List Ed
  | 0 => []
  | j + 1 => segsT n i b j ++ blkT n i j (b + (segsT n i b j).length)
def edsT (n : Net) : Nat → List Ed
  | 0 => []
  | i + 1 => edsT n i ++ segsT n i (edsT n i).length (nth n.ways (i : Int)).lens.length
theorem segsT_length (n : Net) (i b : Nat) : ∀ j : Nat, (segsT n i b j).length = (segs n i j).length
  | 0 => rfl
  | j + 1 => by
    have := segsT_length n i b j
    unfold segsT segs blkT blk
    rw [List.length_append, List.length_append, this]
    split <;> rfl
theorem edsT_length (n : Net) : ∀ i : Nat, (edsT n i).length = (edgs n i).length
  | 0 => rfl
  | i + 1 => by
    have := edsT_length n i
    unfold edsT edgs
    rw [List.length_append, List.length_append, this, segsT_length]
set_option maxHeartbeats 0 in
theorem ro_l2 (n : Net) (i : Nat) (hi : i < n.ways.length) (h1 : (nth n.ways (i : Int)).lens.length ≤ 1048576) (h3 : (nth n.ways (i : Int)).nodes.length = (nth n.ways (i : Int)).lens.length + 1)
    (hg : ∀ j : Nat, j < (nth n.ways (i : Int)).nodes.length → inR (rd (nth n.ways (i : Int)).nodes (j : Int)) ∧ mget (placeN n.nodes n.nodes.length) (.i (rd (nth n.ways (i : Int)).nodes (j : Int))) = some (pos n.nodes (rd (nth n.ways (i : Int)).nodes (j : Int))))
    (hL : (edgs n i).length + (segs n i (nth n.ways (i : Int)).lens.length).length ≤ 4000) {Q : Ex → St → Prop}
    (hE : ∀ s : St, (s.tm 1 = .ptr (1, 0) 0 0 ∧ s.ob (1, 0) = objN n ∧ s.tm 2 = .ptr (2, 0) 0 0 ∧ s.ob (2, 0) = nil4 ∧ s.tm 3 = .mp (20, 0) ∧ s.ob (20, 0) = some (.map 0 (vmap (Value.int .i64) (placeN n.nodes n.nodes.length))) ∧ s.tm 4 = .ptr (4, 0) 0 0 ∧ s.ob (4, 0) = some (.var [optR n.nodes (37, 0), optE (edsT n (i + 1)) (60004, 0), nilV, nilV]) ∧ (¬ n.nodes.length = 0 → s.ob (37, 0) = some (.row 1 (intRow n.nodes))) ∧ (¬ (edsT n (i + 1)).length = 0 → s.ob (60004, 0) = some (.row 7 (recRow encE (edsT n (i + 1))))) ∧ s.tm 41 = .t (recs encW n.ways) ∧ s.tm 42 = .t (.v (.int .i64 n.ways.length)) ∧ s.tm 43 = .t (.v (.int .i64 i))) → Q .normal s)
    (m : Nat) (s : St) (hs : (fun (m : Nat) (s : St) => ∃ j : Nat, s.tm 1 = .ptr (1, 0) 0 0 ∧ s.ob (1, 0) = objN n ∧ s.tm 2 = .ptr (2, 0) 0 0 ∧ s.ob (2, 0) = nil4 ∧ s.tm 3 = .mp (20, 0) ∧ s.ob (20, 0) = some (.map 0 (vmap (Value.int .i64) (placeN n.nodes n.nodes.length))) ∧ s.tm 4 = .ptr (4, 0) 0 0 ∧ s.ob (4, 0) = some (.var [optR n.nodes (37, 0), optE (edsT n i ++ segsT n i (edsT n i).length j) (60004, 0), nilV, nilV]) ∧ (¬ n.nodes.length = 0 → s.ob (37, 0) = some (.row 1 (intRow n.nodes))) ∧ (¬ (edsT n i ++ segsT n i (edsT n i).length j).length = 0 → s.ob (60004, 0) = some (.row 7 (recRow encE (edsT n i ++ segsT n i (edsT n i).length j)))) ∧ s.tm 41 = .t (recs encW n.ways) ∧ s.tm 42 = .t (.v (.int .i64 n.ways.length)) ∧ s.tm 43 = .t (.v (.int .i64 i)) ∧ s.tm 7 = .t (.v (.int .i64 i)) ∧ s.tm 8 = .ptr (8, 0) 0 0 ∧ s.ob (8, 0) = objW (nth n.ways (i : Int)) ∧ s.tm 50 = .t (.v (.int .i64 (nth n.ways (i : Int)).lens.length)) ∧ s.tm 51 = .t (.v (.int .i64 j)) ∧ j ≤ (nth n.ways (i : Int)).lens.length ∧ m = (nth n.ways (i : Int)).lens.length - j) m s) (K' : St → Prop)
    (hN : ∀ (m' : Nat) (s' : St), m' < m → (fun (m : Nat) (s : St) => ∃ j : Nat, s.tm 1 = .ptr (1, 0) 0 0 ∧ s.ob (1, 0) = objN n ∧ s.tm 2 = .ptr (2, 0) 0 0 ∧ s.ob (2, 0) = nil4 ∧ s.tm 3 = .mp (20, 0) ∧ s.ob (20, 0) = some (.map 0 (vmap (Value.int .i64) (placeN n.nodes n.nodes.length))) ∧ s.tm 4 = .ptr (4, 0) 0 0 ∧ s.ob (4, 0) = some (.var [optR n.nodes (37, 0), optE (edsT n i ++ segsT n i (edsT n i).length j) (60004, 0), nilV, nilV]) ∧ (¬ n.nodes.length = 0 → s.ob (37, 0) = some (.row 1 (intRow n.nodes))) ∧ (¬ (edsT n i ++ segsT n i (edsT n i).length j).length = 0 → s.ob (60004, 0) = some (.row 7 (recRow encE (edsT n i ++ segsT n i (edsT n i).length j)))) ∧ s.tm 41 = .t (recs encW n.ways) ∧ s.tm 42 = .t (.v (.int .i64 n.ways.length)) ∧ s.tm 43 = .t (.v (.int .i64 i)) ∧ s.tm 7 = .t (.v (.int .i64 i)) ∧ s.tm 8 = .ptr (8, 0) 0 0 ∧ s.ob (8, 0) = objW (nth n.ways (i : Int)) ∧ s.tm 50 = .t (.v (.int .i64 (nth n.ways (i : Int)).lens.length)) ∧ s.tm 51 = .t (.v (.int .i64 j)) ∧ j ≤ (nth n.ways (i : Int)).lens.length ∧ m = (nth n.ways (i : Int)).lens.length - j) m' s' → K' s') :
    wp2 Try.prog k68_l2 (thenQ K' (inBlk 4 Q)) s := by
  obtain ⟨j, s1, o1, s2, o2, s3, o20, s4, o4, o37, o60, s41, s42, s43, s7, s8, o8, s50, s51, hj, rfl⟩ := hs
  simp only [objW] at o8
  have hblk : ∀ k : Nat, k = (edsT n i ++ segsT n i (edsT n i).length j).length → edsT n i ++ segsT n i (edsT n i).length (j + 1) = (edsT n i ++ segsT n i (edsT n i).length j) ++ blkT n i j k := fun k hk => by
    rw [hk, List.length_append, segsT, List.append_assoc]
  have hlen : j < (nth n.ways (i : Int)).lens.length → (edsT n i ++ segsT n i (edsT n i).length j).length ≤ 8000 := by
    intro hlt
    have e1 := segs_length n i j
    have e2 := segs_length n i (nth n.ways (i : Int)).lens.length
    rw [List.length_append, segsT_length, edsT_length]
    split at e1 <;> split at e2 <;> simp_all <;> omega
  have hend : j = (nth n.ways (i : Int)).lens.length → edsT n i ++ segsT n i (edsT n i).length j = edsT n (i + 1) := fun e => by
    rw [e]
    rfl
  generalize edsT n i ++ segsT n i (edsT n i).length j = M at *
  unfold k68_l2
  by_cases hlt : j < (nth n.ways (i : Int)).lens.length
  · have hlen := hlen hlt
    obtain ⟨b1, p1⟩ := hg j (by omega)
    obtain ⟨b2, p2⟩ := hg (j + 1) (by omega)
    rw [Int.natCast_add, Int.natCast_one] at b2 p2
    simp only [inR] at b1 b2
    obtain ⟨b11, b12⟩ := b1
    obtain ⟨b21, b22⟩ := b2
    cases ht : (nth n.ways (i : Int)).two with
    | true =>
      have hb : blkT n i j M.length = [{ edA n i j with twin := (M.length : Int) + 1 }, { edB n i j with twin := (M.length : Int) }] := by simp [blkT, ht]
      simp only [edA, edB] at hb
      by_cases h0 : M.length = 0
      · rw [optE_nil _ h0] at o4
        repeat' (first
         | refine wp2_seq fun K hK => ?_
         | refine M_cons fun K hK => ?_
         | (refine hK _ ?_; clear hK K)
         | (refine hX _ ?_; clear hX hY X Y)
         | (refine hY _ ?_; clear hX hY X Y)
         | refine wp2_block ?_
         | (refine wp2_ren1' (ops := ⟨some 112, _, _⟩ :: _) (110, 0) (60004, 0) (by rfl) (by simp [s3, o20, s4, o4, s7, s8, o8, s50, s51, ht, p1, p2, nilV] <;> first | rfl | exact ⟨rfl, rfl⟩) ?_)
         | refine wp2_region ?_
         | refine wp2_cond fun X Y hX hY => ?_
         | (refine condK_of (fun c => ?_) (fun c => ?_) <;> (try simp [-List.length_eq_zero_iff] at c))
         | simp (maxSteps := 4000000) (disch := omega) [s3, o20, s4, o4, s7, s8, o8, s50, s51, ht, p1, p2, nilV])
        all_goals first | omega | skip
        refine hN ((nth n.ways (i : Int)).lens.length - (j + 1)) _ (by omega) ⟨j + 1, ?_⟩
        rw [hblk M.length rfl, hb]
        have hX0 : M = [] := List.eq_nil_of_length_eq_zero h0
        subst hX0
        rw [optE_row _ (by simp)]
        exact ⟨by simp [s1], by simp [o1, objN], by simp [s2], by simp [o2, nil4], by simp [s3], by simp [o20], by simp [s4], by simp [nilV], fun h => by simp [o37 h], fun _ => by simp [wrap_one], by simp [s41], by simp [s42], by simp [s43], by simp [s7], by simp [s8], by simp [o8, objW], by simp [s50], by simp, by omega, by omega⟩
      · rw [optE_row _ h0] at o4
        have o60 := o60 h0
        repeat' (first
         | refine wp2_seq fun K hK => ?_
         | refine M_cons fun K hK => ?_
         | (refine hK _ ?_; clear hK K)
         | (refine hX _ ?_; clear hX hY X Y)
         | (refine hY _ ?_; clear hX hY X Y)
         | refine wp2_block ?_
         | (refine wp2_ren1' (ops := ⟨some 112, _, _⟩ :: _) (110, 0) (60004, 0) (by rfl) (by simp [s3, o20, s4, o4, o60, s7, s8, o8, s50, s51, ht, p1, p2, nilV] <;> first | rfl | exact ⟨rfl, rfl⟩) ?_)
         | refine wp2_region ?_
         | refine wp2_cond fun X Y hX hY => ?_
         | (refine condK_of (fun c => ?_) (fun c => ?_) <;> (try simp [-List.length_eq_zero_iff] at c))
         | simp (maxSteps := 4000000) (disch := omega) [s3, o20, s4, o4, o60, s7, s8, o8, s50, s51, ht, p1, p2, nilV])
        all_goals first | omega | skip
        refine hN ((nth n.ways (i : Int)).lens.length - (j + 1)) _ (by omega) ⟨j + 1, ?_⟩
        rw [hblk M.length rfl, hb]
        rw [optE_row _ (by simp)]
        exact ⟨by simp [s1], by simp [o1, objN], by simp [s2], by simp [o2, nil4], by simp [s3], by simp [o20], by simp [s4], by simp [nilV], fun h => by simp [o37 h], fun _ => by simp [wrap_one], by simp [s41], by simp [s42], by simp [s43], by simp [s7], by simp [s8], by simp [o8, objW], by simp [s50], by simp, by omega, by omega⟩
    | false =>
      have hb : blkT n i j M.length = [edA n i j] := by simp [blkT, ht]
      simp only [edA] at hb
      by_cases h0 : M.length = 0
      · rw [optE_nil _ h0] at o4
        repeat' (first
         | refine wp2_seq fun K hK => ?_
         | refine M_cons fun K hK => ?_
         | (refine hK _ ?_; clear hK K)
         | (clear hK K; refine hK _ ?_; clear hK K)
         | (refine hX _ ?_; clear hX hY X Y)
         | (refine hY _ ?_; clear hX hY X Y)
         | refine wp2_block ?_
         | (refine wp2_ren1' (ops := ⟨some 112, _, _⟩ :: _) (86, 0) (60004, 0) (by rfl) (by simp [s3, o20, s4, o4, s7, s8, o8, s50, s51, ht, p1, p2, nilV] <;> first | rfl | exact ⟨rfl, rfl⟩) ?_)
         | refine wp2_region ?_
         | refine wp2_cond fun X Y hX hY => ?_
         | (refine condK_of (fun c => ?_) (fun c => ?_) <;> (try simp [-List.length_eq_zero_iff] at c))
         | simp (maxSteps := 4000000) (disch := omega) [s3, o20, s4, o4, s7, s8, o8, s50, s51, ht, p1, p2, nilV])
        all_goals first | omega | skip
        refine hN ((nth n.ways (i : Int)).lens.length - (j + 1)) _ (by omega) ⟨j + 1, ?_⟩
        rw [hblk M.length rfl, hb]
        have hX0 : M = [] := List.eq_nil_of_length_eq_zero h0
        subst hX0
        rw [optE_row _ (by simp)]
        exact ⟨by simp [s1], by simp [o1, objN], by simp [s2], by simp [o2, nil4], by simp [s3], by simp [o20], by simp [s4], by simp [nilV], fun h => by simp [o37 h], fun _ => by simp [wrap_one], by simp [s41], by simp [s42], by simp [s43], by simp [s7], by simp [s8], by simp [o8, objW], by simp [s50], by simp, by omega, by omega⟩
      · rw [optE_row _ h0] at o4
        have o60 := o60 h0
        repeat' (first
         | refine wp2_seq fun K hK => ?_
         | refine M_cons fun K hK => ?_
         | (refine hK _ ?_; clear hK K)
         | (clear hK K; refine hK _ ?_; clear hK K)
         | (refine hX _ ?_; clear hX hY X Y)
         | (refine hY _ ?_; clear hX hY X Y)
         | refine wp2_block ?_
         | (refine wp2_ren1' (ops := ⟨some 112, _, _⟩ :: _) (86, 0) (60004, 0) (by rfl) (by simp [s3, o20, s4, o4, o60, s7, s8, o8, s50, s51, ht, p1, p2, nilV] <;> first | rfl | exact ⟨rfl, rfl⟩) ?_)
         | refine wp2_region ?_
         | refine wp2_cond fun X Y hX hY => ?_
         | (refine condK_of (fun c => ?_) (fun c => ?_) <;> (try simp [-List.length_eq_zero_iff] at c))
         | simp (maxSteps := 4000000) (disch := omega) [s3, o20, s4, o4, o60, s7, s8, o8, s50, s51, ht, p1, p2, nilV])
        all_goals first | omega | skip
        refine hN ((nth n.ways (i : Int)).lens.length - (j + 1)) _ (by omega) ⟨j + 1, ?_⟩
        rw [hblk M.length rfl, hb]
        rw [optE_row _ (by simp)]
        exact ⟨by simp [s1], by simp [o1, objN], by simp [s2], by simp [o2, nil4], by simp [s3], by simp [o20], by simp [s4], by simp [nilV], fun h => by simp [o37 h], fun _ => by simp [wrap_one], by simp [s41], by simp [s42], by simp [s43], by simp [s7], by simp [s8], by simp [o8, objW], by simp [s50], by simp, by omega, by omega⟩
  · have e1 : j = (nth n.ways (i : Int)).lens.length := by omega
    have he := hend e1
    subst he
    repeat' (first
     | refine wp2_seq fun K hK => ?_
     | refine M_cons fun K hK => ?_
     | (refine hK _ ?_; clear hK K)
     | (refine hX _ ?_; clear hX hY X Y)
     | (refine hY _ ?_; clear hX hY X Y)
     | refine wp2_block ?_
     | refine wp2_region ?_
     | refine wp2_cond fun X Y hX hY => ?_
     | (refine condK_of (fun c => ?_) (fun c => ?_) <;> (try simp [-List.length_eq_zero_iff] at c))
     | simp (maxSteps := 4000000) (disch := omega) [s3, o20, s4, o4, s7, s8, o8, s50, s51])
    all_goals first | omega | skip
    refine hE _ ?_
    exact ⟨by simp [s1], by simp [o1, objN], by simp [s2], by simp [o2, nil4], by simp [s3], by simp [o20], by simp [s4], by simp [o4], fun h => by simp [o37 h], fun h => by simp [o60 h], by simp [s41], by simp [s42], by simp [s43]⟩
end Cal

set_option linter.unusedSimpArgs false
set_option linter.unusedVariables false
namespace Cal
open Go Go.Proofs
set_option maxRecDepth 100000
set_option maxHeartbeats 0 in
theorem ro_l1 (n : Net) (ll : ∀ i : Nat, i < n.ways.length → (nth n.ways (i : Int)).lens.length ≤ 1048576) (h3 : ∀ i : Nat, i < n.ways.length → (nth n.ways (i : Int)).nodes.length = (nth n.ways (i : Int)).lens.length + 1)
    (hg : ∀ i : Nat, i < n.ways.length → ∀ j : Nat, j < (nth n.ways (i : Int)).nodes.length → inR (rd (nth n.ways (i : Int)).nodes (j : Int)) ∧ mget (placeN n.nodes n.nodes.length) (.i (rd (nth n.ways (i : Int)).nodes (j : Int))) = some (pos n.nodes (rd (nth n.ways (i : Int)).nodes (j : Int))))
    (hL : (edgs n n.ways.length).length ≤ 4000) (hw : n.ways.length ≤ 2000) {Q : Ex → St → Prop}
    (hE : ∀ s : St, (s.tm 1 = .ptr (1, 0) 0 0 ∧ s.ob (1, 0) = objN n ∧ s.tm 2 = .ptr (2, 0) 0 0 ∧ s.ob (2, 0) = nil4 ∧ s.tm 4 = .ptr (4, 0) 0 0 ∧ s.ob (4, 0) = some (.var [optR n.nodes (37, 0), optE (edsT n n.ways.length) (60004, 0), nilV, nilV]) ∧ (¬ n.nodes.length = 0 → s.ob (37, 0) = some (.row 1 (intRow n.nodes))) ∧ (¬ (edsT n n.ways.length).length = 0 → s.ob (60004, 0) = some (.row 7 (recRow encE (edsT n n.ways.length))))) → Q .normal s)
    (m : Nat) (s : St) (hs : (fun (m : Nat) (s : St) => ∃ i : Nat, s.tm 1 = .ptr (1, 0) 0 0 ∧ s.ob (1, 0) = objN n ∧ s.tm 2 = .ptr (2, 0) 0 0 ∧ s.ob (2, 0) = nil4 ∧ s.tm 3 = .mp (20, 0) ∧ s.ob (20, 0) = some (.map 0 (vmap (Value.int .i64) (placeN n.nodes n.nodes.length))) ∧ s.tm 4 = .ptr (4, 0) 0 0 ∧ s.ob (4, 0) = some (.var [optR n.nodes (37, 0), optE (edsT n i) (60004, 0), nilV, nilV]) ∧ (¬ n.nodes.length = 0 → s.ob (37, 0) = some (.row 1 (intRow n.nodes))) ∧ (¬ (edsT n i).length = 0 → s.ob (60004, 0) = some (.row 7 (recRow encE (edsT n i)))) ∧ s.tm 41 = .t (recs encW n.ways) ∧ s.tm 42 = .t (.v (.int .i64 n.ways.length)) ∧ s.tm 43 = .t (.v (.int .i64 i)) ∧ i ≤ n.ways.length ∧ m = n.ways.length - i) m s) (K' : St → Prop)
    (hN : ∀ (m' : Nat) (s' : St), m' < m → (fun (m : Nat) (s : St) => ∃ i : Nat, s.tm 1 = .ptr (1, 0) 0 0 ∧ s.ob (1, 0) = objN n ∧ s.tm 2 = .ptr (2, 0) 0 0 ∧ s.ob (2, 0) = nil4 ∧ s.tm 3 = .mp (20, 0) ∧ s.ob (20, 0) = some (.map 0 (vmap (Value.int .i64) (placeN n.nodes n.nodes.length))) ∧ s.tm 4 = .ptr (4, 0) 0 0 ∧ s.ob (4, 0) = some (.var [optR n.nodes (37, 0), optE (edsT n i) (60004, 0), nilV, nilV]) ∧ (¬ n.nodes.length = 0 → s.ob (37, 0) = some (.row 1 (intRow n.nodes))) ∧ (¬ (edsT n i).length = 0 → s.ob (60004, 0) = some (.row 7 (recRow encE (edsT n i)))) ∧ s.tm 41 = .t (recs encW n.ways) ∧ s.tm 42 = .t (.v (.int .i64 n.ways.length)) ∧ s.tm 43 = .t (.v (.int .i64 i)) ∧ i ≤ n.ways.length ∧ m = n.ways.length - i) m' s' → K' s') :
    wp2 Try.prog k68_l1 (thenQ K' (inBlk 2 Q)) s := by
  obtain ⟨i, s1, o1, s2, o2, s3, o20, s4, o4, o37, o60, s41, s42, s43, hi, rfl⟩ := hs
  unfold k68_l1
  by_cases hlt : i < n.ways.length
  · have g1 := ll i hlt
    have g3 := edgs_mono n (show i + 1 ≤ n.ways.length by omega)
    have g4 : (edgs n (i + 1)).length = (edgs n i).length + (segs n i (nth n.ways (i : Int)).lens.length).length := List.length_append
    repeat' (first
     | refine wp2_seq fun K hK => ?_
     | refine M_cons fun K hK => ?_
     | (refine hK _ ?_; clear hK K)
     | (refine hX _ ?_; clear hX hY X Y)
     | (refine hY _ ?_; clear hX hY X Y)
     | refine wp2_block ?_
     | refine wp2_region ?_
     | refine wp2_cond fun X Y hX hY => ?_
     | (refine condK_of (fun c => ?_) (fun c => ?_) <;> (try simp [-List.length_eq_zero_iff] at c))
     | simp (maxSteps := 4000000) (disch := omega) [s1, s2, s3, o20, s4, o4, s41, s42, s43, encW, nilV])
    all_goals first | omega | skip
    refine wp2_loop _ (nth n.ways (i : Int)).lens.length ?_ (ro_l2 n i hlt g1 (h3 i hlt) (hg i hlt) (by omega) ?_)
    · refine ⟨0, ?_⟩
      have e0 : edsT n i ++ segsT n i (edsT n i).length 0 = edsT n i := List.append_nil _
      rw [e0]
      exact ⟨by simp [s1], by simp [o1, objN], by simp [s2], by simp [o2, nil4], by simp [s3], by simp [o20], by simp [s4], by simp [o4, nilV], fun h => by simp [o37 h], fun h => by simp [o60 h], by simp [s41], by simp [s42], by simp [s43], by simp, by simp, by simp [objW], by simp, by simp, by omega, by omega⟩
    · rintro s ⟨s1, o1, s2, o2, s3, o20, s4, o4, o37, o60, s41, s42, s43⟩
      repeat' (first
       | refine M_cons fun K hK => ?_
       | (refine hK _ ?_; clear hK K)
       | refine wp2_region ?_
       | simp (maxSteps := 4000000) (disch := omega) [s1, s2, s3, o20, s4, o4, s41, s42, s43])
      refine hN (n.ways.length - (i + 1)) _ (by omega) ⟨i + 1, ?_⟩
      exact ⟨by simp [s1], by simp [o1, objN], by simp [s2], by simp [o2, nil4], by simp [s3], by simp [o20], by simp [s4], by simp [o4, nilV], fun h => by simp [o37 h], fun h => by simp [o60 h], by simp [s41], by simp [s42], by simp, by omega, by omega⟩
  · have e1 : i = n.ways.length := by omega
    subst e1
    repeat' (first
     | refine wp2_seq fun K hK => ?_
     | refine M_cons fun K hK => ?_
     | (refine hK _ ?_; clear hK K)
     | (refine hY _ ?_; clear hX hY X Y)
     | refine wp2_region ?_
     | refine wp2_cond fun X Y hX hY => ?_
     | (refine condK_of (fun c => ?_) (fun c => ?_) <;> (try simp [-List.length_eq_zero_iff] at c))
     | simp (maxSteps := 4000000) (disch := omega) [s1, s2, s3, o20, s4, o4, s41, s42, s43])
    all_goals first | omega | skip
    refine hE _ ?_
    exact ⟨by simp [s1], by simp [o1, objN], by simp [s2], by simp [o2, nil4], by simp [s4], by simp [o4, nilV], fun h => by simp [o37 h], fun h => by simp [o60 h]⟩
end Cal

set_option linter.unusedSimpArgs false
set_option linter.unusedVariables false
namespace Cal
open Go Go.Proofs
set_option maxRecDepth 100000
def bcell (t m : Nat) : List AV := if m = 0 then [.t (.v (.slice none 0 0))] else [.row (71001, t) 1 0 m]
def bcells (f : Nat → Nat) (len : Nat) : List (List AV) := (List.range len).map fun t => bcell t (f t)
@[simp] theorem bcells_length (f : Nat → Nat) (len : Nat) : (bcells f len).length = len := by simp [bcells]
@[simp] theorem bcells_get {f : Nat → Nat} {len i : Nat} (h : i < len) : (bcells f len)[i]? = some (bcell i (f i)) := by simp [bcells, h]
@[simp] theorem bcell_length (t m : Nat) : (bcell t m).length = 1 := by unfold bcell; split <;> rfl
theorem bcells_set (f : Nat → Nat) (len i m : Nat) : (bcells f len).set i (bcell i m) = bcells (fun j => if j = i then m else f j) len := by
  apply List.ext_getElem?
  intro j
  rw [List.getElem?_set]
  by_cases hj : i = j
  · subst hj
    by_cases hl : i < len
    · simp [bcells, hl]
    · simp [bcells, hl]
  · have : ¬ j = i := fun e => hj e.symm
    by_cases hl : j < len
    · simp [bcells, hj, hl, this]
    · simp [bcells, hj, hl]
theorem bcells_congr {f g : Nat → Nat} {len : Nat} (h : ∀ t < len, f t = g t) : bcells f len = bcells g len := by
  unfold bcells
  exact List.map_congr_left fun t ht => by rw [h t (List.mem_range.1 ht)]
theorem bcells_0 (len : Nat) : (List.replicate len [T.v (.slice none 0 0)]).map (fun e => e.map AV.t) = bcells (fun _ => 0) len := by
  apply List.ext_getElem?
  intro j
  by_cases h : j < len
  · simp [bcells, bcell, h]
  · simp [bcells, h]
theorem bcell_free {p : Id → Prop} {t m : Nat} (h : ¬ p (71001, t)) : AV.frees p (bcell t m) := by
  unfold bcell
  split
  · simp [AV.frees, AV.free]
  · simp only [AV.frees, AV.free]
    exact ⟨h, trivial⟩
theorem bcells_free {p : Id → Prop} (h1 : ∀ i, ¬ p (71001, i)) (f : Nat → Nat) (len : Nat) : AV.frees p (bcells f len).flatten := by
  refine frees_mem fun x hx => ?_
  obtain ⟨e, he, hx⟩ := List.mem_flatten.1 hx
  obtain ⟨i, _, rfl⟩ := List.mem_map.1 he
  unfold bcell at hx
  split at hx
  · simp at hx; subst hx; simp [AV.free]
  · simp at hx; subst hx; exact h1 i
@[simp] theorem bcells_kills (f : Nat → Nat) (len : Nat) (ds : List Nat) : (bcells f len).map (AV.kills ds) = if ds.contains 71001 = true then (bcells f len).map (fun e => AV.kills ds e) else bcells f len := by
  split
  · rfl
  · rename_i h
    have h' : 71001 ∉ ds := by simpa using h
    exact flatten_map_frees (p := fun id => id.1 ∈ ds) (fun _ he => AV.kills_same he) (bcells_free (fun i => h') f len)
@[simp] theorem bcell_kills (t m : Nat) (ds : List Nat) : AV.kills ds (bcell t m) = if ds.contains 71001 = true then (if m = 0 then [.t (.v (.slice none 0 0))] else [.bad]) else bcell t m := by
  unfold bcell
  by_cases h : m = 0 <;> by_cases h2 : 71001 ∈ ds <;> simp [h, h2]
/-- One cell is written anew: what the others name stays. -/
theorem bcells_kills1 (f : Nat → Nat) (len p : Nat) (x : List AV) : ((bcells f len).map (AV.kills1 (71001, p))).set p x = (bcells f len).set p x := by
  apply List.ext_getElem?
  intro j
  rw [List.getElem?_set, List.getElem?_set]
  simp only [List.length_map, bcells_length]
  by_cases hj : p = j
  · simp [hj]
  · rw [if_neg hj, if_neg hj, List.getElem?_map]
    by_cases hl : j < len
    · rw [bcells_get hl]
      simp only [Option.map_some]
      rw [AV.kills1_same (bcell_free (fun e => by injection e with _ e; exact hj e.symm))]
    · rw [List.getElem?_eq_none (by simp; omega)]
      rfl
theorem ren1_out2 {p q id : Id} (h : ¬ id = p) : ren1 p q id = id := by unfold ren1; rw [if_neg h]
@[simp] theorem encE_all (e : Ed) : List.take 7 (List.map AV.t (encE e)) = [.t (.v (.int .i64 e.tail)), .t (.v (.int .i64 e.head)), .t (.v (.int .i64 e.weight)), .t (.v (.int .i64 e.way)), .t (.v (.int .i64 e.seg)), .t (.v (.bool e.back)), .t (.v (.int .i64 e.twin))] := rfl
@[simp] theorem bcells_ren1 (f : Nat → Nat) (len b : Nat) (q : Id) : (bcells f len).map (AV.rensG (ren1 (136, b) q)) = bcells f len :=
  flatten_map_frees (p := fun id => ren1 (136, b) q id ≠ id) (fun _ he => AV.rensG_same he) (bcells_free (fun i e => e (ren1_out2 (by simp))) f len)
@[simp] theorem make_nils (d e N : Nat) (hl : N ≤ 1000000) : makeA d (some (e, ⟨false, 1, 24, [.slice none 0 0]⟩)) (.t (.v (.int .i64 N))) (.t (.v (.int .i64 N))) = some (.row (d, 0) 1 0 N, [((d, 0), some (.row 1 (List.replicate N [.v (.slice none 0 0)])))]) := by
  simp only [makeA]
  rw [if_pos ⟨by simp [TI.fine], by simp [plain], by omega, Int.le_refl _, by unfold lim; simp; omega⟩]
  simp
@[simp] theorem optE_kill1s (l : List Ed) (a b c d : Nat) : (optE l (a, b)).kill1 (c, d) = if a = c ∧ b = d then (if l.length = 0 then .t (.v (.slice none 0 0)) else .bad) else optE l (a, b) := by
  unfold optE
  by_cases h : l.length = 0 <;> by_cases h2 : a = c ∧ b = d <;> simp [h, h2]
set_option maxHeartbeats 0 in
theorem ro_l3 (N : List Int) (R : List Ed) (hL : R.length ≤ 4000) (ht : ∀ e : Nat, e < R.length → ∃ p : Nat, p < N.length ∧ (nth R (e : Int)).tail = p) {Q : Ex → St → Prop}
    (hE : ∀ s : St, (s.tm 2 = .ptr (2, 0) 0 0 ∧ s.ob (2, 0) = nil4 ∧ s.tm 4 = .ptr (4, 0) 0 0 ∧ s.ob (4, 0) = some (.var [optR N (37, 0), optE R (60004, 0), nilV, nilV]) ∧ (¬ N.length = 0 → s.ob (37, 0) = some (.row 1 (intRow N))) ∧ (¬ R.length = 0 → s.ob (60004, 0) = some (.row 7 (recRow encE R))) ∧ s.tm 15 = .row (117, 0) 1 0 N.length ∧ s.ob (117, 0) = some (.big 1 (bcells (fun t => (idxs R t R.length).length) N.length)) ∧ (∀ t : Nat, t < N.length → ¬ (idxs R t R.length).length = 0 → s.ob (71001, t) = some (.row 1 (intRow (idxs R t R.length))))) → Q .normal s)
    (m : Nat) (s : St) (hs : (fun (m : Nat) (s : St) => ∃ e : Nat, s.tm 2 = .ptr (2, 0) 0 0 ∧ s.ob (2, 0) = nil4 ∧ s.tm 4 = .ptr (4, 0) 0 0 ∧ s.ob (4, 0) = some (.var [optR N (37, 0), optE R (60004, 0), nilV, nilV]) ∧ (¬ N.length = 0 → s.ob (37, 0) = some (.row 1 (intRow N))) ∧ (¬ R.length = 0 → s.ob (60004, 0) = some (.row 7 (recRow encE R))) ∧ s.tm 15 = .row (117, 0) 1 0 N.length ∧ s.ob (117, 0) = some (.big 1 (bcells (fun t => (idxs R t e).length) N.length)) ∧ (∀ t : Nat, t < N.length → ¬ (idxs R t e).length = 0 → s.ob (71001, t) = some (.row 1 (intRow (idxs R t e)))) ∧ s.tm 119 = optE R (60004, 0) ∧ s.tm 120 = .t (.v (.int .i64 R.length)) ∧ s.tm 121 = .t (.v (.int .i64 e)) ∧ e ≤ R.length ∧ m = R.length - e) m s) (K' : St → Prop)
    (hN : ∀ (m' : Nat) (s' : St), m' < m → (fun (m : Nat) (s : St) => ∃ e : Nat, s.tm 2 = .ptr (2, 0) 0 0 ∧ s.ob (2, 0) = nil4 ∧ s.tm 4 = .ptr (4, 0) 0 0 ∧ s.ob (4, 0) = some (.var [optR N (37, 0), optE R (60004, 0), nilV, nilV]) ∧ (¬ N.length = 0 → s.ob (37, 0) = some (.row 1 (intRow N))) ∧ (¬ R.length = 0 → s.ob (60004, 0) = some (.row 7 (recRow encE R))) ∧ s.tm 15 = .row (117, 0) 1 0 N.length ∧ s.ob (117, 0) = some (.big 1 (bcells (fun t => (idxs R t e).length) N.length)) ∧ (∀ t : Nat, t < N.length → ¬ (idxs R t e).length = 0 → s.ob (71001, t) = some (.row 1 (intRow (idxs R t e)))) ∧ s.tm 119 = optE R (60004, 0) ∧ s.tm 120 = .t (.v (.int .i64 R.length)) ∧ s.tm 121 = .t (.v (.int .i64 e)) ∧ e ≤ R.length ∧ m = R.length - e) m' s' → K' s') :
    wp2 Try.prog k68_l3 (thenQ K' (inBlk 6 Q)) s := by
  obtain ⟨e, s2, o2, s4, o4, o37, o60, s15, o117, o71, s119, s120, s121, he, rfl⟩ := hs
  unfold k68_l3
  by_cases hlt : e < R.length
  · obtain ⟨p, hp, hpe⟩ := ht e hlt
    have hR : ¬ R.length = 0 := by omega
    have o60' := o60 hR
    have s119' := s119
    rw [optE_row _ hR] at s119'
    have hil := idxs_length R p e
    have hidx : idxs R p (e + 1) = idxs R p e ++ [(e : Int)] := by rw [idxs, if_pos hpe]
    have hidt : ∀ t : Nat, ¬ t = p → idxs R t (e + 1) = idxs R t e := fun t htp => by
      rw [idxs, if_neg (by omega), List.append_nil]
    have hfin : ∀ c : List AV, c = bcell p ((idxs R p e).length + 1) → (bcells (fun t => (idxs R t e).length) N.length).set p c = bcells (fun t => (idxs R t (e + 1)).length) N.length := fun c hc => by
      rw [hc, bcells_set]
      refine bcells_congr fun t ht => ?_
      by_cases h : t = p
      · rw [if_pos h, h, hidx]
        simp
      · rw [if_neg h, hidt t h]
    by_cases h0 : (idxs R p e).length = 0
    · have hb : bcell p (idxs R p e).length = [.t (.v (.slice none 0 0))] := by unfold bcell; rw [if_pos h0]
      repeat' (first
       | refine wp2_seq fun K hK => ?_
       | refine M_cons fun K hK => ?_
       | (refine hK _ ?_; clear hK K)
       | (refine hX _ ?_; clear hX hY X Y)
       | (refine hY _ ?_; clear hX hY X Y)
       | refine wp2_block ?_
       | (refine wp2_ren1' (ops := ⟨some 138, _, _⟩ :: _) (136, 0) (71001, p) (by rfl) (by simp [s2, s4, s15, o117, s119', o60', s120, s121, recRow_getN, hpe, hb, muted, muteB] <;> first | rfl | exact ⟨rfl, rfl⟩) ?_)
       | refine wp2_regionD (by rfl) ?_
       | refine MD_cons ?_ fun K hK => ?_
       | refine wp2_region ?_
       | refine wp2_cond fun X Y hX hY => ?_
       | (refine condK_of (fun c => ?_) (fun c => ?_) <;> (try simp [-List.length_eq_zero_iff] at c))
       | simp (maxSteps := 4000000) (disch := omega) [s2, s4, s15, o117, s119', o60', s120, s121, recRow_getN, hpe, hb, muted, muteB])
      all_goals first | omega | skip
      refine hN (R.length - (e + 1)) _ (by omega) ⟨e + 1, ?_⟩
      refine ⟨by simp [s2], by simp [o2, nil4], by simp [s4], by simp [o4, nilV], fun h => by simp [o37 h], fun h => by simp [o60 h], by simp [s15], ?_, fun t h1 h2 => ?_, by simp [s119], by simp [s120], by simp, by omega, by omega⟩
      · simp [bcells_kills1]
        refine hfin _ ?_
        unfold bcell
        rw [if_neg (by omega)]
        simp [h0]
      · by_cases htp : t = p
        · subst htp
          rw [hidx]
          simp
          rw [List.eq_nil_of_length_eq_zero h0]
          rfl
        · rw [hidt t htp] at h2 ⊢
          simp [htp, o71 t h1 h2]
    · have hb : bcell p (idxs R p e).length = [.row (71001, p) 1 0 (idxs R p e).length] := by unfold bcell; rw [if_neg h0]
      have o71p := o71 p hp h0
      repeat' (first
       | refine wp2_seq fun K hK => ?_
       | refine M_cons fun K hK => ?_
       | (refine hK _ ?_; clear hK K)
       | (refine hX _ ?_; clear hX hY X Y)
       | (refine hY _ ?_; clear hX hY X Y)
       | refine wp2_block ?_
       | (refine wp2_ren1' (ops := ⟨some 138, _, _⟩ :: _) (136, 0) (71001, p) (by rfl) (by simp [s2, s4, s15, o117, s119', o60', s120, s121, recRow_getN, hpe, hb, o71p, muted, muteB] <;> first | rfl | exact ⟨rfl, rfl⟩) ?_)
       | refine wp2_regionD (by rfl) ?_
       | refine MD_cons ?_ fun K hK => ?_
       | refine wp2_region ?_
       | refine wp2_cond fun X Y hX hY => ?_
       | (refine condK_of (fun c => ?_) (fun c => ?_) <;> (try simp [-List.length_eq_zero_iff] at c))
       | simp (maxSteps := 4000000) (disch := omega) [s2, s4, s15, o117, s119', o60', s120, s121, recRow_getN, hpe, hb, o71p, muted, muteB])
      all_goals first | omega | skip
      refine hN (R.length - (e + 1)) _ (by omega) ⟨e + 1, ?_⟩
      refine ⟨by simp [s2], by simp [o2, nil4], by simp [s4], by simp [o4, nilV], fun h => by simp [o37 h], fun h => by simp [o60 h], by simp [s15], ?_, fun t h1 h2 => ?_, by simp [s119], by simp [s120], by simp, by omega, by omega⟩
      · simp [bcells_kills1]
        refine hfin _ ?_
        unfold bcell
        rw [if_neg (by omega)]
      · by_cases htp : t = p
        · subst htp
          rw [hidx]
          simp
        · rw [hidt t htp] at h2 ⊢
          simp [htp, o71 t h1 h2]
  · have e1 : e = R.length := by omega
    subst e1
    repeat' (first
     | refine wp2_seq fun K hK => ?_
     | refine M_cons fun K hK => ?_
     | (refine hK _ ?_; clear hK K)
     | (refine hY _ ?_; clear hX hY X Y)
     | refine wp2_region ?_
     | refine wp2_cond fun X Y hX hY => ?_
     | (refine condK_of (fun c => ?_) (fun c => ?_) <;> (try simp [-List.length_eq_zero_iff] at c))
     | simp (maxSteps := 4000000) (disch := omega) [s2, s4, s15, s119, s120, s121])
    all_goals first | omega | skip
    refine hE _ ?_
    exact ⟨by simp [s2], by simp [o2, nil4], by simp [s4], by simp [o4, nilV], fun h => by simp [o37 h], fun h => by simp [o60 h], by simp [s15], by simp [o117], fun t h1 h2 => by simp [o71 t h1 h2]⟩
end Cal

set_option linter.unusedSimpArgs false
set_option linter.unusedVariables false
namespace Cal
open Go Go.Proofs
set_option maxRecDepth 100000
@[simp] theorem appendA_nn (d : Nat) (st : St) : appendA d st ⟨false, 1, 8, [.int .i64 0]⟩ (.t (.v (.slice none 0 0))) [] = some (.t (.v (.slice none 0 0)), []) := rfl
@[simp] theorem appendA_nl (d : Nat) (st : St) (l : List Int) (h : 0 < l.length) (h2 : l.length ≤ 1000000000) : appendA d st ⟨false, 1, 8, [.int .i64 0]⟩ (.t (.v (.slice none 0 0))) (intRow l) = some (.row (d, 0) 1 0 l.length, [((d, 0), some (.row 1 (intRow l)))]) := by
  have h3 : l.length * 8 ≤ lim := by unfold lim; omega
  have h4 : ¬ l.length = 0 := by omega
  have h4' : ¬ l = [] := fun e => by simp [e] at h
  simp [appendA, h3, h4, h4']
@[simp] theorem appendR_nil (l : List Int) (d : Nat) (id : Id) (n : Nat) (h : n = l.length) (h2 : n ≤ 1000000000) : appendR (some (.row 1 (intRow l))) d id n [] = some (.row (d, 0) 1 0 n, [(id, none), ((d, 0), some (.row 1 (intRow l)))]) := by
  have h3 : l.length * 8 ≤ lim := by unfold lim; omega
  subst h
  simp [appendR, h3]
@[simp] theorem elemsA_nilV (st : St) (size : Nat) : elemsA st size (.t (.v (.slice none 0 0))) = some [] := rfl
theorem take_self (l : List Int) : List.take l.length (intRow l) = intRow l := by
  have := List.take_length (l := intRow l)
  rwa [intRow_length] at this
theorem bc_k1 (f : Nat → Nat) (len a b : Nat) (h : a ≠ 71001) : (bcells f len).map (AV.kills1 (a, b)) = bcells f len :=
  flatten_map_frees (p := fun id => id = (a, b)) (fun _ he => AV.kills1_same he) (bcells_free (fun i e => by injection e with e1 _; exact h e1.symm) f len)
theorem bc_r (f : Nat → Nat) (len a b : Nat) (q : Id) (h : a ≠ 71001) : (bcells f len).map (AV.rensG (ren1 (a, b) q)) = bcells f len :=
  flatten_map_frees (p := fun id => ren1 (a, b) q id ≠ id) (fun _ he => AV.rensG_same he) (bcells_free (fun i e => e (ren1_out2 (fun e2 => by injection e2 with e1 _; exact h e1.symm))) f len)
set_option maxHeartbeats 0 in
theorem ro_l4 (N : List Int) (R : List Ed) (hL : R.length ≤ 4000) (hn : N.length ≤ 2000) {Q : Ex → St → Prop}
    (hE : ∀ s : St, (s.tm 2 = .ptr (2, 0) 0 0 ∧ s.ob (2, 0) = nil4 ∧ s.tm 4 = .ptr (4, 0) 0 0 ∧ s.ob (4, 0) = some (.var [optR N (37, 0), optE R (60004, 0), .row (60006, 0) 1 0 (N.length + 1), optR (outs R N.length) (60007, 0)]) ∧ (¬ N.length = 0 → s.ob (37, 0) = some (.row 1 (intRow N))) ∧ (¬ R.length = 0 → s.ob (60004, 0) = some (.row 7 (recRow encE R))) ∧ s.ob (60006, 0) = some (.row 1 (intRow (starts R (N.length + 1)))) ∧ (¬ (outs R N.length).length = 0 → s.ob (60007, 0) = some (.row 1 (intRow (outs R N.length))))) → Q .normal s)
    (m : Nat) (s : St) (hs : (fun (m : Nat) (s : St) => ∃ p : Nat, s.tm 2 = .ptr (2, 0) 0 0 ∧ s.ob (2, 0) = nil4 ∧ s.tm 4 = .ptr (4, 0) 0 0 ∧ s.ob (4, 0) = some (.var [optR N (37, 0), optE R (60004, 0), .row (60006, 0) 1 0 (p + 1), optR (outs R p) (60007, 0)]) ∧ (¬ N.length = 0 → s.ob (37, 0) = some (.row 1 (intRow N))) ∧ (¬ R.length = 0 → s.ob (60004, 0) = some (.row 7 (recRow encE R))) ∧ s.ob (60006, 0) = some (.row 1 (intRow (starts R (p + 1)))) ∧ (¬ (outs R p).length = 0 → s.ob (60007, 0) = some (.row 1 (intRow (outs R p)))) ∧ s.tm 141 = .row (117, 0) 1 0 N.length ∧ s.ob (117, 0) = some (.big 1 (bcells (fun t => (idxs R t R.length).length) N.length)) ∧ (∀ t : Nat, t < N.length → ¬ (idxs R t R.length).length = 0 → s.ob (71001, t) = some (.row 1 (intRow (idxs R t R.length)))) ∧ s.tm 142 = .t (.v (.int .i64 N.length)) ∧ s.tm 143 = .t (.v (.int .i64 p)) ∧ p ≤ N.length ∧ m = N.length - p) m s) (K' : St → Prop)
    (hN : ∀ (m' : Nat) (s' : St), m' < m → (fun (m : Nat) (s : St) => ∃ p : Nat, s.tm 2 = .ptr (2, 0) 0 0 ∧ s.ob (2, 0) = nil4 ∧ s.tm 4 = .ptr (4, 0) 0 0 ∧ s.ob (4, 0) = some (.var [optR N (37, 0), optE R (60004, 0), .row (60006, 0) 1 0 (p + 1), optR (outs R p) (60007, 0)]) ∧ (¬ N.length = 0 → s.ob (37, 0) = some (.row 1 (intRow N))) ∧ (¬ R.length = 0 → s.ob (60004, 0) = some (.row 7 (recRow encE R))) ∧ s.ob (60006, 0) = some (.row 1 (intRow (starts R (p + 1)))) ∧ (¬ (outs R p).length = 0 → s.ob (60007, 0) = some (.row 1 (intRow (outs R p)))) ∧ s.tm 141 = .row (117, 0) 1 0 N.length ∧ s.ob (117, 0) = some (.big 1 (bcells (fun t => (idxs R t R.length).length) N.length)) ∧ (∀ t : Nat, t < N.length → ¬ (idxs R t R.length).length = 0 → s.ob (71001, t) = some (.row 1 (intRow (idxs R t R.length)))) ∧ s.tm 142 = .t (.v (.int .i64 N.length)) ∧ s.tm 143 = .t (.v (.int .i64 p)) ∧ p ≤ N.length ∧ m = N.length - p) m' s' → K' s') :
    wp2 Try.prog k68_l4 (thenQ K' (inBlk 8 Q)) s := by
  obtain ⟨p, s2, o2, s4, o4, o37, o60, o66, o67, s141, o117, o71, s142, s143, hp, rfl⟩ := hs
  have hol := outs_length R hL p
  have hyl := idxs_length R p R.length
  have hsl := starts_length R (p + 1)
  have hs1 : starts R (p + 1 + 1) = starts R (p + 1) ++ [((outs R (p + 1)).length : Int)] := rfl
  have ho1 : outs R (p + 1) = outs R p ++ idxs R p R.length := rfl
  have hbc : ∀ k : Nat, bcell p k = if k = 0 then [.t (.v (.slice none 0 0))] else [.row (71001, p) 1 0 k] := fun k => rfl
  unfold k68_l4
  by_cases hlt : p < N.length
  · by_cases hx : (outs R p).length = 0 <;> by_cases hy : (idxs R p R.length).length = 0
    · rw [optR_nil _ hx] at o4
      repeat' (first
       | refine wp2_seq fun K hK => ?_
       | refine M_cons fun K hK => ?_
       | (refine hK _ ?_; clear hK K)
       | (refine hX _ ?_; clear hX hY X Y)
       | (refine hY _ ?_; clear hX hY X Y)
       | refine wp2_block ?_
       | (refine wp2_ren1' (ops := ⟨some 160, _, _⟩ :: _) (158, 0) (60006, 0) (by rfl) (by simp [s2, s4, o4, s141, o117, s142, s143, o66, hbc, hy] <;> first | rfl | exact ⟨rfl, rfl⟩) ?_)
       | refine wp2_region ?_
       | refine wp2_cond fun X Y hX hY => ?_
       | (refine condK_of (fun c => ?_) (fun c => ?_) <;> (try simp [-List.length_eq_zero_iff] at c))
       | simp (maxSteps := 4000000) (disch := omega) [s2, s4, o4, s141, o117, s142, s143, o66, hbc, hy])
      all_goals first | omega | skip
      refine hN (N.length - (p + 1)) _ (by omega) ⟨p + 1, ?_⟩
      rw [optR_nil (l := outs R (p + 1)) _ (by rw [ho1, List.length_append]; omega)]
      have hlo : (outs R (p + 1)).length = (outs R p).length + (idxs R p R.length).length := by rw [ho1, List.length_append]
      rw [hs1, hlo]
      have hx2 : (outs R p).length = 0 → outs R p = [] := List.eq_nil_of_length_eq_zero
      have hy2 : (idxs R p R.length).length = 0 → idxs R p R.length = [] := List.eq_nil_of_length_eq_zero
      exact ⟨by simp [s2], by simp [o2, nil4], by simp [s4], by simp [hx, hy], fun h => by simp [o37 h], fun h => by simp [o60 h], by simp [hx, hy], fun h => absurd (by omega) h, by simp [s141], by simp [o117, -List.map_map, bc_k1, bc_r], fun t h1 h2 => by simp [o71 t h1 h2], by simp [s142], by simp, by omega, by omega⟩
    · rw [optR_nil _ hx] at o4
      have o71p := o71 p hlt hy
      repeat' (first
       | refine wp2_seq fun K hK => ?_
       | refine M_cons fun K hK => ?_
       | (refine hK _ ?_; clear hK K)
       | (refine hX _ ?_; clear hX hY X Y)
       | (refine hY _ ?_; clear hX hY X Y)
       | refine wp2_block ?_
       | (refine wp2_ren1' (ops := ⟨some 160, _, _⟩ :: _) (150, 0) (60007, 0) (by rfl) (by simp [s2, s4, o4, s141, o117, s142, s143, o66, hbc, hy, o71p, take_self] <;> first | rfl | exact ⟨rfl, rfl⟩) ?_)
       | (refine wp2_ren1' (ops := ⟨some 160, _, _⟩ :: _) (158, 0) (60006, 0) (by rfl) (by simp [s2, s4, o4, s141, o117, s142, s143, o66, hbc, hy, o71p, take_self] <;> first | rfl | exact ⟨rfl, rfl⟩) ?_)
       | refine wp2_region ?_
       | refine wp2_cond fun X Y hX hY => ?_
       | (refine condK_of (fun c => ?_) (fun c => ?_) <;> (try simp [-List.length_eq_zero_iff] at c))
       | simp (maxSteps := 4000000) (disch := omega) [s2, s4, o4, s141, o117, s142, s143, o66, hbc, hy, o71p, take_self])
      all_goals first | omega | skip
      refine hN (N.length - (p + 1)) _ (by omega) ⟨p + 1, ?_⟩
      rw [optR_row (l := outs R (p + 1)) _ (by rw [ho1, List.length_append]; omega)]
      have hlo : (outs R (p + 1)).length = (outs R p).length + (idxs R p R.length).length := by rw [ho1, List.length_append]
      rw [hs1, hlo]
      have hx2 : (outs R p).length = 0 → outs R p = [] := List.eq_nil_of_length_eq_zero
      have hy2 : (idxs R p R.length).length = 0 → idxs R p R.length = [] := List.eq_nil_of_length_eq_zero
      exact ⟨by simp [s2], by simp [o2, nil4], by simp [s4], by simp [hx, hy], fun h => by simp [o37 h], fun h => by simp [o60 h], by simp [hx, hy], fun h => by simp [ho1, hx2 hx], by simp [s141], by simp [o117, -List.map_map, bc_k1, bc_r], fun t h1 h2 => by simp [o71 t h1 h2], by simp [s142], by simp, by omega, by omega⟩
    · rw [optR_row _ hx] at o4
      have o67 := o67 hx
      repeat' (first
       | refine wp2_seq fun K hK => ?_
       | refine M_cons fun K hK => ?_
       | (refine hK _ ?_; clear hK K)
       | (refine hX _ ?_; clear hX hY X Y)
       | (refine hY _ ?_; clear hX hY X Y)
       | refine wp2_block ?_
       | (refine wp2_ren1' (ops := ⟨some 160, _, _⟩ :: _) (150, 0) (60007, 0) (by rfl) (by simp [s2, s4, o4, s141, o117, s142, s143, o66, o67, hbc, hy] <;> first | rfl | exact ⟨rfl, rfl⟩) ?_)
       | (refine wp2_ren1' (ops := ⟨some 160, _, _⟩ :: _) (158, 0) (60006, 0) (by rfl) (by simp [s2, s4, o4, s141, o117, s142, s143, o66, o67, hbc, hy] <;> first | rfl | exact ⟨rfl, rfl⟩) ?_)
       | refine wp2_region ?_
       | refine wp2_cond fun X Y hX hY => ?_
       | (refine condK_of (fun c => ?_) (fun c => ?_) <;> (try simp [-List.length_eq_zero_iff] at c))
       | simp (maxSteps := 4000000) (disch := omega) [s2, s4, o4, s141, o117, s142, s143, o66, o67, hbc, hy])
      all_goals first | omega | skip
      refine hN (N.length - (p + 1)) _ (by omega) ⟨p + 1, ?_⟩
      rw [optR_row (l := outs R (p + 1)) _ (by rw [ho1, List.length_append]; omega)]
      have hlo : (outs R (p + 1)).length = (outs R p).length + (idxs R p R.length).length := by rw [ho1, List.length_append]
      rw [hs1, hlo]
      have hx2 : (outs R p).length = 0 → outs R p = [] := List.eq_nil_of_length_eq_zero
      have hy2 : (idxs R p R.length).length = 0 → idxs R p R.length = [] := List.eq_nil_of_length_eq_zero
      exact ⟨by simp [s2], by simp [o2, nil4], by simp [s4], by simp [hx, hy], fun h => by simp [o37 h], fun h => by simp [o60 h], by simp [hx, hy], fun h => by simp [ho1, hy2 hy], by simp [s141], by simp [o117, -List.map_map, bc_k1, bc_r], fun t h1 h2 => by simp [o71 t h1 h2], by simp [s142], by simp, by omega, by omega⟩
    · rw [optR_row _ hx] at o4
      have o67 := o67 hx
      have o71p := o71 p hlt hy
      repeat' (first
       | refine wp2_seq fun K hK => ?_
       | refine M_cons fun K hK => ?_
       | (refine hK _ ?_; clear hK K)
       | (refine hX _ ?_; clear hX hY X Y)
       | (refine hY _ ?_; clear hX hY X Y)
       | refine wp2_block ?_
       | (refine wp2_ren1' (ops := ⟨some 160, _, _⟩ :: _) (150, 0) (60007, 0) (by rfl) (by simp [s2, s4, o4, s141, o117, s142, s143, o66, o67, hbc, hy, o71p, take_self] <;> first | rfl | exact ⟨rfl, rfl⟩) ?_)
       | (refine wp2_ren1' (ops := ⟨some 160, _, _⟩ :: _) (158, 0) (60006, 0) (by rfl) (by simp [s2, s4, o4, s141, o117, s142, s143, o66, o67, hbc, hy, o71p, take_self] <;> first | rfl | exact ⟨rfl, rfl⟩) ?_)
       | refine wp2_region ?_
       | refine wp2_cond fun X Y hX hY => ?_
       | (refine condK_of (fun c => ?_) (fun c => ?_) <;> (try simp [-List.length_eq_zero_iff] at c))
       | simp (maxSteps := 4000000) (disch := omega) [s2, s4, o4, s141, o117, s142, s143, o66, o67, hbc, hy, o71p, take_self])
      all_goals first | omega | skip
      refine hN (N.length - (p + 1)) _ (by omega) ⟨p + 1, ?_⟩
      rw [optR_row (l := outs R (p + 1)) _ (by rw [ho1, List.length_append]; omega)]
      have hlo : (outs R (p + 1)).length = (outs R p).length + (idxs R p R.length).length := by rw [ho1, List.length_append]
      rw [hs1, hlo]
      have hx2 : (outs R p).length = 0 → outs R p = [] := List.eq_nil_of_length_eq_zero
      have hy2 : (idxs R p R.length).length = 0 → idxs R p R.length = [] := List.eq_nil_of_length_eq_zero
      exact ⟨by simp [s2], by simp [o2, nil4], by simp [s4], by simp [hx, hy], fun h => by simp [o37 h], fun h => by simp [o60 h], by simp [hx, hy], fun h => by simp [ho1], by simp [s141], by simp [o117, -List.map_map, bc_k1, bc_r], fun t h1 h2 => by simp [o71 t h1 h2], by simp [s142], by simp, by omega, by omega⟩
  · have e1 : p = N.length := by omega
    subst e1
    repeat' (first
     | refine wp2_seq fun K hK => ?_
     | refine M_cons fun K hK => ?_
     | (refine hK _ ?_; clear hK K)
     | (refine hY _ ?_; clear hX hY X Y)
     | refine wp2_region ?_
     | refine wp2_cond fun X Y hX hY => ?_
     | (refine condK_of (fun c => ?_) (fun c => ?_) <;> (try simp [-List.length_eq_zero_iff] at c))
     | simp (maxSteps := 4000000) (disch := omega) [s2, s4, o4, s141, s142, s143])
    all_goals first | omega | skip
    refine hE _ ?_
    exact ⟨by simp [s2], by simp [o2, nil4], by simp [s4], by simp [o4, nilV], fun h => by simp [o37 h], fun h => by simp [o60 h], by simp [o66], fun h => by simp [o67 h]⟩
end Cal

/- Plain law: the maps of a network's numbers; numbers that are int64's. -/
set_option linter.unusedSimpArgs false
set_option linter.unusedVariables false
namespace Cal
open Go Go.Proofs
set_option maxRecDepth 100000
def i64 (x : Int) : Prop := -9223372036854775808 ≤ x ∧ x < 9223372036854775808
/-- All numbers that are keys are int64's. -/
structure N64 (n : Net) : Prop where
  nd : ∀ i : Nat, i < n.nodes.length → i64 (rd n.nodes i)
  wi : ∀ i : Nat, i < n.ways.length → i64 (nth n.ways i).id
  wn : ∀ i : Nat, i < n.ways.length → ∀ j : Nat, j < (nth n.ways i).nodes.length → i64 (rd (nth n.ways i).nodes j)
  rf : ∀ i : Nat, i < n.rels.length → i64 (nth n.rels i).fr ∧ i64 (nth n.rels i).to ∧ i64 (nth n.rels i).node
  rv : ∀ i : Nat, i < n.rels.length → ∀ j : Nat, j < (nth n.rels i).via.length → i64 (rd (nth n.rels i).via j)
  tf : ∀ i : Nat, i < n.tcs.length → i64 (nth n.tcs i).fr ∧ i64 (nth n.tcs i).to
def setN (l : List Int) : Nat → List (MK × Bool)
  | 0 => []
  | k + 1 => mset (setN l k) (.i (rd l k)) true
def setW (l : List Way) : Nat → List (MK × Bool)
  | 0 => []
  | k + 1 => mset (setW l k) (.i (nth l k).id) true
theorem setN_get (l : List Int) (x : Int) : ∀ k, (mget (setN l k) (.i x)).getD false = decide (∃ i : Nat, i < k ∧ rd l i = x)
  | 0 => by simp [setN, mget]
  | k + 1 => by
    have ih := setN_get l x k
    rw [setN, mget_mset]
    by_cases h : rd l k = x
    · rw [if_pos (by rw [h])]
      have : ∃ i : Nat, i < k + 1 ∧ rd l i = x := ⟨k, by omega, h⟩
      simp [this]
    · rw [if_neg (by simpa using h), ih]
      congr 1
      apply propext
      exact ⟨fun ⟨i, a, b⟩ => ⟨i, by omega, b⟩, fun ⟨i, a, b⟩ => ⟨i, by rcases Nat.lt_or_ge i k with h1 | h1; exact h1; exact absurd (by rw [← b, show i = k by omega]) h, b⟩⟩
theorem setW_get (l : List Way) (x : Int) : ∀ k, (mget (setW l k) (.i x)).getD false = decide (∃ i : Nat, i < k ∧ (nth l i).id = x)
  | 0 => by simp [setW, mget]
  | k + 1 => by
    have ih := setW_get l x k
    rw [setW, mget_mset]
    by_cases h : (nth l k).id = x
    · rw [if_pos (by rw [h])]
      have : ∃ i : Nat, i < k + 1 ∧ (nth l i).id = x := ⟨k, by omega, h⟩
      simp [this]
    · rw [if_neg (by simpa using h), ih]
      congr 1
      apply propext
      exact ⟨fun ⟨i, a, b⟩ => ⟨i, by omega, b⟩, fun ⟨i, a, b⟩ => ⟨i, by rcases Nat.lt_or_ge i k with h1 | h1; exact h1; exact absurd (by rw [← b, show i = k by omega]) h, b⟩⟩
theorem setN_all (l : List Int) (x : Int) : (mget (setN l l.length) (.i x)).getD false = decide (x ∈ l) := by
  rw [setN_get]
  have : (∃ i : Nat, i < l.length ∧ rd l i = x) ↔ x ∈ l := mem_rd.symm
  simp [this]
theorem setW_all (l : List Way) (x : Int) : (mget (setW l l.length) (.i x)).getD false = decide (isWay l x) := by
  rw [setW_get]
  have : (∃ i : Nat, i < l.length ∧ (nth l i).id = x) ↔ isWay l x := Iff.rfl
  simp [this]
end Cal

set_option linter.unusedSimpArgs false
set_option linter.unusedVariables false
namespace Cal
open Go Go.Proofs
set_option maxRecDepth 100000
/-- The body of a loop. -/
def k67_l0 : Code1 :=
 (.seq
 (.region [] false ([]) [
 ⟨some 53,Op.binOp BinOp.lss 3 (Operand.tmp 52) (Operand.tmp 51) 3,none⟩])
 (.seq
 (.cond (Operand.tmp 53)
 .skip
 (.exit 0))
 (.seq
 (.block 1
 (.seq
 (.region [] false ([]) [
 ⟨some 54,Op.move (Operand.tmp 52),none⟩,
 ⟨some 55,Op.indexAddr 22 (Operand.tmp 50) (Operand.tmp 52),none⟩,
 ⟨some 56,Op.load 2 (Operand.tmp 55),none⟩,
 ⟨some 5,Op.assign (Operand.tmp 54),none⟩,
 ⟨some 6,Op.assign (Operand.tmp 56),none⟩])
 (.seq
 (.seq
 (.region [58] false ([]) [
 ⟨some 57,Op.move (Operand.tmp 6),none⟩,
 ⟨some 58,Op.call {callee:=Callee.value (Operand.func 139),args:=#[Operand.tmp 57],argTypes:=#[2]},none⟩,
 ⟨some 59,Op.unOp UnOp.not 4 (Operand.tmp 58),none⟩,
 ⟨some 60,Op.move (Operand.tmp 59),none⟩,
 ⟨some 61,Op.move (Operand.tmp 5),some (60,false)⟩,
 ⟨some 62,Op.binOp BinOp.gtr 3 (Operand.tmp 61) (Operand.const (Value.int IntKind.i64 0)) 3,some (60,false)⟩,
 ⟨some 63,Op.move (Operand.tmp 62),some (60,false)⟩,
 ⟨some 64,Op.fieldAddr 37 (Operand.tmp 1) 0,some (63,true)⟩,
 ⟨some 65,Op.load 22 (Operand.tmp 64),some (63,true)⟩,
 ⟨some 66,Op.move (Operand.tmp 5),some (63,true)⟩,
 ⟨some 67,Op.binOp BinOp.sub 3 (Operand.tmp 66) (Operand.const (Value.int IntKind.i64 1)) 3,some (63,true)⟩,
 ⟨some 68,Op.indexAddr 22 (Operand.tmp 65) (Operand.tmp 67),some (63,true)⟩,
 ⟨some 69,Op.load 2 (Operand.tmp 68),some (63,true)⟩,
 ⟨some 70,Op.move (Operand.tmp 6),some (63,true)⟩,
 ⟨some 71,Op.binOp BinOp.geq 2 (Operand.tmp 69) (Operand.tmp 70) 2,some (63,true)⟩,
 ⟨some 72,Op.pick (Operand.tmp 63) (Operand.tmp 71) (Operand.const (Value.bool false)),some (60,false)⟩,
 ⟨some 73,Op.pick (Operand.tmp 60) (Operand.const (Value.bool true)) (Operand.tmp 72),none⟩])
 (.cond (Operand.tmp 73)
 (.seq
 (.region [] false ([]) [
 ⟨some 2,Op.assign (Operand.const (Value.bool false)),none⟩])
 .ret)
 .skip))
 (.region [] false ([]) [
 ⟨some 74,Op.move (Operand.tmp 3),none⟩,
 ⟨some 75,Op.move (Operand.tmp 6),none⟩,
 ⟨none,Op.mapUpdate 195 (Operand.tmp 74) (Operand.tmp 75) (Operand.const (Value.bool true)),none⟩]))))
 (.region [] false ([]) [
 ⟨some 76,Op.binOp BinOp.add 3 (Operand.tmp 52) (Operand.const (Value.int IntKind.i64 1)) 3,none⟩,
 ⟨some 52,Op.move (Operand.tmp 76),none⟩]))))
/-- The body of a loop. -/
def k67_l2 : Code1 :=
 (.seq
 (.region [] false ([]) [
 ⟨some 131,Op.binOp BinOp.lss 3 (Operand.tmp 130) (Operand.tmp 129) 3,none⟩])
 (.seq
 (.cond (Operand.tmp 131)
 .skip
 (.exit 4))
 (.seq
 (.block 5
 (.seq
 (.region [] false ([]) [
 ⟨some 132,Op.indexAddr 22 (Operand.tmp 128) (Operand.tmp 130),none⟩,
 ⟨some 133,Op.load 2 (Operand.tmp 132),none⟩,
 ⟨some 10,Op.assign (Operand.tmp 133),none⟩])
 (.seq
 (.region [135] false ([]) [
 ⟨some 134,Op.move (Operand.tmp 10),none⟩,
 ⟨some 135,Op.call {callee:=Callee.value (Operand.func 139),args:=#[Operand.tmp 134],argTypes:=#[2]},none⟩,
 ⟨some 136,Op.unOp UnOp.not 4 (Operand.tmp 135),none⟩])
 (.cond (Operand.tmp 136)
 (.seq
 (.region [] false ([]) [
 ⟨some 2,Op.assign (Operand.const (Value.bool false)),none⟩])
 .ret)
 .skip))))
 (.region [] false ([]) [
 ⟨some 137,Op.binOp BinOp.add 3 (Operand.tmp 130) (Operand.const (Value.int IntKind.i64 1)) 3,none⟩,
 ⟨some 130,Op.move (Operand.tmp 137),none⟩]))))
/-- The body of a loop. -/
def k67_l3 : Code1 :=
 (.seq
 (.region [] false ([]) [
 ⟨some 142,Op.binOp BinOp.lss 3 (Operand.tmp 141) (Operand.tmp 140) 3,none⟩])
 (.seq
 (.cond (Operand.tmp 142)
 .skip
 (.exit 6))
 (.seq
 (.block 7
 (.seq
 (.region [] false ([]) [
 ⟨some 143,Op.indexAddr 22 (Operand.tmp 139) (Operand.tmp 141),none⟩,
 ⟨some 144,Op.load 2 (Operand.tmp 143),none⟩,
 ⟨some 12,Op.assign (Operand.tmp 144),none⟩])
 (.seq
 (.region [] false ([]) [
 ⟨some 145,Op.move (Operand.tmp 3),none⟩,
 ⟨some 146,Op.move (Operand.tmp 12),none⟩,
 ⟨some 147,Op.lookup 195 (Operand.tmp 145) (Operand.tmp 146) false,none⟩,
 ⟨some 148,Op.unOp UnOp.not 4 (Operand.tmp 147),none⟩])
 (.cond (Operand.tmp 148)
 (.seq
 (.region [] false ([]) [
 ⟨some 2,Op.assign (Operand.const (Value.bool false)),none⟩])
 .ret)
 .skip))))
 (.region [] false ([]) [
 ⟨some 149,Op.binOp BinOp.add 3 (Operand.tmp 141) (Operand.const (Value.int IntKind.i64 1)) 3,none⟩,
 ⟨some 141,Op.move (Operand.tmp 149),none⟩]))))
/-- The body of a loop. -/
def k67_l1 : Code1 :=
 (.seq
 (.region [] false ([]) [
 ⟨some 81,Op.binOp BinOp.lss 3 (Operand.tmp 80) (Operand.tmp 79) 3,none⟩])
 (.seq
 (.cond (Operand.tmp 81)
 .skip
 (.exit 2))
 (.seq
 (.block 3
 (.seq
 (.region [8] false ([]) [
 ⟨some 82,Op.move (Operand.tmp 80),none⟩,
 ⟨some 83,Op.indexAddr 33 (Operand.tmp 78) (Operand.tmp 80),none⟩,
 ⟨some 84,Op.load 100 (Operand.tmp 83),none⟩,
 ⟨some 8,Op.alloc 100,none⟩,
 ⟨some 7,Op.assign (Operand.tmp 82),none⟩,
 ⟨none,Op.store 100 (Operand.tmp 8) (Operand.tmp 84),none⟩])
 (.seq
 (.seq
 (.region [87] true ([]) [
 ⟨some 85,Op.fieldAddr 100 (Operand.tmp 8) 0,none⟩,
 ⟨some 86,Op.load 2 (Operand.tmp 85),none⟩,
 ⟨some 87,Op.call {callee:=Callee.value (Operand.func 139),args:=#[Operand.tmp 86],argTypes:=#[2]},none⟩,
 ⟨some 88,Op.unOp UnOp.not 4 (Operand.tmp 87),none⟩,
 ⟨some 89,Op.move (Operand.tmp 88),none⟩,
 ⟨some 90,Op.move (Operand.tmp 7),some (89,false)⟩,
 ⟨some 91,Op.binOp BinOp.gtr 3 (Operand.tmp 90) (Operand.const (Value.int IntKind.i64 0)) 3,some (89,false)⟩,
 ⟨some 92,Op.move (Operand.tmp 91),some (89,false)⟩,
 ⟨some 93,Op.fieldAddr 37 (Operand.tmp 1) 1,some (92,true)⟩,
 ⟨some 94,Op.load 33 (Operand.tmp 93),some (92,true)⟩,
 ⟨some 95,Op.move (Operand.tmp 7),some (92,true)⟩,
 ⟨some 96,Op.binOp BinOp.sub 3 (Operand.tmp 95) (Operand.const (Value.int IntKind.i64 1)) 3,some (92,true)⟩,
 ⟨some 97,Op.indexAddr 33 (Operand.tmp 94) (Operand.tmp 96),some (92,true)⟩,
 ⟨some 98,Op.fieldAddr 100 (Operand.tmp 97) 0,some (92,true)⟩,
 ⟨some 99,Op.load 2 (Operand.tmp 98),some (92,true)⟩,
 ⟨some 100,Op.fieldAddr 100 (Operand.tmp 8) 0,some (92,true)⟩,
 ⟨some 101,Op.load 2 (Operand.tmp 100),some (92,true)⟩,
 ⟨some 102,Op.binOp BinOp.geq 2 (Operand.tmp 99) (Operand.tmp 101) 2,some (92,true)⟩,
 ⟨some 103,Op.pick (Operand.tmp 92) (Operand.tmp 102) (Operand.const (Value.bool false)),some (89,false)⟩,
 ⟨some 104,Op.pick (Operand.tmp 89) (Operand.const (Value.bool true)) (Operand.tmp 103),none⟩,
 ⟨some 105,Op.move (Operand.tmp 104),none⟩,
 ⟨some 106,Op.fieldAddr 100 (Operand.tmp 8) 3,some (105,false)⟩,
 ⟨some 107,Op.load 22 (Operand.tmp 106),some (105,false)⟩,
 ⟨some 108,Op.call {callee:=Callee.builtin Builtin.len,args:=#[Operand.tmp 107],argTypes:=#[22]},some (105,false)⟩,
 ⟨some 109,Op.binOp BinOp.lss 3 (Operand.tmp 108) (Operand.const (Value.int IntKind.i64 1)) 3,some (105,false)⟩,
 ⟨some 110,Op.pick (Operand.tmp 105) (Operand.const (Value.bool true)) (Operand.tmp 109),none⟩,
 ⟨some 111,Op.move (Operand.tmp 110),none⟩,
 ⟨some 112,Op.fieldAddr 100 (Operand.tmp 8) 3,some (111,false)⟩,
 ⟨some 113,Op.load 22 (Operand.tmp 112),some (111,false)⟩,
 ⟨some 114,Op.call {callee:=Callee.builtin Builtin.len,args:=#[Operand.tmp 113],argTypes:=#[22]},some (111,false)⟩,
 ⟨some 115,Op.binOp BinOp.gtr 3 (Operand.tmp 114) (Operand.const (Value.int IntKind.i64 100)) 3,some (111,false)⟩,
 ⟨some 116,Op.pick (Operand.tmp 111) (Operand.const (Value.bool true)) (Operand.tmp 115),none⟩,
 ⟨some 117,Op.move (Operand.tmp 116),none⟩,
 ⟨some 118,Op.fieldAddr 100 (Operand.tmp 8) 2,some (117,false)⟩,
 ⟨some 119,Op.load 22 (Operand.tmp 118),some (117,false)⟩,
 ⟨some 120,Op.call {callee:=Callee.builtin Builtin.len,args:=#[Operand.tmp 119],argTypes:=#[22]},some (117,false)⟩,
 ⟨some 121,Op.fieldAddr 100 (Operand.tmp 8) 3,some (117,false)⟩,
 ⟨some 122,Op.load 22 (Operand.tmp 121),some (117,false)⟩,
 ⟨some 123,Op.call {callee:=Callee.builtin Builtin.len,args:=#[Operand.tmp 122],argTypes:=#[22]},some (117,false)⟩,
 ⟨some 124,Op.binOp BinOp.add 3 (Operand.tmp 123) (Operand.const (Value.int IntKind.i64 1)) 3,some (117,false)⟩,
 ⟨some 125,Op.binOp BinOp.neq 3 (Operand.tmp 120) (Operand.tmp 124) 3,some (117,false)⟩,
 ⟨some 126,Op.pick (Operand.tmp 117) (Operand.const (Value.bool true)) (Operand.tmp 125),none⟩])
 (.cond (Operand.tmp 126)
 (.seq
 (.region [] false ([]) [
 ⟨some 2,Op.assign (Operand.const (Value.bool false)),none⟩])
 .ret)
 .skip))
 (.seq
 (.seq
 (.region [] false ([]) [
 ⟨some 127,Op.fieldAddr 100 (Operand.tmp 8) 3,none⟩,
 ⟨some 128,Op.load 22 (Operand.tmp 127),none⟩,
 ⟨some 129,Op.call {callee:=Callee.builtin Builtin.len,args:=#[Operand.tmp 128],argTypes:=#[22]},none⟩,
 ⟨some 130,Op.move (Operand.const (Value.int IntKind.i64 0)),none⟩])
 (.block 4
 (.loop k67_l2)))
 (.seq
 (.seq
 (.region [] false ([]) [
 ⟨some 138,Op.fieldAddr 100 (Operand.tmp 8) 2,none⟩,
 ⟨some 139,Op.load 22 (Operand.tmp 138),none⟩,
 ⟨some 140,Op.call {callee:=Callee.builtin Builtin.len,args:=#[Operand.tmp 139],argTypes:=#[22]},none⟩,
 ⟨some 141,Op.move (Operand.const (Value.int IntKind.i64 0)),none⟩])
 (.block 6
 (.loop k67_l3)))
 (.region [] false ([]) [
 ⟨some 150,Op.move (Operand.tmp 4),none⟩,
 ⟨some 151,Op.fieldAddr 100 (Operand.tmp 8) 0,none⟩,
 ⟨some 152,Op.load 2 (Operand.tmp 151),none⟩,
 ⟨none,Op.mapUpdate 195 (Operand.tmp 150) (Operand.tmp 152) (Operand.const (Value.bool true)),none⟩]))))))
 (.region [] false ([]) [
 ⟨some 153,Op.binOp BinOp.add 3 (Operand.tmp 80) (Operand.const (Value.int IntKind.i64 1)) 3,none⟩,
 ⟨some 80,Op.move (Operand.tmp 153),none⟩]))))
/-- The body of a loop. -/
def k67_l5 : Code1 :=
 (.seq
 (.region [] false ([]) [
 ⟨some 239,Op.binOp BinOp.lss 3 (Operand.tmp 238) (Operand.tmp 237) 3,none⟩])
 (.seq
 (.cond (Operand.tmp 239)
 .skip
 (.exit 10))
 (.seq
 (.block 11
 (.seq
 (.region [] false ([]) [
 ⟨some 240,Op.indexAddr 22 (Operand.tmp 236) (Operand.tmp 238),none⟩,
 ⟨some 241,Op.load 2 (Operand.tmp 240),none⟩,
 ⟨some 16,Op.assign (Operand.tmp 241),none⟩])
 (.seq
 (.region [] false ([]) [
 ⟨some 242,Op.move (Operand.tmp 4),none⟩,
 ⟨some 243,Op.move (Operand.tmp 16),none⟩,
 ⟨some 244,Op.lookup 195 (Operand.tmp 242) (Operand.tmp 243) false,none⟩,
 ⟨some 245,Op.unOp UnOp.not 4 (Operand.tmp 244),none⟩])
 (.cond (Operand.tmp 245)
 (.seq
 (.region [] false ([]) [
 ⟨some 2,Op.assign (Operand.const (Value.bool false)),none⟩])
 .ret)
 .skip))))
 (.region [] false ([]) [
 ⟨some 246,Op.binOp BinOp.add 3 (Operand.tmp 238) (Operand.const (Value.int IntKind.i64 1)) 3,none⟩,
 ⟨some 238,Op.move (Operand.tmp 246),none⟩]))))
/-- The body of a loop. -/
def k67_l4 : Code1 :=
 (.seq
 (.region [] false ([]) [
 ⟨some 162,Op.binOp BinOp.lss 3 (Operand.tmp 161) (Operand.tmp 160) 3,none⟩])
 (.seq
 (.cond (Operand.tmp 162)
 .skip
 (.exit 8))
 (.seq
 (.block 9
 (.seq
 (.region [14] false ([]) [
 ⟨some 163,Op.move (Operand.tmp 161),none⟩,
 ⟨some 164,Op.indexAddr 34 (Operand.tmp 159) (Operand.tmp 161),none⟩,
 ⟨some 165,Op.load 94 (Operand.tmp 164),none⟩,
 ⟨some 14,Op.alloc 94,none⟩,
 ⟨some 13,Op.assign (Operand.tmp 163),none⟩,
 ⟨none,Op.store 94 (Operand.tmp 14) (Operand.tmp 165),none⟩])
 (.seq
 (.seq
 (.region [168] true ([]) [
 ⟨some 166,Op.fieldAddr 94 (Operand.tmp 14) 0,none⟩,
 ⟨some 167,Op.load 2 (Operand.tmp 166),none⟩,
 ⟨some 168,Op.call {callee:=Callee.value (Operand.func 139),args:=#[Operand.tmp 167],argTypes:=#[2]},none⟩,
 ⟨some 169,Op.unOp UnOp.not 4 (Operand.tmp 168),none⟩,
 ⟨some 170,Op.move (Operand.tmp 169),none⟩,
 ⟨some 171,Op.move (Operand.tmp 13),some (170,false)⟩,
 ⟨some 172,Op.binOp BinOp.gtr 3 (Operand.tmp 171) (Operand.const (Value.int IntKind.i64 0)) 3,some (170,false)⟩,
 ⟨some 173,Op.move (Operand.tmp 172),some (170,false)⟩,
 ⟨some 174,Op.fieldAddr 37 (Operand.tmp 1) 2,some (173,true)⟩,
 ⟨some 175,Op.load 34 (Operand.tmp 174),some (173,true)⟩,
 ⟨some 176,Op.move (Operand.tmp 13),some (173,true)⟩,
 ⟨some 177,Op.binOp BinOp.sub 3 (Operand.tmp 176) (Operand.const (Value.int IntKind.i64 1)) 3,some (173,true)⟩,
 ⟨some 178,Op.indexAddr 34 (Operand.tmp 175) (Operand.tmp 177),some (173,true)⟩,
 ⟨some 179,Op.fieldAddr 94 (Operand.tmp 178) 0,some (173,true)⟩,
 ⟨some 180,Op.load 2 (Operand.tmp 179),some (173,true)⟩,
 ⟨some 181,Op.fieldAddr 94 (Operand.tmp 14) 0,some (173,true)⟩,
 ⟨some 182,Op.load 2 (Operand.tmp 181),some (173,true)⟩,
 ⟨some 183,Op.binOp BinOp.geq 2 (Operand.tmp 180) (Operand.tmp 182) 2,some (173,true)⟩,
 ⟨some 184,Op.pick (Operand.tmp 173) (Operand.tmp 183) (Operand.const (Value.bool false)),some (170,false)⟩,
 ⟨some 185,Op.pick (Operand.tmp 170) (Operand.const (Value.bool true)) (Operand.tmp 184),none⟩,
 ⟨some 186,Op.move (Operand.tmp 185),none⟩,
 ⟨some 187,Op.move (Operand.tmp 4),some (186,false)⟩,
 ⟨some 188,Op.fieldAddr 94 (Operand.tmp 14) 2,some (186,false)⟩,
 ⟨some 189,Op.load 2 (Operand.tmp 188),some (186,false)⟩,
 ⟨some 190,Op.lookup 195 (Operand.tmp 187) (Operand.tmp 189) false,some (186,false)⟩,
 ⟨some 191,Op.unOp UnOp.not 4 (Operand.tmp 190),some (186,false)⟩,
 ⟨some 192,Op.pick (Operand.tmp 186) (Operand.const (Value.bool true)) (Operand.tmp 191),none⟩,
 ⟨some 193,Op.move (Operand.tmp 192),none⟩,
 ⟨some 194,Op.move (Operand.tmp 4),some (193,false)⟩,
 ⟨some 195,Op.fieldAddr 94 (Operand.tmp 14) 3,some (193,false)⟩,
 ⟨some 196,Op.load 2 (Operand.tmp 195),some (193,false)⟩,
 ⟨some 197,Op.lookup 195 (Operand.tmp 194) (Operand.tmp 196) false,some (193,false)⟩,
 ⟨some 198,Op.unOp UnOp.not 4 (Operand.tmp 197),some (193,false)⟩,
 ⟨some 199,Op.pick (Operand.tmp 193) (Operand.const (Value.bool true)) (Operand.tmp 198),none⟩])
 (.cond (Operand.tmp 199)
 (.seq
 (.region [] false ([]) [
 ⟨some 2,Op.assign (Operand.const (Value.bool false)),none⟩])
 .ret)
 .skip))
 (.seq
 (.seq
 (.region [] false ([]) [
 ⟨some 200,Op.fieldAddr 94 (Operand.tmp 14) 4,none⟩,
 ⟨some 201,Op.load 4 (Operand.tmp 200),none⟩,
 ⟨some 202,Op.move (Operand.tmp 201),none⟩,
 ⟨some 203,Op.move (Operand.tmp 3),some (202,true)⟩,
 ⟨some 204,Op.fieldAddr 94 (Operand.tmp 14) 5,some (202,true)⟩,
 ⟨some 205,Op.load 2 (Operand.tmp 204),some (202,true)⟩,
 ⟨some 206,Op.lookup 195 (Operand.tmp 203) (Operand.tmp 205) false,some (202,true)⟩,
 ⟨some 207,Op.unOp UnOp.not 4 (Operand.tmp 206),some (202,true)⟩,
 ⟨some 208,Op.move (Operand.tmp 207),some (202,true)⟩,
 ⟨some 209,Op.fieldAddr 94 (Operand.tmp 14) 6,some (208,false)⟩,
 ⟨some 210,Op.load 22 (Operand.tmp 209),some (208,false)⟩,
 ⟨some 211,Op.call {callee:=Callee.builtin Builtin.len,args:=#[Operand.tmp 210],argTypes:=#[22]},some (208,false)⟩,
 ⟨some 212,Op.binOp BinOp.gtr 3 (Operand.tmp 211) (Operand.const (Value.int IntKind.i64 0)) 3,some (208,false)⟩,
 ⟨some 213,Op.pick (Operand.tmp 208) (Operand.const (Value.bool true)) (Operand.tmp 212),some (202,true)⟩,
 ⟨some 214,Op.pick (Operand.tmp 202) (Operand.tmp 213) (Operand.const (Value.bool false)),none⟩])
 (.cond (Operand.tmp 214)
 (.seq
 (.region [] false ([]) [
 ⟨some 2,Op.assign (Operand.const (Value.bool false)),none⟩])
 .ret)
 .skip))
 (.seq
 (.seq
 (.region [] false ([]) [
 ⟨some 215,Op.fieldAddr 94 (Operand.tmp 14) 4,none⟩,
 ⟨some 216,Op.load 4 (Operand.tmp 215),none⟩,
 ⟨some 217,Op.unOp UnOp.not 4 (Operand.tmp 216),none⟩,
 ⟨some 218,Op.move (Operand.tmp 217),none⟩,
 ⟨some 219,Op.fieldAddr 94 (Operand.tmp 14) 5,some (218,true)⟩,
 ⟨some 220,Op.load 2 (Operand.tmp 219),some (218,true)⟩,
 ⟨some 221,Op.binOp BinOp.neq 2 (Operand.tmp 220) (Operand.const (Value.int IntKind.i64 0)) 2,some (218,true)⟩,
 ⟨some 222,Op.move (Operand.tmp 221),some (218,true)⟩,
 ⟨some 223,Op.fieldAddr 94 (Operand.tmp 14) 6,some (222,false)⟩,
 ⟨some 224,Op.load 22 (Operand.tmp 223),some (222,false)⟩,
 ⟨some 225,Op.call {callee:=Callee.builtin Builtin.len,args:=#[Operand.tmp 224],argTypes:=#[22]},some (222,false)⟩,
 ⟨some 226,Op.binOp BinOp.lss 3 (Operand.tmp 225) (Operand.const (Value.int IntKind.i64 1)) 3,some (222,false)⟩,
 ⟨some 227,Op.pick (Operand.tmp 222) (Operand.const (Value.bool true)) (Operand.tmp 226),some (218,true)⟩,
 ⟨some 228,Op.move (Operand.tmp 227),some (218,true)⟩,
 ⟨some 229,Op.fieldAddr 94 (Operand.tmp 14) 6,some (228,false)⟩,
 ⟨some 230,Op.load 22 (Operand.tmp 229),some (228,false)⟩,
 ⟨some 231,Op.call {callee:=Callee.builtin Builtin.len,args:=#[Operand.tmp 230],argTypes:=#[22]},some (228,false)⟩,
 ⟨some 232,Op.binOp BinOp.gtr 3 (Operand.tmp 231) (Operand.const (Value.int IntKind.i64 4)) 3,some (228,false)⟩,
 ⟨some 233,Op.pick (Operand.tmp 228) (Operand.const (Value.bool true)) (Operand.tmp 232),some (218,true)⟩,
 ⟨some 234,Op.pick (Operand.tmp 218) (Operand.tmp 233) (Operand.const (Value.bool false)),none⟩])
 (.cond (Operand.tmp 234)
 (.seq
 (.region [] false ([]) [
 ⟨some 2,Op.assign (Operand.const (Value.bool false)),none⟩])
 .ret)
 .skip))
 (.seq
 (.region [] false ([]) [
 ⟨some 235,Op.fieldAddr 94 (Operand.tmp 14) 6,none⟩,
 ⟨some 236,Op.load 22 (Operand.tmp 235),none⟩,
 ⟨some 237,Op.call {callee:=Callee.builtin Builtin.len,args:=#[Operand.tmp 236],argTypes:=#[22]},none⟩,
 ⟨some 238,Op.move (Operand.const (Value.int IntKind.i64 0)),none⟩])
 (.block 10
 (.loop k67_l5))))))))
 (.region [] false ([]) [
 ⟨some 247,Op.binOp BinOp.add 3 (Operand.tmp 161) (Operand.const (Value.int IntKind.i64 1)) 3,none⟩,
 ⟨some 161,Op.move (Operand.tmp 247),none⟩]))))
/-- The body of a loop. -/
def k67_l6 : Code1 :=
 (.seq
 (.region [] false ([]) [
 ⟨some 252,Op.binOp BinOp.lss 3 (Operand.tmp 251) (Operand.tmp 250) 3,none⟩])
 (.seq
 (.cond (Operand.tmp 252)
 .skip
 (.exit 12))
 (.seq
 (.block 13
 (.seq
 (.region [18] false ([]) [
 ⟨some 253,Op.move (Operand.tmp 251),none⟩,
 ⟨some 254,Op.indexAddr 35 (Operand.tmp 249) (Operand.tmp 251),none⟩,
 ⟨some 255,Op.load 181 (Operand.tmp 254),none⟩,
 ⟨some 18,Op.alloc 181,none⟩,
 ⟨some 17,Op.assign (Operand.tmp 253),none⟩,
 ⟨none,Op.store 181 (Operand.tmp 18) (Operand.tmp 255),none⟩])
 (.seq
 (.seq
 (.region [271] false ([]) [
 ⟨some 256,Op.move (Operand.tmp 4),none⟩,
 ⟨some 257,Op.fieldAddr 181 (Operand.tmp 18) 0,none⟩,
 ⟨some 258,Op.load 2 (Operand.tmp 257),none⟩,
 ⟨some 259,Op.lookup 195 (Operand.tmp 256) (Operand.tmp 258) false,none⟩,
 ⟨some 260,Op.unOp UnOp.not 4 (Operand.tmp 259),none⟩,
 ⟨some 261,Op.move (Operand.tmp 260),none⟩,
 ⟨some 262,Op.move (Operand.tmp 4),some (261,false)⟩,
 ⟨some 263,Op.fieldAddr 181 (Operand.tmp 18) 1,some (261,false)⟩,
 ⟨some 264,Op.load 2 (Operand.tmp 263),some (261,false)⟩,
 ⟨some 265,Op.lookup 195 (Operand.tmp 262) (Operand.tmp 264) false,some (261,false)⟩,
 ⟨some 266,Op.unOp UnOp.not 4 (Operand.tmp 265),some (261,false)⟩,
 ⟨some 267,Op.pick (Operand.tmp 261) (Operand.const (Value.bool true)) (Operand.tmp 266),none⟩,
 ⟨some 268,Op.move (Operand.tmp 267),none⟩,
 ⟨some 269,Op.fieldAddr 181 (Operand.tmp 18) 2,some (268,false)⟩,
 ⟨some 270,Op.load 2 (Operand.tmp 269),some (268,false)⟩,
 ⟨some 271,Op.call {callee:=Callee.value (Operand.func 139),args:=#[Operand.tmp 270],argTypes:=#[2]},some (268,false)⟩,
 ⟨some 272,Op.unOp UnOp.not 4 (Operand.tmp 271),some (268,false)⟩,
 ⟨some 273,Op.pick (Operand.tmp 268) (Operand.const (Value.bool true)) (Operand.tmp 272),none⟩])
 (.cond (Operand.tmp 273)
 (.seq
 (.region [] false ([]) [
 ⟨some 2,Op.assign (Operand.const (Value.bool false)),none⟩])
 .ret)
 .skip))
 (.seq
 (.region [] true ([]) [
 ⟨some 274,Op.move (Operand.tmp 17),none⟩,
 ⟨some 275,Op.binOp BinOp.gtr 3 (Operand.tmp 274) (Operand.const (Value.int IntKind.i64 0)) 3,none⟩,
 ⟨some 276,Op.move (Operand.tmp 275),none⟩,
 ⟨some 277,Op.fieldAddr 37 (Operand.tmp 1) 3,some (276,true)⟩,
 ⟨some 278,Op.load 35 (Operand.tmp 277),some (276,true)⟩,
 ⟨some 279,Op.move (Operand.tmp 17),some (276,true)⟩,
 ⟨some 280,Op.binOp BinOp.sub 3 (Operand.tmp 279) (Operand.const (Value.int IntKind.i64 1)) 3,some (276,true)⟩,
 ⟨some 281,Op.indexAddr 35 (Operand.tmp 278) (Operand.tmp 280),some (276,true)⟩,
 ⟨some 282,Op.fieldAddr 181 (Operand.tmp 281) 0,some (276,true)⟩,
 ⟨some 283,Op.load 2 (Operand.tmp 282),some (276,true)⟩,
 ⟨some 284,Op.fieldAddr 181 (Operand.tmp 18) 0,some (276,true)⟩,
 ⟨some 285,Op.load 2 (Operand.tmp 284),some (276,true)⟩,
 ⟨some 286,Op.binOp BinOp.gtr 2 (Operand.tmp 283) (Operand.tmp 285) 2,some (276,true)⟩,
 ⟨some 287,Op.move (Operand.tmp 286),some (276,true)⟩,
 ⟨some 288,Op.fieldAddr 37 (Operand.tmp 1) 3,some (287,false)⟩,
 ⟨some 289,Op.load 35 (Operand.tmp 288),some (287,false)⟩,
 ⟨some 290,Op.move (Operand.tmp 17),some (287,false)⟩,
 ⟨some 291,Op.binOp BinOp.sub 3 (Operand.tmp 290) (Operand.const (Value.int IntKind.i64 1)) 3,some (287,false)⟩,
 ⟨some 292,Op.indexAddr 35 (Operand.tmp 289) (Operand.tmp 291),some (287,false)⟩,
 ⟨some 293,Op.fieldAddr 181 (Operand.tmp 292) 0,some (287,false)⟩,
 ⟨some 294,Op.load 2 (Operand.tmp 293),some (287,false)⟩,
 ⟨some 295,Op.fieldAddr 181 (Operand.tmp 18) 0,some (287,false)⟩,
 ⟨some 296,Op.load 2 (Operand.tmp 295),some (287,false)⟩,
 ⟨some 297,Op.binOp BinOp.eql 2 (Operand.tmp 294) (Operand.tmp 296) 2,some (287,false)⟩,
 ⟨some 298,Op.move (Operand.tmp 297),some (287,false)⟩,
 ⟨some 299,Op.fieldAddr 37 (Operand.tmp 1) 3,some (298,true)⟩,
 ⟨some 300,Op.load 35 (Operand.tmp 299),some (298,true)⟩,
 ⟨some 301,Op.move (Operand.tmp 17),some (298,true)⟩,
 ⟨some 302,Op.binOp BinOp.sub 3 (Operand.tmp 301) (Operand.const (Value.int IntKind.i64 1)) 3,some (298,true)⟩,
 ⟨some 303,Op.indexAddr 35 (Operand.tmp 300) (Operand.tmp 302),some (298,true)⟩,
 ⟨some 304,Op.fieldAddr 181 (Operand.tmp 303) 1,some (298,true)⟩,
 ⟨some 305,Op.load 2 (Operand.tmp 304),some (298,true)⟩,
 ⟨some 306,Op.fieldAddr 181 (Operand.tmp 18) 1,some (298,true)⟩,
 ⟨some 307,Op.load 2 (Operand.tmp 306),some (298,true)⟩,
 ⟨some 308,Op.binOp BinOp.geq 2 (Operand.tmp 305) (Operand.tmp 307) 2,some (298,true)⟩,
 ⟨some 309,Op.pick (Operand.tmp 298) (Operand.tmp 308) (Operand.const (Value.bool false)),some (287,false)⟩,
 ⟨some 310,Op.pick (Operand.tmp 287) (Operand.const (Value.bool true)) (Operand.tmp 309),some (276,true)⟩,
 ⟨some 311,Op.pick (Operand.tmp 276) (Operand.tmp 310) (Operand.const (Value.bool false)),none⟩])
 (.cond (Operand.tmp 311)
 (.seq
 (.region [] false ([]) [
 ⟨some 2,Op.assign (Operand.const (Value.bool false)),none⟩])
 .ret)
 .skip)))))
 (.region [] false ([]) [
 ⟨some 312,Op.binOp BinOp.add 3 (Operand.tmp 251) (Operand.const (Value.int IntKind.i64 1)) 3,none⟩,
 ⟨some 251,Op.move (Operand.tmp 312),none⟩]))))
/-- The code of impl.ValidNet, its loops' bodies named. -/
def k67 : Code1 :=
 (.seq
 (.region [1] false ([]) [
 ⟨some 1,Op.box 37 (Operand.tmp 0),none⟩,
 ⟨some 2,Op.assign (Operand.const (Value.bool false)),none⟩])
 (.seq
 (.seq
 (.region [21] false ([]) [
 ⟨some 19,Op.fieldAddr 37 (Operand.tmp 1) 4,none⟩,
 ⟨some 20,Op.load 2 (Operand.tmp 19),none⟩,
 ⟨some 21,Op.call {callee:=Callee.value (Operand.func 139),args:=#[Operand.tmp 20],argTypes:=#[2]},none⟩,
 ⟨some 22,Op.unOp UnOp.not 4 (Operand.tmp 21),none⟩,
 ⟨some 23,Op.move (Operand.tmp 22),none⟩,
 ⟨some 24,Op.fieldAddr 37 (Operand.tmp 1) 0,some (23,false)⟩,
 ⟨some 25,Op.load 22 (Operand.tmp 24),some (23,false)⟩,
 ⟨some 26,Op.call {callee:=Callee.builtin Builtin.len,args:=#[Operand.tmp 25],argTypes:=#[22]},some (23,false)⟩,
 ⟨some 27,Op.binOp BinOp.gtr 3 (Operand.tmp 26) (Operand.const (Value.int IntKind.i64 2000)) 3,some (23,false)⟩,
 ⟨some 28,Op.pick (Operand.tmp 23) (Operand.const (Value.bool true)) (Operand.tmp 27),none⟩,
 ⟨some 29,Op.move (Operand.tmp 28),none⟩,
 ⟨some 30,Op.fieldAddr 37 (Operand.tmp 1) 1,some (29,false)⟩,
 ⟨some 31,Op.load 33 (Operand.tmp 30),some (29,false)⟩,
 ⟨some 32,Op.call {callee:=Callee.builtin Builtin.len,args:=#[Operand.tmp 31],argTypes:=#[33]},some (29,false)⟩,
 ⟨some 33,Op.binOp BinOp.gtr 3 (Operand.tmp 32) (Operand.const (Value.int IntKind.i64 2000)) 3,some (29,false)⟩,
 ⟨some 34,Op.pick (Operand.tmp 29) (Operand.const (Value.bool true)) (Operand.tmp 33),none⟩,
 ⟨some 35,Op.move (Operand.tmp 34),none⟩,
 ⟨some 36,Op.fieldAddr 37 (Operand.tmp 1) 2,some (35,false)⟩,
 ⟨some 37,Op.load 34 (Operand.tmp 36),some (35,false)⟩,
 ⟨some 38,Op.call {callee:=Callee.builtin Builtin.len,args:=#[Operand.tmp 37],argTypes:=#[34]},some (35,false)⟩,
 ⟨some 39,Op.binOp BinOp.gtr 3 (Operand.tmp 38) (Operand.const (Value.int IntKind.i64 1000)) 3,some (35,false)⟩,
 ⟨some 40,Op.pick (Operand.tmp 35) (Operand.const (Value.bool true)) (Operand.tmp 39),none⟩,
 ⟨some 41,Op.move (Operand.tmp 40),none⟩,
 ⟨some 42,Op.fieldAddr 37 (Operand.tmp 1) 3,some (41,false)⟩,
 ⟨some 43,Op.load 35 (Operand.tmp 42),some (41,false)⟩,
 ⟨some 44,Op.call {callee:=Callee.builtin Builtin.len,args:=#[Operand.tmp 43],argTypes:=#[35]},some (41,false)⟩,
 ⟨some 45,Op.binOp BinOp.gtr 3 (Operand.tmp 44) (Operand.const (Value.int IntKind.i64 2000)) 3,some (41,false)⟩,
 ⟨some 46,Op.pick (Operand.tmp 41) (Operand.const (Value.bool true)) (Operand.tmp 45),none⟩])
 (.cond (Operand.tmp 46)
 (.seq
 (.region [] false ([]) [
 ⟨some 2,Op.assign (Operand.const (Value.bool false)),none⟩])
 .ret)
 .skip))
 (.seq
 (.region [47] false ([]) [
 ⟨some 47,Op.makeMap 195 none,none⟩,
 ⟨some 3,Op.assign (Operand.tmp 47),none⟩])
 (.seq
 (.region [48] false ([]) [
 ⟨some 48,Op.makeMap 195 none,none⟩,
 ⟨some 4,Op.assign (Operand.tmp 48),none⟩])
 (.seq
 (.seq
 (.region [] false ([]) [
 ⟨some 49,Op.fieldAddr 37 (Operand.tmp 1) 0,none⟩,
 ⟨some 50,Op.load 22 (Operand.tmp 49),none⟩,
 ⟨some 51,Op.call {callee:=Callee.builtin Builtin.len,args:=#[Operand.tmp 50],argTypes:=#[22]},none⟩,
 ⟨some 52,Op.move (Operand.const (Value.int IntKind.i64 0)),none⟩])
 (.block 0
 (.loop k67_l0)))
 (.seq
 (.seq
 (.region [] false ([]) [
 ⟨some 77,Op.fieldAddr 37 (Operand.tmp 1) 1,none⟩,
 ⟨some 78,Op.load 33 (Operand.tmp 77),none⟩,
 ⟨some 79,Op.call {callee:=Callee.builtin Builtin.len,args:=#[Operand.tmp 78],argTypes:=#[33]},none⟩,
 ⟨some 80,Op.move (Operand.const (Value.int IntKind.i64 0)),none⟩])
 (.block 2
 (.loop k67_l1)))
 (.seq
 (.seq
 (.region [156] false ([]) [
 ⟨some 154,Op.fieldAddr 37 (Operand.tmp 1) 1,none⟩,
 ⟨some 155,Op.load 33 (Operand.tmp 154),none⟩,
 ⟨some 156,Op.call {callee:=Callee.value (Operand.func 140),args:=#[Operand.tmp 155],argTypes:=#[33]},none⟩,
 ⟨some 157,Op.binOp BinOp.gtr 3 (Operand.tmp 156) (Operand.const (Value.int IntKind.i64 4000)) 3,none⟩])
 (.cond (Operand.tmp 157)
 (.seq
 (.region [] false ([]) [
 ⟨some 2,Op.assign (Operand.const (Value.bool false)),none⟩])
 .ret)
 .skip))
 (.seq
 (.seq
 (.region [] false ([]) [
 ⟨some 158,Op.fieldAddr 37 (Operand.tmp 1) 2,none⟩,
 ⟨some 159,Op.load 34 (Operand.tmp 158),none⟩,
 ⟨some 160,Op.call {callee:=Callee.builtin Builtin.len,args:=#[Operand.tmp 159],argTypes:=#[34]},none⟩,
 ⟨some 161,Op.move (Operand.const (Value.int IntKind.i64 0)),none⟩])
 (.block 8
 (.loop k67_l4)))
 (.seq
 (.seq
 (.region [] false ([]) [
 ⟨some 248,Op.fieldAddr 37 (Operand.tmp 1) 3,none⟩,
 ⟨some 249,Op.load 35 (Operand.tmp 248),none⟩,
 ⟨some 250,Op.call {callee:=Callee.builtin Builtin.len,args:=#[Operand.tmp 249],argTypes:=#[35]},none⟩,
 ⟨some 251,Op.move (Operand.const (Value.int IntKind.i64 0)),none⟩])
 (.block 12
 (.loop k67_l6)))
 (.seq
 (.region [] false ([]) [
 ⟨some 2,Op.assign (Operand.const (Value.bool true)),none⟩])
 .ret))))))))))
set_option maxHeartbeats 4000000 in
theorem vnI_l0 (n : Net) (h : LN n) (h64 : N64 n) {K : St → Prop} (hE : ∀ s : St, (s.tm 1 = .ptr (1, 0) 0 0 ∧ s.ob (1, 0) = objN n ∧ s.tm 3 = .mp (47, 0) ∧ s.ob (47, 0) = some (.map 0 (vmap Value.bool (setN n.nodes n.nodes.length))) ∧ s.tm 4 = .mp (48, 0) ∧ s.ob (48, 0) = some (.map 0 (vmap Value.bool (setW n.ways 0))) ∧ ∀ i : Nat, i < n.nodes.length → NdI n i) → K s) (m : Nat) (s : St) (hs : (fun (m : Nat) (s : St) => ∃ k : Nat, s.tm 1 = .ptr (1, 0) 0 0 ∧ s.ob (1, 0) = objN n ∧ s.tm 3 = .mp (47, 0) ∧ s.ob (47, 0) = some (.map 0 (vmap Value.bool (setN n.nodes k))) ∧ s.tm 4 = .mp (48, 0) ∧ s.ob (48, 0) = some (.map 0 (vmap Value.bool (setW n.ways 0))) ∧ s.tm 50 = .t (ints n.nodes) ∧ s.tm 51 = .t (.v (.int .i64 n.nodes.length)) ∧ s.tm 52 = .t (.v (.int .i64 k)) ∧ k ≤ n.nodes.length ∧ m = n.nodes.length - k ∧ ∀ i : Nat, i < k → NdI n i) m s) (K' : St → Prop) (hN : ∀ (m' : Nat) (s' : St), m' < m → (fun (m : Nat) (s : St) => ∃ k : Nat, s.tm 1 = .ptr (1, 0) 0 0 ∧ s.ob (1, 0) = objN n ∧ s.tm 3 = .mp (47, 0) ∧ s.ob (47, 0) = some (.map 0 (vmap Value.bool (setN n.nodes k))) ∧ s.tm 4 = .mp (48, 0) ∧ s.ob (48, 0) = some (.map 0 (vmap Value.bool (setW n.ways 0))) ∧ s.tm 50 = .t (ints n.nodes) ∧ s.tm 51 = .t (.v (.int .i64 n.nodes.length)) ∧ s.tm 52 = .t (.v (.int .i64 k)) ∧ k ≤ n.nodes.length ∧ m = n.nodes.length - k ∧ ∀ i : Nat, i < k → NdI n i) m' s' → K' s') : wp2 Try.prog k67_l0 (thenQ K' (inBlk 0 (thenQ K (Fin (Back Try.prog [ResultVar.tmp 2] [.agg (encN n)] (.t (.v (.bool (decide (VNet n))))) []))))) s := by
  obtain ⟨h1, h2, h3, h4, h5, h6, h7⟩ := h
  have sn := setN_all n.nodes
  have sw := setW_all n.ways
  obtain ⟨k, s1, o1, s3, o3, s4, o4, s50, s51, s52, hk, rfl, hq⟩ := hs
  simp only [objN] at o1
  have q64 : k < n.nodes.length → -9223372036854775808 ≤ rd n.nodes k ∧ rd n.nodes k < 9223372036854775808 := h64.nd k
  unfold k67_l0
  repeat' (first
   | refine wp2_seq fun K hK => ?_
   | refine M_cons fun K hK => ?_
   | (refine hK _ ?_; clear hK K)
   | (refine hX _ ?_; clear hX hY X Y)
   | (refine hY _ ?_; clear hX hY X Y)
   | refine wp2_block ?_
   | refine wp2_region ?_
   | refine wp2_cond fun X Y hX hY => ?_
   | (refine condK_of (fun c => ?_) (fun c => ?_) <;> (try simp [-List.length_eq_zero_iff] at c))
   | (refine guard1_or (fun c => ?_) (fun c => ?_) <;> (have cc := c) <;> (try simp [-List.length_eq_zero_iff] at cc) <;> (try simp (disch := omega) [s1, o1, s3, o3, s4, o4, s50, s51, s52, c]))
   | (refine callT_fl (inRange_c _) (by simp [St.args, St.arg, s1, o1, s3, o3, s4, o4, s50, s51, s52] <;> first | rfl | ((repeat' first | rfl | apply And.intro); first | done | fail)) ?_)
   | simp (maxSteps := 4000000) (disch := omega) [s1, o1, s3, o3, s4, o4, s50, s51, s52])
  all_goals first
    | (refine hN (n.nodes.length - (k + 1)) _ (by omega) ⟨k + 1, ?_⟩
       simp [s1, o1, s3, o3, s4, o4, s50, s51, objN, setN]
       refine ⟨by omega, below_succ hq ?_⟩
       exact ⟨by assumption, by omega⟩)
    | (have hkl : k = n.nodes.length := by omega
       subst hkl
       refine hE _ ?_
       simp [s1, o1, s3, o3, s4, o4, objN]
       exact hq)
    | omega
    | (have hv : ¬ VNet n := fun h => by
         have e := h.ni k (by assumption)
         obtain ⟨e1, e2⟩ := e
         clear h
         first | omega | contradiction
       simp [Back, hv]; done)
    | skip
set_option maxHeartbeats 4000000 in
theorem vnI_l6 (n : Net) (h : LN n) (h64 : N64 n) {K : St → Prop} (hE : ∀ s : St, (∀ i : Nat, i < n.tcs.length → TcI n i) → K s) (m : Nat) (s : St) (hs : (fun (m : Nat) (s : St) => ∃ k : Nat, s.tm 1 = .ptr (1, 0) 0 0 ∧ s.ob (1, 0) = objN n ∧ s.tm 4 = .mp (48, 0) ∧ s.ob (48, 0) = some (.map 0 (vmap Value.bool (setW n.ways n.ways.length))) ∧ s.tm 249 = .t (recs encC n.tcs) ∧ s.tm 250 = .t (.v (.int .i64 n.tcs.length)) ∧ s.tm 251 = .t (.v (.int .i64 k)) ∧ k ≤ n.tcs.length ∧ m = n.tcs.length - k ∧ ∀ i : Nat, i < k → TcI n i) m s) (K' : St → Prop) (hN : ∀ (m' : Nat) (s' : St), m' < m → (fun (m : Nat) (s : St) => ∃ k : Nat, s.tm 1 = .ptr (1, 0) 0 0 ∧ s.ob (1, 0) = objN n ∧ s.tm 4 = .mp (48, 0) ∧ s.ob (48, 0) = some (.map 0 (vmap Value.bool (setW n.ways n.ways.length))) ∧ s.tm 249 = .t (recs encC n.tcs) ∧ s.tm 250 = .t (.v (.int .i64 n.tcs.length)) ∧ s.tm 251 = .t (.v (.int .i64 k)) ∧ k ≤ n.tcs.length ∧ m = n.tcs.length - k ∧ ∀ i : Nat, i < k → TcI n i) m' s' → K' s') : wp2 Try.prog k67_l6 (thenQ K' (inBlk 12 (thenQ K (Fin (Back Try.prog [ResultVar.tmp 2] [.agg (encN n)] (.t (.v (.bool (decide (VNet n))))) []))))) s := by
  obtain ⟨h1, h2, h3, h4, h5, h6, h7⟩ := h
  have sn := setN_all n.nodes
  have sw := setW_all n.ways
  obtain ⟨k, s1, o1, s4, o4, s249, s250, s251, hk, rfl, hq⟩ := hs
  simp only [objN] at o1
  have key : TcI n k ↔ inR (nth n.tcs k).cost ∧ isWay n.ways (nth n.tcs k).fr ∧ isWay n.ways (nth n.tcs k).to ∧ (0 < k → (nth n.tcs ((k : Int) - 1)).fr < (nth n.tcs k).fr ∨ ((nth n.tcs ((k : Int) - 1)).fr = (nth n.tcs k).fr ∧ (nth n.tcs ((k : Int) - 1)).to < (nth n.tcs k).to)) := by
    unfold TcI TCOK
    exact ⟨fun ⟨⟨a, b, c⟩, d⟩ => ⟨a, b, c, d⟩, fun ⟨a, b, c, d⟩ => ⟨⟨a, b, c⟩, d⟩⟩
  have q64 : k < n.tcs.length → (-9223372036854775808 ≤ (nth n.tcs k).fr ∧ (nth n.tcs k).fr < 9223372036854775808) ∧ (-9223372036854775808 ≤ (nth n.tcs k).to ∧ (nth n.tcs k).to < 9223372036854775808) := h64.tf k
  unfold k67_l6
  repeat' (first
   | refine wp2_seq fun K hK => ?_
   | refine M_cons fun K hK => ?_
   | (refine hK _ ?_; clear hK K)
   | (refine hX _ ?_; clear hX hY X Y)
   | (refine hY _ ?_; clear hX hY X Y)
   | refine wp2_block ?_
   | refine wp2_region ?_
   | refine wp2_cond fun X Y hX hY => ?_
   | (refine condK_of (fun c => ?_) (fun c => ?_) <;> (try simp [-List.length_eq_zero_iff] at c))
   | (refine guard1_or (fun c => ?_) (fun c => ?_) <;> (have cc := c) <;> (try simp [-List.length_eq_zero_iff] at cc) <;> (try simp (disch := omega) [s1, o1, s4, o4, s249, s250, s251, encC, sw, c]))
   | (refine callT_fl (inRange_c _) (by simp [St.args, St.arg, s1, o1, s4, o4, s249, s250, s251, encC, sw] <;> first | rfl | ((repeat' first | rfl | apply And.intro); first | done | fail)) ?_)
   | simp (maxSteps := 4000000) (disch := omega) [s1, o1, s4, o4, s249, s250, s251, encC, sw])
  all_goals first
    | (refine hN (n.tcs.length - (k + 1)) _ (by omega) ⟨k + 1, ?_⟩
       simp [s1, o1, s4, o4, s249, s250, objN]
       refine ⟨by omega, below_succ hq ?_⟩
       rw [key]
       exact ⟨by assumption, by assumption, by assumption, by omega⟩)
    | exact hE _ (fun i hi => hq i (by omega))
    | omega
    | (have hv : ¬ VNet n := fun h => by
         have e := h.ti k (by assumption)
         rw [key] at e
         obtain ⟨e1, e2, e3, e4⟩ := e
         clear h
         first | omega | contradiction
       simp [Back, hv]; done)
    | skip
end Cal

set_option linter.unusedSimpArgs false
set_option linter.unusedVariables false
namespace Cal
open Go Go.Proofs
set_option maxRecDepth 100000
set_option maxHeartbeats 4000000 in
theorem vnI_l5 (n : Net) (k : Nat) (via : List Int) (hv : via.length ≤ 1048576) (h64 : ∀ j : Nat, j < via.length → i64 (rd via j)) {Q : Ex → St → Prop} (hE : ∀ s : St, (s.tm 1 = .ptr (1, 0) 0 0 ∧ s.ob (1, 0) = objN n ∧ s.tm 3 = .mp (47, 0) ∧ s.ob (47, 0) = some (.map 0 (vmap Value.bool (setN n.nodes n.nodes.length))) ∧ s.tm 4 = .mp (48, 0) ∧ s.ob (48, 0) = some (.map 0 (vmap Value.bool (setW n.ways n.ways.length))) ∧ s.tm 159 = .t (recs encR n.rels) ∧ s.tm 160 = .t (.v (.int .i64 n.rels.length)) ∧ s.tm 161 = .t (.v (.int .i64 k)) ∧ ∀ i : Nat, i < via.length → isWay n.ways (rd via i)) → Q .normal s) (hR : ∀ s : St, s.tm 2 = .t (.v (.bool false)) → (¬ ∀ i : Nat, i < via.length → isWay n.ways (rd via i)) → Q .ret s) (m : Nat) (s : St) (hs : (fun (m : Nat) (s : St) => ∃ j : Nat, s.tm 1 = .ptr (1, 0) 0 0 ∧ s.ob (1, 0) = objN n ∧ s.tm 3 = .mp (47, 0) ∧ s.ob (47, 0) = some (.map 0 (vmap Value.bool (setN n.nodes n.nodes.length))) ∧ s.tm 4 = .mp (48, 0) ∧ s.ob (48, 0) = some (.map 0 (vmap Value.bool (setW n.ways n.ways.length))) ∧ s.tm 159 = .t (recs encR n.rels) ∧ s.tm 160 = .t (.v (.int .i64 n.rels.length)) ∧ s.tm 161 = .t (.v (.int .i64 k)) ∧ s.tm 236 = .t (ints via) ∧ s.tm 237 = .t (.v (.int .i64 via.length)) ∧ s.tm 238 = .t (.v (.int .i64 j)) ∧ j ≤ via.length ∧ m = via.length - j ∧ ∀ i : Nat, i < j → isWay n.ways (rd via i)) m s) (K' : St → Prop) (hN : ∀ (m' : Nat) (s' : St), m' < m → (fun (m : Nat) (s : St) => ∃ j : Nat, s.tm 1 = .ptr (1, 0) 0 0 ∧ s.ob (1, 0) = objN n ∧ s.tm 3 = .mp (47, 0) ∧ s.ob (47, 0) = some (.map 0 (vmap Value.bool (setN n.nodes n.nodes.length))) ∧ s.tm 4 = .mp (48, 0) ∧ s.ob (48, 0) = some (.map 0 (vmap Value.bool (setW n.ways n.ways.length))) ∧ s.tm 159 = .t (recs encR n.rels) ∧ s.tm 160 = .t (.v (.int .i64 n.rels.length)) ∧ s.tm 161 = .t (.v (.int .i64 k)) ∧ s.tm 236 = .t (ints via) ∧ s.tm 237 = .t (.v (.int .i64 via.length)) ∧ s.tm 238 = .t (.v (.int .i64 j)) ∧ j ≤ via.length ∧ m = via.length - j ∧ ∀ i : Nat, i < j → isWay n.ways (rd via i)) m' s' → K' s') : wp2 Try.prog k67_l5 (thenQ K' (inBlk 10 Q)) s := by
  have sw := setW_all n.ways
  obtain ⟨j, s1, o1, s3, o3, s4, o4, s159, s160, s161, s236, s237, s238, hj, rfl, hq⟩ := hs
  simp only [objN] at o1
  have q64 : j < via.length → -9223372036854775808 ≤ rd via j ∧ rd via j < 9223372036854775808 := h64 j
  unfold k67_l5
  repeat' (first
   | refine wp2_seq fun K hK => ?_
   | refine M_cons fun K hK => ?_
   | (refine hK _ ?_; clear hK K)
   | (refine hX _ ?_; clear hX hY X Y)
   | (refine hY _ ?_; clear hX hY X Y)
   | refine wp2_block ?_
   | refine wp2_region ?_
   | refine wp2_cond fun X Y hX hY => ?_
   | (refine condK_of (fun c => ?_) (fun c => ?_) <;> (try simp [-List.length_eq_zero_iff] at c))
   | simp (maxSteps := 4000000) (disch := omega) [s1, o1, s3, o3, s4, o4, s159, s160, s161, s236, s237, s238, sw])
  all_goals first
    | (refine hN (via.length - (j + 1)) _ (by omega) ⟨j + 1, ?_⟩
       simp [s1, o1, s3, o3, s4, o4, s159, s160, s161, s236, s237, objN]
       exact ⟨by omega, below_succ (p := fun i : Nat => isWay n.ways (rd via i)) hq (by assumption)⟩)
    | (refine hE _ ?_
       simp [s1, o1, s3, o3, s4, o4, s159, s160, s161, objN]
       exact fun i hi => hq i (by omega))
    | omega
    | (refine hR _ (by simp) (fun h => ?_)
       have := h j (by omega)
       contradiction)
    | skip

set_option maxHeartbeats 8000000 in
theorem vnI_l4 (n : Net) (h : LN n) (h64 : N64 n) {K : St → Prop} (hE : ∀ s : St, (s.tm 1 = .ptr (1, 0) 0 0 ∧ s.ob (1, 0) = objN n ∧ s.tm 3 = .mp (47, 0) ∧ s.ob (47, 0) = some (.map 0 (vmap Value.bool (setN n.nodes n.nodes.length))) ∧ s.tm 4 = .mp (48, 0) ∧ s.ob (48, 0) = some (.map 0 (vmap Value.bool (setW n.ways n.ways.length))) ∧ ∀ i : Nat, i < n.rels.length → RlI n i) → K s) (m : Nat) (s : St) (hs : (fun (m : Nat) (s : St) => ∃ k : Nat, s.tm 1 = .ptr (1, 0) 0 0 ∧ s.ob (1, 0) = objN n ∧ s.tm 3 = .mp (47, 0) ∧ s.ob (47, 0) = some (.map 0 (vmap Value.bool (setN n.nodes n.nodes.length))) ∧ s.tm 4 = .mp (48, 0) ∧ s.ob (48, 0) = some (.map 0 (vmap Value.bool (setW n.ways n.ways.length))) ∧ s.tm 159 = .t (recs encR n.rels) ∧ s.tm 160 = .t (.v (.int .i64 n.rels.length)) ∧ s.tm 161 = .t (.v (.int .i64 k)) ∧ k ≤ n.rels.length ∧ m = n.rels.length - k ∧ ∀ i : Nat, i < k → RlI n i) m s) (K' : St → Prop) (hN : ∀ (m' : Nat) (s' : St), m' < m → (fun (m : Nat) (s : St) => ∃ k : Nat, s.tm 1 = .ptr (1, 0) 0 0 ∧ s.ob (1, 0) = objN n ∧ s.tm 3 = .mp (47, 0) ∧ s.ob (47, 0) = some (.map 0 (vmap Value.bool (setN n.nodes n.nodes.length))) ∧ s.tm 4 = .mp (48, 0) ∧ s.ob (48, 0) = some (.map 0 (vmap Value.bool (setW n.ways n.ways.length))) ∧ s.tm 159 = .t (recs encR n.rels) ∧ s.tm 160 = .t (.v (.int .i64 n.rels.length)) ∧ s.tm 161 = .t (.v (.int .i64 k)) ∧ k ≤ n.rels.length ∧ m = n.rels.length - k ∧ ∀ i : Nat, i < k → RlI n i) m' s' → K' s') : wp2 Try.prog k67_l4 (thenQ K' (inBlk 8 (thenQ K (Fin (Back Try.prog [ResultVar.tmp 2] [.agg (encN n)] (.t (.v (.bool (decide (VNet n))))) []))))) s := by
  obtain ⟨h1, h2, h3, h4, h5, h6, h7⟩ := h
  have sn := setN_all n.nodes
  have sw := setW_all n.ways
  obtain ⟨k, s1, o1, s3, o3, s4, o4, s159, s160, s161, hk, rfl, hq⟩ := hs
  simp only [objN] at o1
  by_cases hlt : k < n.rels.length
  · have q64 : (-9223372036854775808 ≤ (nth n.rels k).fr ∧ (nth n.rels k).fr < 9223372036854775808) ∧ (-9223372036854775808 ≤ (nth n.rels k).to ∧ (nth n.rels k).to < 9223372036854775808) ∧ (-9223372036854775808 ≤ (nth n.rels k).node ∧ (nth n.rels k).node < 9223372036854775808) := h64.rf k hlt
    have v64 := h64.rv k hlt
    have b7 := h7 k hlt
    have key : RlI n k ↔ inR (nth n.rels k).id ∧ isWay n.ways (nth n.rels k).fr ∧ isWay n.ways (nth n.rels k).to ∧ ((nth n.rels k).atNode = true → (nth n.rels k).via.length = 0 ∧ (nth n.rels k).node ∈ n.nodes) ∧ ((nth n.rels k).atNode = false → (nth n.rels k).node = 0 ∧ 1 ≤ (nth n.rels k).via.length ∧ (nth n.rels k).via.length ≤ 4 ∧ ∀ i : Nat, i < (nth n.rels k).via.length → isWay n.ways (rd (nth n.rels k).via i)) ∧ (0 < k → (nth n.rels ((k : Int) - 1)).id < (nth n.rels k).id) := by
      unfold RlI
      exact ⟨fun ⟨h, z⟩ => ⟨h.id, h.fr, h.to, h.at1, h.at0, z⟩, fun ⟨a, b, c, d, e, z⟩ => ⟨⟨a, b, c, d, e⟩, z⟩⟩
    have no : ¬ RlI n k → ¬ VNet n := fun h hv => h (hv.ri k hlt)
    cases ht : (nth n.rels k).atNode with
    | true =>
      rw [ht] at key
      simp only [forall_const, Bool.true_eq_false, true_implies, false_implies, true_and, reduceCtorEq] at key
      unfold k67_l4
      repeat' (first
       | refine wp2_seq fun K hK => ?_
       | refine M_cons fun K hK => ?_
       | (refine hK _ ?_; clear hK K)
       | (refine hX _ ?_; clear hX hY X Y)
       | (refine hY _ ?_; clear hX hY X Y)
       | refine wp2_block ?_
       | refine wp2_region ?_
       | refine wp2_cond fun X Y hX hY => ?_
       | (refine condK_of (fun c => ?_) (fun c => ?_) <;> (try simp [-List.length_eq_zero_iff] at c))
       | (refine guard1_or (fun c => ?_) (fun c => ?_) <;> (have cc := c) <;> (try simp [-List.length_eq_zero_iff] at cc) <;> (try simp (disch := omega) [s1, o1, s3, o3, s4, o4, s159, s160, s161, encR, sw, sn, ht, c]))
       | (refine callT_fl (inRange_c _) (by simp [St.args, St.arg, s1, o1, s3, o3, s4, o4, s159, s160, s161, encR, sw, sn, ht] <;> first | rfl | ((repeat' first | rfl | apply And.intro); first | done | fail)) ?_)
       | simp (maxSteps := 4000000) (disch := omega) [s1, o1, s3, o3, s4, o4, s159, s160, s161, encR, sw, sn, ht])
      all_goals try (have hv : ¬ VNet n := no (fun h => by
        rw [key] at h
        obtain ⟨e1, e2, e3, ⟨e4, e5⟩, e6⟩ := h
        first | omega | contradiction); simp [Back, hv]; done)
      all_goals first | omega | skip
      all_goals
        refine wp2_loop _ (nth n.rels k).via.length ?_ (fun m s hs K2 hK2 => vnI_l5 n k (nth n.rels k).via b7 v64 ?_ ?_ m s hs K2 hK2)
        · refine ⟨0, ?_⟩
          simp [s1, o1, s3, o3, s4, o4, s159, s160, s161, objN]
        · rintro s ⟨s1, o1, s3, o3, s4, o4, s159, s160, s161, hall⟩
          simp only [objN] at o1
          repeat' (first
           | refine M_cons fun K hK => ?_
           | (refine hK _ ?_; clear hK K)
           | refine wp2_region ?_
           | simp (maxSteps := 4000000) (disch := omega) [s1, o1, s3, o3, s4, o4, s159, s160, s161])
          all_goals first
            | omega
            | (refine hN (n.rels.length - (k + 1)) _ (by omega) ⟨k + 1, ?_⟩
               simp [s1, o1, s3, o3, s4, o4, s159, s160, objN]
               refine ⟨by omega, below_succ hq ?_⟩
               rw [key]
               exact ⟨by assumption, by assumption, by assumption, ⟨by omega, by assumption⟩, by omega⟩)
            | skip
        · intro s s2 hnot
          have hv : ¬ VNet n := no (fun h => by
            rw [key] at h
            obtain ⟨e1, e2, e3, ⟨e4, e5⟩, e6⟩ := h
            exact hnot (fun i hi => absurd hi (by omega)))
          simp [Back, hv, s2]
    | false =>
      rw [ht] at key
      simp only [forall_const, Bool.false_eq_true, true_implies, false_implies, true_and, reduceCtorEq] at key
      unfold k67_l4
      repeat' (first
       | refine wp2_seq fun K hK => ?_
       | refine M_cons fun K hK => ?_
       | (refine hK _ ?_; clear hK K)
       | (refine hX _ ?_; clear hX hY X Y)
       | (refine hY _ ?_; clear hX hY X Y)
       | refine wp2_block ?_
       | refine wp2_region ?_
       | refine wp2_cond fun X Y hX hY => ?_
       | (refine condK_of (fun c => ?_) (fun c => ?_) <;> (try simp [-List.length_eq_zero_iff] at c))
       | (refine guard1_or (fun c => ?_) (fun c => ?_) <;> (have cc := c) <;> (try simp [-List.length_eq_zero_iff] at cc) <;> (try simp (disch := omega) [s1, o1, s3, o3, s4, o4, s159, s160, s161, encR, sw, sn, ht, c]))
       | (refine callT_fl (inRange_c _) (by simp [St.args, St.arg, s1, o1, s3, o3, s4, o4, s159, s160, s161, encR, sw, sn, ht] <;> first | rfl | ((repeat' first | rfl | apply And.intro); first | done | fail)) ?_)
       | simp (maxSteps := 4000000) (disch := omega) [s1, o1, s3, o3, s4, o4, s159, s160, s161, encR, sw, sn, ht])
      all_goals try (have hv : ¬ VNet n := no (fun h => by
        rw [key] at h
        obtain ⟨e1, e2, e3, ⟨e4, e5, e7, e8⟩, e6⟩ := h
        first | omega | contradiction); simp [Back, hv]; done)
      all_goals first | omega | skip
      all_goals
        refine wp2_loop _ (nth n.rels k).via.length ?_ (fun m s hs K2 hK2 => vnI_l5 n k (nth n.rels k).via b7 v64 ?_ ?_ m s hs K2 hK2)
        · refine ⟨0, ?_⟩
          simp [s1, o1, s3, o3, s4, o4, s159, s160, s161, objN]
        · rintro s ⟨s1, o1, s3, o3, s4, o4, s159, s160, s161, hall⟩
          simp only [objN] at o1
          repeat' (first
           | refine M_cons fun K hK => ?_
           | (refine hK _ ?_; clear hK K)
           | refine wp2_region ?_
           | simp (maxSteps := 4000000) (disch := omega) [s1, o1, s3, o3, s4, o4, s159, s160, s161])
          all_goals first
            | omega
            | (refine hN (n.rels.length - (k + 1)) _ (by omega) ⟨k + 1, ?_⟩
               simp [s1, o1, s3, o3, s4, o4, s159, s160, objN]
               refine ⟨by omega, below_succ hq ?_⟩
               rw [key]
               exact ⟨by assumption, by assumption, by assumption, ⟨by omega, by omega, by omega, hall⟩, by omega⟩)
            | skip
        · intro s s2 hnot
          have hv : ¬ VNet n := no (fun h => by
            rw [key] at h
            obtain ⟨e1, e2, e3, ⟨e4, e5, e7, e8⟩, e6⟩ := h
            exact hnot e8)
          simp [Back, hv, s2]
  · unfold k67_l4
    repeat' (first
     | refine wp2_seq fun K hK => ?_
     | refine M_cons fun K hK => ?_
     | (refine hK _ ?_; clear hK K)
     | (refine hX _ ?_; clear hX hY X Y)
     | (refine hY _ ?_; clear hX hY X Y)
     | refine wp2_block ?_
     | refine wp2_region ?_
     | refine wp2_cond fun X Y hX hY => ?_
     | (refine condK_of (fun c => ?_) (fun c => ?_) <;> (try simp [-List.length_eq_zero_iff] at c))
     | simp (maxSteps := 4000000) (disch := omega) [s1, o1, s3, o3, s4, o4, s159, s160, s161])
    all_goals first
      | omega
      | (refine hE _ ?_
         simp [s1, o1, s3, o3, s4, o4, objN]
         exact fun i hi => hq i (by omega))
end Cal

set_option linter.unusedSimpArgs false
set_option linter.unusedVariables false
namespace Cal
open Go Go.Proofs
set_option maxRecDepth 100000
set_option maxHeartbeats 4000000 in
theorem vnI_l2 (n : Net) (k : Nat) (w : Way) (hv : w.lens.length ≤ 1048576)  {Q : Ex → St → Prop} (hE : ∀ s : St, (s.tm 1 = .ptr (1, 0) 0 0 ∧ s.ob (1, 0) = objN n ∧ s.tm 3 = .mp (47, 0) ∧ s.ob (47, 0) = some (.map 0 (vmap Value.bool (setN n.nodes n.nodes.length))) ∧ s.tm 4 = .mp (48, 0) ∧ s.ob (48, 0) = some (.map 0 (vmap Value.bool (setW n.ways k))) ∧ s.tm 78 = .t (recs encW n.ways) ∧ s.tm 79 = .t (.v (.int .i64 n.ways.length)) ∧ s.tm 80 = .t (.v (.int .i64 k)) ∧ s.tm 8 = .ptr (8, 0) 0 0 ∧ s.ob (8, 0) = objW w ∧ ∀ i : Nat, i < w.lens.length → inR (rd w.lens i)) → Q .normal s) (hR : ∀ s : St, s.tm 2 = .t (.v (.bool false)) → (¬ ∀ i : Nat, i < w.lens.length → inR (rd w.lens i)) → Q .ret s) (m : Nat) (s : St) (hs : (fun (m : Nat) (s : St) => ∃ j : Nat, s.tm 1 = .ptr (1, 0) 0 0 ∧ s.ob (1, 0) = objN n ∧ s.tm 3 = .mp (47, 0) ∧ s.ob (47, 0) = some (.map 0 (vmap Value.bool (setN n.nodes n.nodes.length))) ∧ s.tm 4 = .mp (48, 0) ∧ s.ob (48, 0) = some (.map 0 (vmap Value.bool (setW n.ways k))) ∧ s.tm 78 = .t (recs encW n.ways) ∧ s.tm 79 = .t (.v (.int .i64 n.ways.length)) ∧ s.tm 80 = .t (.v (.int .i64 k)) ∧ s.tm 8 = .ptr (8, 0) 0 0 ∧ s.ob (8, 0) = objW w ∧ s.tm 128 = .t (ints w.lens) ∧ s.tm 129 = .t (.v (.int .i64 w.lens.length)) ∧ s.tm 130 = .t (.v (.int .i64 j)) ∧ j ≤ w.lens.length ∧ m = w.lens.length - j ∧ ∀ i : Nat, i < j → inR (rd w.lens i)) m s) (K' : St → Prop) (hN : ∀ (m' : Nat) (s' : St), m' < m → (fun (m : Nat) (s : St) => ∃ j : Nat, s.tm 1 = .ptr (1, 0) 0 0 ∧ s.ob (1, 0) = objN n ∧ s.tm 3 = .mp (47, 0) ∧ s.ob (47, 0) = some (.map 0 (vmap Value.bool (setN n.nodes n.nodes.length))) ∧ s.tm 4 = .mp (48, 0) ∧ s.ob (48, 0) = some (.map 0 (vmap Value.bool (setW n.ways k))) ∧ s.tm 78 = .t (recs encW n.ways) ∧ s.tm 79 = .t (.v (.int .i64 n.ways.length)) ∧ s.tm 80 = .t (.v (.int .i64 k)) ∧ s.tm 8 = .ptr (8, 0) 0 0 ∧ s.ob (8, 0) = objW w ∧ s.tm 128 = .t (ints w.lens) ∧ s.tm 129 = .t (.v (.int .i64 w.lens.length)) ∧ s.tm 130 = .t (.v (.int .i64 j)) ∧ j ≤ w.lens.length ∧ m = w.lens.length - j ∧ ∀ i : Nat, i < j → inR (rd w.lens i)) m' s' → K' s') : wp2 Try.prog k67_l2 (thenQ K' (inBlk 4 Q)) s := by
  have sn := setN_all n.nodes
  obtain ⟨j, s1, o1, s3, o3, s4, o4, s78, s79, s80, s8, o8, sa, sb, sc, hj, rfl, hq⟩ := hs
  simp only [objN] at o1
  simp only [objW] at o8
  skip
  unfold k67_l2
  repeat' (first
   | refine wp2_seq fun K hK => ?_
   | refine M_cons fun K hK => ?_
   | (refine hK _ ?_; clear hK K)
   | (refine hX _ ?_; clear hX hY X Y)
   | (refine hY _ ?_; clear hX hY X Y)
   | refine wp2_block ?_
   | refine wp2_region ?_
   | refine wp2_cond fun X Y hX hY => ?_
   | (refine condK_of (fun c => ?_) (fun c => ?_) <;> (try simp [-List.length_eq_zero_iff] at c))
   | (refine callT_fl (inRange_c _) (by simp [St.args, St.arg, s1, o1, s3, o3, s4, o4, s78, s79, s80, s8, o8, sa, sb, sc] <;> first | rfl | ((repeat' first | rfl | apply And.intro); first | done | fail)) ?_)
   | simp (maxSteps := 4000000) (disch := omega) [s1, o1, s3, o3, s4, o4, s78, s79, s80, s8, o8, sa, sb, sc])
  all_goals first
    | (refine hN (w.lens.length - (j + 1)) _ (by omega) ⟨j + 1, ?_⟩
       simp [s1, o1, s3, o3, s4, o4, s78, s79, s80, s8, o8, sa, sb, objN, objW]
       exact ⟨by omega, below_succ (p := fun i : Nat => inR (rd w.lens i)) hq (by assumption)⟩)
    | (refine hE _ ?_
       simp [s1, o1, s3, o3, s4, o4, s78, s79, s80, s8, o8, objN, objW]
       exact fun i hi => hq i (by omega))
    | omega
    | (refine hR _ (by simp) (fun h => ?_)
       have := h j (by omega)
       contradiction)
    | skip
set_option maxHeartbeats 4000000 in
theorem vnI_l3 (n : Net) (k : Nat) (w : Way) (hv : w.nodes.length ≤ 1048576) (h64 : ∀ j : Nat, j < w.nodes.length → i64 (rd w.nodes j)) {Q : Ex → St → Prop} (hE : ∀ s : St, (s.tm 1 = .ptr (1, 0) 0 0 ∧ s.ob (1, 0) = objN n ∧ s.tm 3 = .mp (47, 0) ∧ s.ob (47, 0) = some (.map 0 (vmap Value.bool (setN n.nodes n.nodes.length))) ∧ s.tm 4 = .mp (48, 0) ∧ s.ob (48, 0) = some (.map 0 (vmap Value.bool (setW n.ways k))) ∧ s.tm 78 = .t (recs encW n.ways) ∧ s.tm 79 = .t (.v (.int .i64 n.ways.length)) ∧ s.tm 80 = .t (.v (.int .i64 k)) ∧ s.tm 8 = .ptr (8, 0) 0 0 ∧ s.ob (8, 0) = objW w ∧ ∀ i : Nat, i < w.nodes.length → rd w.nodes i ∈ n.nodes) → Q .normal s) (hR : ∀ s : St, s.tm 2 = .t (.v (.bool false)) → (¬ ∀ i : Nat, i < w.nodes.length → rd w.nodes i ∈ n.nodes) → Q .ret s) (m : Nat) (s : St) (hs : (fun (m : Nat) (s : St) => ∃ j : Nat, s.tm 1 = .ptr (1, 0) 0 0 ∧ s.ob (1, 0) = objN n ∧ s.tm 3 = .mp (47, 0) ∧ s.ob (47, 0) = some (.map 0 (vmap Value.bool (setN n.nodes n.nodes.length))) ∧ s.tm 4 = .mp (48, 0) ∧ s.ob (48, 0) = some (.map 0 (vmap Value.bool (setW n.ways k))) ∧ s.tm 78 = .t (recs encW n.ways) ∧ s.tm 79 = .t (.v (.int .i64 n.ways.length)) ∧ s.tm 80 = .t (.v (.int .i64 k)) ∧ s.tm 8 = .ptr (8, 0) 0 0 ∧ s.ob (8, 0) = objW w ∧ s.tm 139 = .t (ints w.nodes) ∧ s.tm 140 = .t (.v (.int .i64 w.nodes.length)) ∧ s.tm 141 = .t (.v (.int .i64 j)) ∧ j ≤ w.nodes.length ∧ m = w.nodes.length - j ∧ ∀ i : Nat, i < j → rd w.nodes i ∈ n.nodes) m s) (K' : St → Prop) (hN : ∀ (m' : Nat) (s' : St), m' < m → (fun (m : Nat) (s : St) => ∃ j : Nat, s.tm 1 = .ptr (1, 0) 0 0 ∧ s.ob (1, 0) = objN n ∧ s.tm 3 = .mp (47, 0) ∧ s.ob (47, 0) = some (.map 0 (vmap Value.bool (setN n.nodes n.nodes.length))) ∧ s.tm 4 = .mp (48, 0) ∧ s.ob (48, 0) = some (.map 0 (vmap Value.bool (setW n.ways k))) ∧ s.tm 78 = .t (recs encW n.ways) ∧ s.tm 79 = .t (.v (.int .i64 n.ways.length)) ∧ s.tm 80 = .t (.v (.int .i64 k)) ∧ s.tm 8 = .ptr (8, 0) 0 0 ∧ s.ob (8, 0) = objW w ∧ s.tm 139 = .t (ints w.nodes) ∧ s.tm 140 = .t (.v (.int .i64 w.nodes.length)) ∧ s.tm 141 = .t (.v (.int .i64 j)) ∧ j ≤ w.nodes.length ∧ m = w.nodes.length - j ∧ ∀ i : Nat, i < j → rd w.nodes i ∈ n.nodes) m' s' → K' s') : wp2 Try.prog k67_l3 (thenQ K' (inBlk 6 Q)) s := by
  have sn := setN_all n.nodes
  obtain ⟨j, s1, o1, s3, o3, s4, o4, s78, s79, s80, s8, o8, sa, sb, sc, hj, rfl, hq⟩ := hs
  simp only [objN] at o1
  simp only [objW] at o8
  have q64 : j < w.nodes.length → -9223372036854775808 ≤ rd w.nodes j ∧ rd w.nodes j < 9223372036854775808 := h64 j
  unfold k67_l3
  repeat' (first
   | refine wp2_seq fun K hK => ?_
   | refine M_cons fun K hK => ?_
   | (refine hK _ ?_; clear hK K)
   | (refine hX _ ?_; clear hX hY X Y)
   | (refine hY _ ?_; clear hX hY X Y)
   | refine wp2_block ?_
   | refine wp2_region ?_
   | refine wp2_cond fun X Y hX hY => ?_
   | (refine condK_of (fun c => ?_) (fun c => ?_) <;> (try simp [-List.length_eq_zero_iff] at c))
   | simp (maxSteps := 4000000) (disch := omega) [s1, o1, s3, o3, s4, o4, s78, s79, s80, s8, o8, sa, sb, sc, sn])
  all_goals first
    | (refine hN (w.nodes.length - (j + 1)) _ (by omega) ⟨j + 1, ?_⟩
       simp [s1, o1, s3, o3, s4, o4, s78, s79, s80, s8, o8, sa, sb, objN, objW]
       exact ⟨by omega, below_succ (p := fun i : Nat => rd w.nodes i ∈ n.nodes) hq (by assumption)⟩)
    | (refine hE _ ?_
       simp [s1, o1, s3, o3, s4, o4, s78, s79, s80, s8, o8, objN, objW]
       exact fun i hi => hq i (by omega))
    | omega
    | (refine hR _ (by simp) (fun h => ?_)
       have := h j (by omega)
       contradiction)
    | skip
set_option maxHeartbeats 8000000 in
theorem vnI_l1 (n : Net) (h : LN n) (h64 : N64 n) {K : St → Prop} (hE : ∀ s : St, (s.tm 1 = .ptr (1, 0) 0 0 ∧ s.ob (1, 0) = objN n ∧ s.tm 3 = .mp (47, 0) ∧ s.ob (47, 0) = some (.map 0 (vmap Value.bool (setN n.nodes n.nodes.length))) ∧ s.tm 4 = .mp (48, 0) ∧ s.ob (48, 0) = some (.map 0 (vmap Value.bool (setW n.ways n.ways.length))) ∧ ∀ i : Nat, i < n.ways.length → WyI n i) → K s) (m : Nat) (s : St) (hs : (fun (m : Nat) (s : St) => ∃ k : Nat, s.tm 1 = .ptr (1, 0) 0 0 ∧ s.ob (1, 0) = objN n ∧ s.tm 3 = .mp (47, 0) ∧ s.ob (47, 0) = some (.map 0 (vmap Value.bool (setN n.nodes n.nodes.length))) ∧ s.tm 4 = .mp (48, 0) ∧ s.ob (48, 0) = some (.map 0 (vmap Value.bool (setW n.ways k))) ∧ s.tm 78 = .t (recs encW n.ways) ∧ s.tm 79 = .t (.v (.int .i64 n.ways.length)) ∧ s.tm 80 = .t (.v (.int .i64 k)) ∧ k ≤ n.ways.length ∧ m = n.ways.length - k ∧ ∀ i : Nat, i < k → WyI n i) m s) (K' : St → Prop) (hN : ∀ (m' : Nat) (s' : St), m' < m → (fun (m : Nat) (s : St) => ∃ k : Nat, s.tm 1 = .ptr (1, 0) 0 0 ∧ s.ob (1, 0) = objN n ∧ s.tm 3 = .mp (47, 0) ∧ s.ob (47, 0) = some (.map 0 (vmap Value.bool (setN n.nodes n.nodes.length))) ∧ s.tm 4 = .mp (48, 0) ∧ s.ob (48, 0) = some (.map 0 (vmap Value.bool (setW n.ways k))) ∧ s.tm 78 = .t (recs encW n.ways) ∧ s.tm 79 = .t (.v (.int .i64 n.ways.length)) ∧ s.tm 80 = .t (.v (.int .i64 k)) ∧ k ≤ n.ways.length ∧ m = n.ways.length - k ∧ ∀ i : Nat, i < k → WyI n i) m' s' → K' s') : wp2 Try.prog k67_l1 (thenQ K' (inBlk 2 (thenQ K (Fin (Back Try.prog [ResultVar.tmp 2] [.agg (encN n)] (.t (.v (.bool (decide (VNet n))))) []))))) s := by
  obtain ⟨h1, h2, h3, h4, h5, h6, h7⟩ := h
  obtain ⟨k, s1, o1, s3, o3, s4, o4, s78, s79, s80, hk, rfl, hq⟩ := hs
  simp only [objN] at o1
  by_cases hlt : k < n.ways.length
  · have b5 := h5 k hlt
    have b6 := h6 k hlt
    have v64 := h64.wn k hlt
    have q64 : -9223372036854775808 ≤ (nth n.ways k).id ∧ (nth n.ways k).id < 9223372036854775808 := h64.wi k hlt
    have key : WyI n k ↔ inR (nth n.ways k).id ∧ 1 ≤ (nth n.ways k).lens.length ∧ (nth n.ways k).lens.length ≤ 100 ∧ (nth n.ways k).nodes.length = (nth n.ways k).lens.length + 1 ∧ (∀ i : Nat, i < (nth n.ways k).lens.length → inR (rd (nth n.ways k).lens i)) ∧ (∀ i : Nat, i < (nth n.ways k).nodes.length → rd (nth n.ways k).nodes i ∈ n.nodes) ∧ (0 < k → (nth n.ways ((k : Int) - 1)).id < (nth n.ways k).id) := by
      unfold WyI
      exact ⟨fun ⟨h, z⟩ => ⟨h.id, h.l1, h.l2, h.ln, h.ls, h.ns, z⟩, fun ⟨a, b, c, d, e, f, z⟩ => ⟨⟨a, b, c, d, e, f⟩, z⟩⟩
    have no : ¬ WyI n k → ¬ VNet n := fun h hv => h (hv.wi k hlt)
    unfold k67_l1
    repeat' (first
     | refine wp2_seq fun K hK => ?_
     | refine M_cons fun K hK => ?_
     | (refine hK _ ?_; clear hK K)
     | (refine hX _ ?_; clear hX hY X Y)
     | (refine hY _ ?_; clear hX hY X Y)
     | refine wp2_block ?_
     | refine wp2_region ?_
     | refine wp2_cond fun X Y hX hY => ?_
     | (refine condK_of (fun c => ?_) (fun c => ?_) <;> (try simp [-List.length_eq_zero_iff] at c))
     | (refine guard1_or (fun c => ?_) (fun c => ?_) <;> (have cc := c) <;> (try simp [-List.length_eq_zero_iff] at cc) <;> (try simp (disch := omega) [s1, o1, s3, o3, s4, o4, s78, s79, s80, encW, c]))
     | (refine callT_fl (inRange_c _) (by simp [St.args, St.arg, s1, o1, s3, o3, s4, o4, s78, s79, s80, encW] <;> first | rfl | ((repeat' first | rfl | apply And.intro); first | done | fail)) ?_)
     | simp (maxSteps := 4000000) (disch := omega) [s1, o1, s3, o3, s4, o4, s78, s79, s80, encW])
    all_goals try (have hv : ¬ VNet n := no (fun h => by
      rw [key] at h
      obtain ⟨e1, e2, e3, e4, e5, e6, e7⟩ := h
      first | omega | contradiction); simp [Back, hv]; done)
    all_goals first | omega | skip
    all_goals
      refine wp2_loop _ (nth n.ways k).lens.length ?_ (fun m s hs K2 hK2 => vnI_l2 n k (nth n.ways k) b6 ?_ ?_ m s hs K2 hK2)
      · refine ⟨0, ?_⟩
        simp [s1, o1, s3, o3, s4, o4, s78, s79, s80, objN, objW]
      · rintro s ⟨s1, o1, s3, o3, s4, o4, s78, s79, s80, s8, o8, hall⟩
        simp only [objN] at o1
        simp only [objW] at o8
        repeat' (first
         | refine wp2_seq fun K hK => ?_
         | refine M_cons fun K hK => ?_
         | (refine hK _ ?_; clear hK K)
         | refine wp2_block ?_
         | refine wp2_region ?_
         | simp (maxSteps := 4000000) (disch := omega) [s1, o1, s3, o3, s4, o4, s78, s79, s80, s8, o8])
        all_goals
          refine wp2_loop _ (nth n.ways k).nodes.length ?_ (fun m s hs K2 hK2 => vnI_l3 n k (nth n.ways k) b5 v64 ?_ ?_ m s hs K2 hK2)
          · refine ⟨0, ?_⟩
            simp [s1, o1, s3, o3, s4, o4, s78, s79, s80, s8, o8, objN, objW]
          · rintro s ⟨s1, o1, s3, o3, s4, o4, s78, s79, s80, s8, o8, hall2⟩
            simp only [objN] at o1
            simp only [objW] at o8
            repeat' (first
             | refine M_cons fun K hK => ?_
             | (refine hK _ ?_; clear hK K)
             | refine wp2_region ?_
             | simp (maxSteps := 4000000) (disch := omega) [s1, o1, s3, o3, s4, o4, s78, s79, s80, s8, o8])
            all_goals first
              | omega
              | (refine hN (n.ways.length - (k + 1)) _ (by omega) ⟨k + 1, ?_⟩
                 simp [s1, o1, s3, o3, s4, o4, s78, s79, objN, setW]
                 refine ⟨by omega, below_succ hq ?_⟩
                 rw [key]
                 exact ⟨by assumption, by omega, by omega, by omega, hall, hall2, by omega⟩)
              | skip
          · intro s s2 hnot
            have hv : ¬ VNet n := no (fun h => by
              rw [key] at h
              exact hnot h.2.2.2.2.2.1)
            simp [Back, hv, s2]
      · intro s s2 hnot
        have hv : ¬ VNet n := no (fun h => by
          rw [key] at h
          exact hnot h.2.2.2.2.1)
        simp [Back, hv, s2]
  · unfold k67_l1
    repeat' (first
     | refine wp2_seq fun K hK => ?_
     | refine M_cons fun K hK => ?_
     | (refine hK _ ?_; clear hK K)
     | (refine hX _ ?_; clear hX hY X Y)
     | (refine hY _ ?_; clear hX hY X Y)
     | refine wp2_block ?_
     | refine wp2_region ?_
     | refine wp2_cond fun X Y hX hY => ?_
     | (refine condK_of (fun c => ?_) (fun c => ?_) <;> (try simp [-List.length_eq_zero_iff] at c))
     | simp (maxSteps := 4000000) (disch := omega) [s1, o1, s3, o3, s4, o4, s78, s79, s80])
    all_goals first
      | omega
      | (have hkl : k = n.ways.length := by omega
         subst hkl
         refine hE _ ?_
         simp [s1, o1, s3, o3, s4, o4, objN]
         exact fun i hi => hq i (by omega))
end Cal

set_option linter.unusedSimpArgs false
set_option linter.unusedVariables false
namespace Cal
open Go Go.Proofs
set_option maxRecDepth 100000
set_option maxHeartbeats 4000000 in
theorem vnI (n : Net) (h : LN n) (h64 : N64 n) : CallsF Try.prog 67 [.agg (encN n)] (.t (.v (.bool (decide (VNet n))))) [] := by
  have hL := h
  obtain ⟨h1, h2, h3, h4, h5, h6, h7⟩ := h
  refine callsF_of_wp2 (fn := Try.f67) (k := k67) (fun _ => []) mixed (by kernel_rfl) rfl (by kernel_rfl) (by kernel_rfl) (by kernel_rfl) rfl (by simp [Try.f67]) (by simp [Arg.like]) ?_
  generalize hst : St.enter [.agg (encN n)] = st0
  have t0 : st0.tm 0 = .agg ((encN n) |>.map .t) := by rw [← hst]; rfl
  clear hst
  unfold k67
  simp [encN] at t0
  repeat' (first
   | refine wp2_seq fun K hK => ?_
   | refine M_cons fun K hK => ?_
   | (refine hK _ ?_; clear hK K)
   | (refine hX _ ?_; clear hX hY X Y)
   | (refine hY _ ?_; clear hX hY X Y)
   | refine wp2_block ?_
   | refine wp2_region ?_
   | refine wp2_cond fun X Y hX hY => ?_
   | (refine condK_of (fun c => ?_) (fun c => ?_) <;> (try simp [-List.length_eq_zero_iff] at c))
   | (refine guard1_or (fun c => ?_) (fun c => ?_) <;> (have cc := c) <;> (try simp [-List.length_eq_zero_iff] at cc) <;> (try simp (disch := omega) [t0, c]))
   | (refine callT_fl (inRange_c _) (by simp [St.args, St.arg, t0] <;> first | rfl | ((repeat' first | rfl | apply And.intro); first | done | fail)) ?_)
   | simp (maxSteps := 4000000) (disch := omega) [t0])
  all_goals try (have hv : ¬ VNet n := (fun h => by
      have e1 := h.u; have e2 := h.c1; have e3 := h.c2; have e4 := h.c3; have e5 := h.c4
      first | omega | contradiction); simp [Back, hv]; done)
  have g0 : inR n.uturn := by assumption
  have g1 : n.nodes.length ≤ 2000 := by omega
  have g2 : n.ways.length ≤ 2000 := by omega
  have g3 : n.rels.length ≤ 1000 := by omega
  have g4 : n.tcs.length ≤ 2000 := by omega
  refine wp2_loop _ n.nodes.length ?_ (vnI_l0 n hL h64 ?_)
  · refine ⟨0, ?_⟩
    simp [t0, objN, setN, setW, vmap]
  · clear t0
    rintro s ⟨s1, o1, s3, o3, s4, o4, g5⟩
    simp only [objN] at o1
    repeat' (first
     | refine wp2_seq fun K hK => ?_
     | refine M_cons fun K hK => ?_
     | (refine hK _ ?_; clear hK K)
     | refine wp2_block ?_
     | refine wp2_region ?_
     | simp (maxSteps := 4000000) (disch := omega) [s1, o1, s3, o3, s4, o4])
    refine wp2_loop _ n.ways.length ?_ (vnI_l1 n hL h64 ?_)
    · refine ⟨0, ?_⟩
      simp [s1, o1, s3, o3, s4, o4, objN]
    · clear s1 o1 s3 o3 s4 o4
      rintro s ⟨s1, o1, s3, o3, s4, o4, g6⟩
      simp only [objN] at o1
      have hE := sumE_le h6 n.ways.length (Nat.le_refl _)
      repeat' (first
       | refine wp2_seq fun K hK => ?_
       | refine M_cons fun K hK => ?_
       | (refine hK _ ?_; clear hK K)
       | (refine hX _ ?_; clear hX hY X Y)
       | (refine hY _ ?_; clear hX hY X Y)
       | refine wp2_block ?_
       | refine wp2_region ?_
       | refine wp2_cond fun X Y hX hY => ?_
       | (refine condK_of (fun c => ?_) (fun c => ?_) <;> (try simp [-List.length_eq_zero_iff] at c))
       | (refine callT_fl (edgesOf_c n.ways h2 h6) (by simp [St.args, St.arg, s1, o1, s3, o3, s4, o4] <;> first | rfl | ((repeat' first | rfl | apply And.intro); first | done | fail)) ?_)
       | simp (maxSteps := 4000000) (disch := omega) [s1, o1, s3, o3, s4, o4])
      all_goals try (have hv : ¬ VNet n := (fun h => by have e1 := h.es; omega); simp [Back, hv]; done)
      have g7 : sumE n.ways n.ways.length ≤ 4000 := by omega
      refine wp2_loop _ n.rels.length ?_ (vnI_l4 n hL h64 ?_)
      · refine ⟨0, ?_⟩
        simp [s1, o1, s3, o3, s4, o4, objN]
      · clear s1 o1 s3 o3 s4 o4
        rintro s ⟨s1, o1, s3, o3, s4, o4, g8⟩
        simp only [objN] at o1
        repeat' (first
         | refine wp2_seq fun K hK => ?_
         | refine M_cons fun K hK => ?_
         | (refine hK _ ?_; clear hK K)
         | refine wp2_block ?_
         | refine wp2_region ?_
         | simp (maxSteps := 4000000) (disch := omega) [s1, o1, s3, o3, s4, o4])
        refine wp2_loop _ n.tcs.length ?_ (vnI_l6 n hL h64 ?_)
        · refine ⟨0, ?_⟩
          simp [s1, o1, s3, o3, s4, o4, objN]
        · intro s g9
          have hv : VNet n := ⟨g0, g1, g2, g3, g4, g5, g6, g7, g8, g9⟩
          repeat' (first
           | refine wp2_seq fun K hK => ?_
           | refine M_cons fun K hK => ?_
           | (refine hK _ ?_; clear hK K)
           | refine wp2_region ?_
           | simp (maxSteps := 4000000) (disch := omega) [hv])
          all_goals try (simp [hv, Back]; done)
end Cal

set_option linter.unusedSimpArgs false
set_option linter.unusedVariables false
namespace Cal
open Go Go.Proofs
set_option maxRecDepth 100000
def rvE (R : List Ed) : RV := if R.length = 0 then .t (.v (.slice none 0 0)) else .own 7 (recRow encE R)
def rvRoadI (N : List Int) (R : List Ed) : RV := .agg [rvO N, rvE R, .own 1 (intRow (starts R (N.length + 1))), rvO (outs R N.length)]
theorem vn_lt {n : Net} (hv : VNet n) {i j : Nat} (h : i < j) (hj : j < n.nodes.length) : rd n.nodes (i : Int) < rd n.nodes (j : Int) := by
  induction j with
  | zero => omega
  | succ j ih =>
    have h1 := (hv.ni (j + 1) hj).2 (by omega)
    have e : ((j + 1 : Nat) : Int) - 1 = (j : Int) := by omega
    rw [e] at h1
    by_cases hij : i = j
    · subst hij; exact h1
    · have := ih (by omega) (by omega)
      omega
theorem vn_node {n : Net} (hv : VNet n) {x : Int} (hx : x ∈ n.nodes) : inR x ∧ mget (placeN n.nodes n.nodes.length) (.i x) = some (pos n.nodes x) ∧ 0 ≤ pos n.nodes x := by
  obtain ⟨k, hk, rfl⟩ := mem_rd.1 hx
  have hp : pos n.nodes (rd n.nodes (k : Int)) = k := pos_hit hk rfl (fun i hi e => by
    have := vn_lt hv hi hk
    omega)
  rw [hp]
  exact ⟨(hv.ni k hk).1, place_get (fun i j h hj e => by have := vn_lt hv h hj; omega) hk (Nat.le_refl _), by omega⟩
theorem vn_g {n : Net} (hv : VNet n) (i : Nat) (hi : i < n.ways.length) (j : Nat) (hj : j < (nth n.ways (i : Int)).nodes.length) : inR (rd (nth n.ways (i : Int)).nodes (j : Int)) ∧ mget (placeN n.nodes n.nodes.length) (.i (rd (nth n.ways (i : Int)).nodes (j : Int))) = some (pos n.nodes (rd (nth n.ways (i : Int)).nodes (j : Int))) := by
  have := vn_node hv ((hv.wi i hi).1.ns j hj)
  exact ⟨this.1, this.2.1⟩
def okT (n : Net) (e : Ed) : Prop := 0 ≤ e.tail ∧ e.tail < n.nodes.length
theorem vn_pos {n : Net} (hv : VNet n) (i : Nat) (hi : i < n.ways.length) (j : Nat) (hj : j < (nth n.ways (i : Int)).nodes.length) : 0 ≤ pos n.nodes (rd (nth n.ways (i : Int)).nodes (j : Int)) ∧ pos n.nodes (rd (nth n.ways (i : Int)).nodes (j : Int)) < n.nodes.length :=
  ⟨(vn_node hv ((hv.wi i hi).1.ns j hj)).2.2, pos_lt _ _⟩
theorem blkT_ok {n : Net} (hv : VNet n) (i : Nat) (hi : i < n.ways.length) (j k : Nat) (hj : j < (nth n.ways (i : Int)).lens.length) : ∀ e ∈ blkT n i j k, okT n e := by
  have hl := (hv.wi i hi).1.ln
  have h1 := vn_pos hv i hi j (by omega)
  have h2 := vn_pos hv i hi (j + 1) (by omega)
  rw [Int.natCast_add, Int.natCast_one] at h2
  intro e he
  unfold blkT at he
  split at he <;> simp [edA, edB] at he
  · rcases he with rfl | rfl
    · exact h1
    · exact h2
  · subst he
    exact h1
theorem segsT_ok {n : Net} (hv : VNet n) (i : Nat) (hi : i < n.ways.length) (b : Nat) : ∀ j : Nat, j ≤ (nth n.ways (i : Int)).lens.length → ∀ e ∈ segsT n i b j, okT n e
  | 0, _, e, he => by simp [segsT] at he
  | j + 1, hj, e, he => by
    unfold segsT at he
    rcases List.mem_append.1 he with he | he
    · exact segsT_ok hv i hi b j (by omega) e he
    · exact blkT_ok hv i hi j _ (by omega) e he
theorem edsT_ok {n : Net} (hv : VNet n) : ∀ i : Nat, i ≤ n.ways.length → ∀ e ∈ edsT n i, okT n e
  | 0, _, e, he => by simp [edsT] at he
  | i + 1, hi, e, he => by
    unfold edsT at he
    rcases List.mem_append.1 he with he | he
    · exact edsT_ok hv i (by omega) e he
    · exact segsT_ok hv i (by omega) _ _ (Nat.le_refl _) e he
set_option maxHeartbeats 0 in
theorem roadOf_c (n : Net) (h : LN n) (hv : VNet n) : CallsF Try.prog 68 [.agg (encN n)] (rvRoadI n.nodes (edsT n n.ways.length)) [] := by
  refine callsF_of_wp2 (fn := Try.f68) (k := k68) (fun | 29 => (999999 :: .nil) | _ => .nil) mixed (by kernel_rfl) rfl (by kernel_rfl) (by kernel_rfl) (by kernel_rfl) rfl (by simp [Try.f68]) (by simp [Arg.like]) ?_
  generalize hst : St.enter [.agg (encN n)] = st0
  have t0 : st0.tm 0 = .agg ((encN n) |>.map .t) := by rw [← hst]; rfl
  clear hst
  unfold k68
  simp [encN] at t0
  have c1 := hv.c1
  have hl := eds_len hv
  have hlT : (edsT n n.ways.length).length ≤ 4000 := by rw [edsT_length]; exact hl
  obtain ⟨l6, l4, l5, l7, ln, ll, lv⟩ := h
  have ht : ∀ e : Nat, e < (edsT n n.ways.length).length → ∃ p : Nat, p < n.nodes.length ∧ (nth (edsT n n.ways.length) (e : Int)).tail = p := fun e he => by
    have := edsT_ok hv n.ways.length (Nat.le_refl _) _ (show nth (edsT n n.ways.length) (e : Int) ∈ _ by rw [nth_get he]; exact List.getElem_mem he)
    unfold okT at this
    exact ⟨(nth (edsT n n.ways.length) (e : Int)).tail.toNat, by omega, by omega⟩
  repeat' (first
   | refine wp2_seq fun K hK => ?_
   | refine M_cons fun K hK => ?_
   | (refine hK _ ?_; clear hK K)
   | refine wp2_block ?_
   | refine wp2_region ?_
   | simp (maxSteps := 4000000) (disch := omega) [t0, encN])
  refine wp2_loop _ n.nodes.length ?_ (ro_l0 n hv.c1 (fun i hi => (hv.ni i hi).1) ?_)
  · refine ⟨0, ?_⟩
    simp [t0, objN, nil4, optR, nilV, placeN]
  · rintro s ⟨s1, o1, s2, o2, s3, o20, s4, o4, o37⟩
    simp only [objN] at o1
    repeat' (first
     | refine wp2_seq fun K hK => ?_
     | refine M_cons fun K hK => ?_
     | (refine hK _ ?_; clear hK K)
     | refine wp2_block ?_
     | refine wp2_region ?_
     | simp (maxSteps := 4000000) (disch := omega) [s1, o1, s2, s3, o20, s4, o4])
    refine wp2_loop _ n.ways.length ?_ (ro_l1 n ll (fun i hi => (hv.wi i hi).1.ln) (fun i hi => vn_g hv i hi) hl hv.c2 ?_)
    · refine ⟨0, ?_⟩
      exact ⟨by simp [s1], by simp [o1, objN], by simp [s2], by simp [o2, nil4], by simp [s3], by simp [o20], by simp [s4], by simp [o4, nilV, optE, edsT], fun h => by simp [o37 h], fun h => absurd rfl h, by simp, by simp, by simp, by omega, by omega⟩
    · rintro s ⟨s1, o1, s2, o2, s4, o4, o37, o60⟩
      simp only [objN] at o1
      generalize hR : edsT n n.ways.length = R at *
      repeat' (first
       | refine wp2_seq fun K hK => ?_
       | refine M_cons fun K hK => ?_
       | (refine hK _ ?_; clear hK K)
       | refine wp2_block ?_
       | (refine wp2_big (ops := ⟨some 118, _, _⟩ :: _) (117, 0) (by simp [s1, o1, s2, s4, o4, nilV, bcells_0] <;> first | rfl | exact ⟨rfl, rfl⟩) ?_)
       | refine wp2_region ?_
       | simp (maxSteps := 4000000) (disch := omega) [s1, o1, s2, s4, o4, nilV, bcells_0])
      all_goals first | omega | skip
      refine wp2_loop _ R.length ?_ (ro_l3 n.nodes R hlT ht ?_)
      · refine ⟨0, ?_⟩
        refine ⟨by simp [s2], by simp [o2, nil4], by simp [s4], by simp [o4, nilV], fun h => by simp [o37 h], fun h => by simp [o60 h], by simp, ?_, fun t h1 h2 => absurd rfl h2, by simp, by simp, by simp, by omega, by omega⟩
        simp
        have := bcells_0 n.nodes.length
        rw [List.map_replicate] at this
        exact this
      · rintro s ⟨s2, o2, s4, o4, o37, o60, s15, o117, o71⟩
        have ho0 : outs R 0 = [] := rfl
        repeat' (first
         | refine wp2_seq fun K hK => ?_
         | refine M_cons fun K hK => ?_
         | (refine hK _ ?_; clear hK K)
         | refine wp2_block ?_
         | (refine wp2_ren1' (ops := ⟨some 141, _, _⟩ :: _) (139, 0) (60006, 0) (by rfl) (by simp [s2, s4, o4, s15, o117] <;> first | rfl | exact ⟨rfl, rfl⟩) ?_)
         | refine wp2_region ?_
         | simp (maxSteps := 4000000) (disch := omega) [s2, s4, o4, s15, o117])
        all_goals first | omega | skip
        refine wp2_loop _ n.nodes.length ?_ (ro_l4 n.nodes R hlT c1 ?_)
        · refine ⟨0, ?_⟩
          rw [ho0]
          exact ⟨by simp [s2], by simp [o2, nil4], by simp [s4], by (by_cases hN : n.nodes = [] <;> simp [nilV, optR, hN]), fun h => by simp [o37 h], fun h => by simp [o60 h], by simp [starts, ho0], fun h => absurd rfl h, by simp, by simp [o117, -List.map_map, bc_k1, bc_r], fun t h1 h2 => by simp [o71 t h1 h2], by simp, by simp, by omega, by omega⟩
        · rintro s ⟨s2, o2, s4, o4, o37, o60, o66, o67⟩
          simp only [nil4] at o2
          have hsl := starts_length R (n.nodes.length + 1)
          by_cases hN : n.nodes.length = 0 <;> by_cases hE : R.length = 0 <;> by_cases hO : (outs R n.nodes.length).length = 0
          · rw [optR_nil _ hN, optE_nil _ hE, optR_nil _ hO] at o4
            repeat' (first
             | refine wp2_seq fun K hK => ?_
             | refine M_cons fun K hK => ?_
             | (refine hK _ ?_; clear hK K)
             | refine wp2_region ?_
             | simp (maxSteps := 4000000) (disch := omega) [s2, o2, s4, o4, o66])
            all_goals simp [Back, rvRoadI, rvO, rvE, hN, hE, hO, starts_length, s2, o66]
            all_goals simpa [hN] using hO
          · rw [optR_nil _ hN, optE_nil _ hE, optR_row _ hO] at o4
            have o67 := o67 hO
            repeat' (first
             | refine wp2_seq fun K hK => ?_
             | refine M_cons fun K hK => ?_
             | (refine hK _ ?_; clear hK K)
             | refine wp2_region ?_
             | simp (maxSteps := 4000000) (disch := omega) [s2, o2, s4, o4, o66, o67])
            all_goals simp [Back, rvRoadI, rvO, rvE, hN, hE, hO, starts_length, s2, o66, o67]
            all_goals simpa [hN] using hO
          · rw [optR_nil _ hN, optE_row _ hE, optR_nil _ hO] at o4
            have o60 := o60 hE
            repeat' (first
             | refine wp2_seq fun K hK => ?_
             | refine M_cons fun K hK => ?_
             | (refine hK _ ?_; clear hK K)
             | refine wp2_region ?_
             | simp (maxSteps := 4000000) (disch := omega) [s2, o2, s4, o4, o66, o60])
            all_goals simp [Back, rvRoadI, rvO, rvE, hN, hE, hO, starts_length, s2, o66, o60]
            all_goals simpa [hN] using hO
          · rw [optR_nil _ hN, optE_row _ hE, optR_row _ hO] at o4
            have o60 := o60 hE
            have o67 := o67 hO
            repeat' (first
             | refine wp2_seq fun K hK => ?_
             | refine M_cons fun K hK => ?_
             | (refine hK _ ?_; clear hK K)
             | refine wp2_region ?_
             | simp (maxSteps := 4000000) (disch := omega) [s2, o2, s4, o4, o66, o60, o67])
            all_goals simp [Back, rvRoadI, rvO, rvE, hN, hE, hO, starts_length, s2, o66, o60, o67]
            all_goals simpa [hN] using hO
          · rw [optR_row _ hN, optE_nil _ hE, optR_nil _ hO] at o4
            have o37 := o37 hN
            repeat' (first
             | refine wp2_seq fun K hK => ?_
             | refine M_cons fun K hK => ?_
             | (refine hK _ ?_; clear hK K)
             | refine wp2_region ?_
             | simp (maxSteps := 4000000) (disch := omega) [s2, o2, s4, o4, o66, o37])
            all_goals simp [Back, rvRoadI, rvO, rvE, hN, hE, hO, starts_length, s2, o66, o37]
            all_goals simpa [hN] using hO
          · rw [optR_row _ hN, optE_nil _ hE, optR_row _ hO] at o4
            have o37 := o37 hN
            have o67 := o67 hO
            repeat' (first
             | refine wp2_seq fun K hK => ?_
             | refine M_cons fun K hK => ?_
             | (refine hK _ ?_; clear hK K)
             | refine wp2_region ?_
             | simp (maxSteps := 4000000) (disch := omega) [s2, o2, s4, o4, o66, o37, o67])
            all_goals simp [Back, rvRoadI, rvO, rvE, hN, hE, hO, starts_length, s2, o66, o37, o67]
            all_goals simpa [hN] using hO
          · rw [optR_row _ hN, optE_row _ hE, optR_nil _ hO] at o4
            have o37 := o37 hN
            have o60 := o60 hE
            repeat' (first
             | refine wp2_seq fun K hK => ?_
             | refine M_cons fun K hK => ?_
             | (refine hK _ ?_; clear hK K)
             | refine wp2_region ?_
             | simp (maxSteps := 4000000) (disch := omega) [s2, o2, s4, o4, o66, o37, o60])
            all_goals simp [Back, rvRoadI, rvO, rvE, hN, hE, hO, starts_length, s2, o66, o37, o60]
            all_goals simpa [hN] using hO
          · rw [optR_row _ hN, optE_row _ hE, optR_row _ hO] at o4
            have o37 := o37 hN
            have o60 := o60 hE
            have o67 := o67 hO
            repeat' (first
             | refine wp2_seq fun K hK => ?_
             | refine M_cons fun K hK => ?_
             | (refine hK _ ?_; clear hK K)
             | refine wp2_region ?_
             | simp (maxSteps := 4000000) (disch := omega) [s2, o2, s4, o4, o66, o37, o60, o67])
            all_goals simp [Back, rvRoadI, rvO, rvE, hN, hE, hO, starts_length, s2, o66, o37, o60, o67]
            all_goals simpa [hN] using hO
end Cal

set_option linter.unusedSimpArgs false
set_option linter.unusedVariables false
namespace Cal
open Go Go.Proofs
theorem nth_app_l {α : Type} [Inhabited α] {A B : List α} {e : Nat} (h : e < A.length) : nth (A ++ B) (e : Int) = nth A (e : Int) := by
  rw [nth_get h, nth_get (by simp; omega), List.getElem_append_left h]
theorem nth_app_r {α : Type} [Inhabited α] {A B : List α} {e : Nat} (h : e < B.length) : nth (A ++ B) ((A.length + e : Nat) : Int) = nth B (e : Int) := by
  rw [nth_get h, nth_get (by simp; omega), List.getElem_append_right (by omega)]
  congr 1
  omega
def shT (a : Int) (t : Int) : Int := if t = -1 then -1 else t + a
def shE (a : Int) (e : Ed) : Ed := { e with twin := shT a e.twin }
def diffK (A B : List Ed) : Prop := ∀ x ∈ A, ∀ y ∈ B, ¬ (x.way = y.way ∧ x.seg = y.seg)
theorem nth_mem' {α : Type} [Inhabited α] {A : List α} {e : Nat} (h : e < A.length) : nth A (e : Int) ∈ A := by
  rw [nth_get h]; exact List.getElem_mem h
theorem tw_succ (L : List Ed) (e f : Nat) : tw L e (f + 1) = if sameE (nth L (e : Int)) (nth L (f : Int)) then (f : Int) else tw L e f := rfl
theorem tw_l {A B : List Ed} {e : Nat} (he : e < A.length) : ∀ f : Nat, f ≤ A.length → tw (A ++ B) e f = tw A e f
  | 0, _ => rfl
  | f + 1, hf => by
    rw [tw_succ, tw_succ, nth_app_l he, nth_app_l (show f < A.length by omega), tw_l he f (by omega)]
theorem tw_ll {A B : List Ed} (hd : diffK A B) {e : Nat} (he : e < A.length) : ∀ g : Nat, g ≤ B.length → tw (A ++ B) e (A.length + g) = tw A e A.length
  | 0, _ => tw_l he _ (Nat.le_refl _)
  | g + 1, hg => by
    rw [← Nat.add_assoc]
    rw [tw_succ, nth_app_l he, nth_app_r (show g < B.length by omega), tw_ll hd he g (by omega), if_neg]
    rintro ⟨h1, h2, _⟩
    exact hd _ (nth_mem' he) _ (nth_mem' (show g < B.length by omega)) ⟨h1, h2⟩
theorem tw_r0 {A B : List Ed} (hd : diffK A B) {e : Nat} (he : e < B.length) : ∀ f : Nat, f ≤ A.length → tw (A ++ B) (A.length + e) f = -1
  | 0, _ => rfl
  | f + 1, hf => by
    rw [tw_succ, nth_app_r he, nth_app_l (show f < A.length by omega), tw_r0 hd he f (by omega), if_neg]
    rintro ⟨h1, h2, _⟩
    exact hd _ (nth_mem' (show f < A.length by omega)) _ (nth_mem' he) ⟨h1.symm, h2.symm⟩
theorem tw_r {A B : List Ed} (hd : diffK A B) {e : Nat} (he : e < B.length) : ∀ g : Nat, g ≤ B.length → tw (A ++ B) (A.length + e) (A.length + g) = shT A.length (tw B e g)
  | 0, _ => by
    rw [Nat.add_zero, tw_r0 hd he _ (Nat.le_refl _)]
    rfl
  | g + 1, hg => by
    rw [← Nat.add_assoc]
    rw [tw_succ, tw_succ, nth_app_r he, nth_app_r (show g < B.length by omega), tw_r hd he g (by omega)]
    by_cases h : sameE (nth B (e : Int)) (nth B (g : Int))
    · rw [if_pos h, if_pos h]
      unfold shT
      rw [if_neg (by omega)]
      omega
    · rw [if_neg h, if_neg h]
theorem roadE_app {A B : List Ed} (hd : diffK A B) : roadE (A ++ B) = roadE A ++ (roadE B).map (shE A.length) := by
  unfold roadE
  rw [List.length_append, List.range_add, List.map_append, List.map_map, List.map_map]
  congr 1
  · refine List.map_congr_left fun e he => ?_
    have he := List.mem_range.1 he
    unfold twE
    rw [nth_app_l he, List.length_append, tw_ll hd he _ (Nat.le_refl _)]
  · refine List.map_congr_left fun e he => ?_
    have he := List.mem_range.1 he
    unfold twE shE
    simp only [Function.comp]
    rw [nth_app_r he, List.length_append, tw_r hd he _ (Nat.le_refl _)]
theorem tw_ge (L : List Ed) (e : Nat) : ∀ f : Nat, -1 ≤ tw L e f
  | 0 => by simp [tw]
  | f + 1 => by
    unfold tw
    split
    · omega
    · exact tw_ge L e f
theorem roadE_ge (L : List Ed) : ∀ e ∈ roadE L, -1 ≤ e.twin := by
  intro e he
  obtain ⟨i, _, rfl⟩ := List.mem_map.1 he
  exact tw_ge L i _
theorem shE_shE (a b : Nat) (e : Ed) (h : -1 ≤ e.twin) : shE b (shE a e) = shE ((b + a : Nat) : Int) e := by
  unfold shE shT
  by_cases h2 : e.twin = -1
  · simp [h2]
  · have : ¬ e.twin + (a : Int) = -1 := by omega
    simp [h2, this]
    omega
theorem shE_map (a b : Nat) (L : List Ed) (h : ∀ e ∈ L, -1 ≤ e.twin) : (L.map (shE a)).map (shE b) = L.map (shE ((b + a : Nat) : Int)) := by
  rw [List.map_map]
  exact List.map_congr_left fun e he => shE_shE a b e (h e he)
theorem blkT_eq (n : Net) (i j k : Nat) : blkT n i j k = (roadE (blk n i j)).map (shE k) := by
  unfold blkT blk
  by_cases h : (nth n.ways (i : Int)).two = true
  · rw [if_pos h, if_pos h]
    have n0 : nth [edA n i j, edB n i j] ((0 : Nat) : Int) = edA n i j := rfl
    have n1 : nth [edA n i j, edB n i j] ((1 : Nat) : Int) = edB n i j := rfl
    have s01 : sameE (edA n i j) (edB n i j) := ⟨rfl, rfl, by simp [edA, edB]⟩
    have s10 : sameE (edB n i j) (edA n i j) := ⟨rfl, rfl, by simp [edA, edB]⟩
    have s11 : ¬ sameE (edB n i j) (edB n i j) := fun h => h.2.2 rfl
    have r : List.range 2 = [0, 1] := rfl
    simp only [roadE, List.length_cons, List.length_nil, r, List.map_cons, List.map_nil, twE, tw, n0, n1, if_pos s01, if_pos s10, if_neg s11, shE, shT]
    simp
    omega
  · rw [if_neg h, if_neg h]
    have n0 : nth [edA n i j] ((0 : Nat) : Int) = edA n i j := rfl
    have s00 : ¬ sameE (edA n i j) (edA n i j) := fun h => h.2.2 rfl
    have r : List.range 1 = [0] := rfl
    simp only [roadE, List.length_cons, List.length_nil, r, List.map_cons, List.map_nil, twE, tw, n0, if_neg s00, shE, shT]
    simp [edA]
theorem blk_k (n : Net) (i j : Nat) : ∀ e ∈ blk n i j, e.way = i ∧ e.seg = j := by
  intro e he
  unfold blk at he
  split at he <;> simp [edA, edB] at he
  · rcases he with rfl | rfl <;> exact ⟨rfl, rfl⟩
  · subst he
    exact ⟨rfl, rfl⟩
theorem segs_k (n : Net) (i : Nat) : ∀ j : Nat, ∀ e ∈ segs n i j, e.way = i ∧ e.seg < j
  | 0, e, he => by simp [segs] at he
  | j + 1, e, he => by
    unfold segs at he
    rcases List.mem_append.1 he with he | he
    · have := segs_k n i j e he
      omega
    · have := blk_k n i j e he
      omega
theorem edgs_k (n : Net) : ∀ i : Nat, ∀ e ∈ edgs n i, e.way < i
  | 0, e, he => by simp [edgs] at he
  | i + 1, e, he => by
    unfold edgs at he
    rcases List.mem_append.1 he with he | he
    · have := edgs_k n i e he
      omega
    · have := segs_k n i _ e he
      omega
theorem segsT_eq (n : Net) (i b : Nat) : ∀ j : Nat, segsT n i b j = (roadE (segs n i j)).map (shE b)
  | 0 => rfl
  | j + 1 => by
    unfold segsT
    rw [segsT_length, segsT_eq n i b j, blkT_eq]
    have : segs n i (j + 1) = segs n i j ++ blk n i j := rfl
    rw [this, roadE_app, List.map_append, shE_map _ _ _ (roadE_ge _)]
    intro x hx y hy h
    have h1 := segs_k n i j x hx
    have h2 := blk_k n i j y hy
    omega
theorem edsT_eq (n : Net) : ∀ i : Nat, edsT n i = roadE (edgs n i)
  | 0 => rfl
  | i + 1 => by
    unfold edsT
    rw [segsT_eq, edsT_length, edsT_eq n i]
    have : edgs n (i + 1) = edgs n i ++ segs n i (nth n.ways (i : Int)).lens.length := rfl
    rw [this, roadE_app]
    intro x hx y hy h
    have h1 := edgs_k n i x hx
    have h2 := segs_k n i _ y hy
    omega
theorem idxs_none {L : List Ed} {p : Nat} : ∀ e : Nat, (∀ f : Nat, f < e → (nth L (f : Int)).tail ≠ p) → idxs L p e = []
  | 0, _ => rfl
  | e + 1, h => by
    unfold idxs
    rw [if_neg (h e (by omega)), idxs_none e (fun f hf => h f (by omega))]
    rfl
theorem idxs_some {L : List Ed} {p : Nat} : ∀ (e f : Nat), f < e → (nth L (f : Int)).tail = p → idxs L p e ≠ []
  | 0, f, h, _ => by omega
  | e + 1, f, h, ht => by
    unfold idxs
    by_cases hf : f = e
    · subst hf
      rw [if_pos ht]
      simp
    · have := idxs_some e f (by omega) ht
      simp [this]
theorem outs_some {L : List Ed} : ∀ {k p f : Nat}, p < k → f < L.length → (nth L (f : Int)).tail = p → outs L k ≠ []
  | 0, p, f, h, _, _ => by omega
  | k + 1, p, f, h, hf, ht => by
    unfold outs
    by_cases hp : p = k
    · subst hp
      have := idxs_some L.length f hf ht
      simp [this]
    · have := outs_some (show p < k by omega) hf ht
      simp [this]
theorem outs_nil : ∀ k : Nat, outs [] k = []
  | 0 => rfl
  | k + 1 => by
    unfold outs
    rw [outs_nil k]
    rfl
def sumI (R : List Ed) (e : Nat) : Nat → Nat
  | 0 => 0
  | p + 1 => sumI R e p + (idxs R p e).length
theorem sumI_0 (R : List Ed) : ∀ p : Nat, sumI R 0 p = 0
  | 0 => rfl
  | p + 1 => by
    unfold sumI
    rw [sumI_0 R p]
    rfl
theorem sumI_s (R : List Ed) (e : Nat) : ∀ p : Nat, sumI R (e + 1) p = sumI R e p + if 0 ≤ (nth R (e : Int)).tail ∧ (nth R (e : Int)).tail < p then 1 else 0
  | 0 => by
    unfold sumI
    rw [if_neg (by omega)]
  | p + 1 => by
    unfold sumI
    rw [sumI_s R e p, idxs, List.length_append]
    by_cases h : (nth R (e : Int)).tail = p
    · rw [if_pos h, if_neg (by omega), if_pos (by omega)]
      simp
      omega
    · rw [if_neg h]
      by_cases h2 : 0 ≤ (nth R (e : Int)).tail ∧ (nth R (e : Int)).tail < p
      · rw [if_pos h2, if_pos (by omega)]
        simp
        omega
      · rw [if_neg h2, if_neg (by omega)]
        simp
theorem sumI_le (R : List Ed) (p : Nat) : ∀ e : Nat, sumI R e p ≤ e
  | 0 => by rw [sumI_0]; omega
  | e + 1 => by
    have := sumI_le R p e
    rw [sumI_s]
    split <;> omega
theorem outs_le (R : List Ed) (p : Nat) : (outs R p).length ≤ R.length := by
  have : ∀ p : Nat, (outs R p).length = sumI R R.length p := by
    intro p
    induction p with
    | zero => rfl
    | succ p ih => unfold outs sumI; rw [List.length_append, ih]
  rw [this]
  exact sumI_le R p _
/-- What is said of a network's edges. -/
structure RoadOk (N : List Int) (R : List Ed) : Prop where
  hn : N.length ≤ 2000
  hr : R.length ≤ 4000
  out : outs R (N.length + 1) = outs R N.length
  none : N = [] → R = []
  some : R ≠ [] → outs R N.length ≠ []
theorem roadOk {n : Net} (hv : VNet n) : RoadOk n.nodes (edsT n n.ways.length) := by
  have ht : ∀ e : Nat, e < (edsT n n.ways.length).length → okT n (nth (edsT n n.ways.length) (e : Int)) := fun e he => edsT_ok hv n.ways.length (Nat.le_refl _) _ (nth_mem' he)
  refine ⟨hv.c1, ?_, ?_, ?_, ?_⟩
  · rw [edsT_length]
    exact eds_len hv
  · have : outs (edsT n n.ways.length) (n.nodes.length + 1) = outs (edsT n n.ways.length) n.nodes.length ++ idxs (edsT n n.ways.length) n.nodes.length (edsT n n.ways.length).length := rfl
    rw [this, idxs_none _ (fun f hf => ?_), List.append_nil]
    have := (ht f hf).2
    omega
  · intro h0
    refine List.eq_nil_of_length_eq_zero ?_
    by_cases hl : (edsT n n.ways.length).length = 0
    · exact hl
    · have := ht 0 (by omega)
      simp [okT, h0] at this
      omega
  · intro h0
    have hl : 0 < (edsT n n.ways.length).length := List.length_pos_iff.2 h0
    have h1 := ht 0 hl
    unfold okT at h1
    exact outs_some (p := (nth (edsT n n.ways.length) ((0 : Nat) : Int)).tail.toNat) (f := 0) (by omega) hl (by omega)
end Cal

set_option linter.unusedSimpArgs false
set_option linter.unusedVariables false
namespace Cal
open Go Go.Proofs
set_option maxRecDepth 100000
abbrev nilT : T := .v (.slice none 0 0)
theorem eqI0 : CallsF Try.prog 42 [.val nilT, .val nilT] (.t (.v (.bool true))) [] := by
  refine callsF_of_wp2 (fn := Try.f42) (k := k42) (fun _ => []) mixed (by kernel_rfl) rfl (by kernel_rfl) (by kernel_rfl) (by kernel_rfl) rfl (by simp [Try.f42]) (by simp [Arg.like]) ?_
  generalize hst : St.enter [.val nilT, .val nilT] = st0
  have t0 : st0.tm 0 = .t nilT := by rw [← hst]; rfl
  have t1 : st0.tm 1 = .t nilT := by rw [← hst]; rfl
  clear hst
  unfold k42
  repeat' (first
   | refine wp2_seq fun K hK => ?_
   | refine M_cons fun K hK => ?_
   | (refine hK _ ?_; clear hK K)
   | (refine hY _ ?_; clear hX hY X Y)
   | refine wp2_block ?_
   | refine wp2_region ?_
   | refine wp2_cond fun X Y hX hY => ?_
   | (refine condK_of (fun c => ?_) (fun c => ?_) <;> (try simp [-List.length_eq_zero_iff] at c))
   | simp (maxSteps := 4000000) (disch := omega) [t0, t1])
  have hJ : ∀ s, K s := by
    intro s
    repeat' (first
     | refine wp2_seq fun K hK => ?_
     | refine M_cons fun K hK => ?_
     | (refine hK _ ?_; clear hK K)
     | refine wp2_region ?_
     | simp (maxSteps := 4000000) (disch := omega) [])
    all_goals try (simp [Back]; done)
  clear hK
  refine wp2_loop (fun n s => s.tm 0 = .t nilT ∧ s.tm 5 = .t (.v (.int .i64 0))) 0 ?_ ?_
  · simp [t0, t1]
  · rintro n s ⟨s0, s5⟩ K' hK'
    repeat' (first
     | refine wp2_seq fun K hK => ?_
     | refine M_cons fun K hK => ?_
     | (refine hK _ ?_; clear hK K)
     | (refine hY _ ?_; clear hX hY X Y)
     | refine wp2_region ?_
     | refine wp2_cond fun X Y hX hY => ?_
     | (refine condK_of (fun c => ?_) (fun c => ?_) <;> (try simp [-List.length_eq_zero_iff] at c))
     | simp (maxSteps := 4000000) (disch := omega) [s0, s5])
    exact hJ _
theorem heldI0 (k : Int) : CallsF Try.prog 78 [.val nilT, .val (.v (.int .i64 k))] (.t (.v (.int .i64 k))) [] := by
  refine callsF_of_wp2 (fn := Try.f78) (k := k78) (fun _ => []) mixed (by kernel_rfl) rfl (by kernel_rfl) (by kernel_rfl) (by kernel_rfl) rfl (by simp [Try.f78]) (by simp [Arg.like]) ?_
  generalize hst : St.enter [.val nilT, .val (.v (.int .i64 k))] = st0
  have t0 : st0.tm 0 = .t nilT := by rw [← hst]; rfl
  have t1 : st0.tm 1 = .t (.v (.int .i64 k)) := by rw [← hst]; rfl
  clear hst
  unfold k78
  repeat' (first
   | refine wp2_seq fun K hK => ?_
   | refine M_cons fun K hK => ?_
   | (refine hK _ ?_; clear hK K)
   | refine wp2_block ?_
   | refine wp2_region ?_
   | simp (maxSteps := 4000000) (disch := omega) [t0, t1])
  have hJ : ∀ s, s.tm 1 = .t (.v (.int .i64 k)) → K s := by
    intro s s1
    repeat' (first
     | refine wp2_seq fun K hK => ?_
     | refine M_cons fun K hK => ?_
     | (refine hK _ ?_; clear hK K)
     | refine wp2_region ?_
     | simp (maxSteps := 4000000) (disch := omega) [s1])
    all_goals try (simp [s1, Back]; done)
  clear hK
  refine wp2_loop (fun n s => s.tm 0 = .t nilT ∧ s.tm 1 = .t (.v (.int .i64 k)) ∧ s.tm 5 = .t (.v (.int .i64 0))) 0 ?_ ?_
  · simp [t0, t1]
  · rintro n s ⟨s0, s1, s5⟩ K' hK'
    repeat' (first
     | refine wp2_seq fun K hK => ?_
     | refine M_cons fun K hK => ?_
     | (refine hK _ ?_; clear hK K)
     | (refine hY _ ?_; clear hX hY X Y)
     | refine wp2_region ?_
     | refine wp2_cond fun X Y hX hY => ?_
     | (refine condK_of (fun c => ?_) (fun c => ?_) <;> (try simp [-List.length_eq_zero_iff] at c))
     | simp (maxSteps := 4000000) (disch := omega) [s0, s1, s5])
    exact hJ _ (by simp [s1])
theorem markI0 (k : Int) : CallsF Try.prog 73 [.val nilT, .val (.v (.int .i64 k))] (.t (.v (.int .i64 k))) [] := by
  refine callsF_of_wp2 (fn := Try.f73) (k := k73) (fun _ => []) mixed (by kernel_rfl) rfl (by kernel_rfl) (by kernel_rfl) (by kernel_rfl) rfl (by simp [Try.f73]) (by simp [Arg.like]) ?_
  generalize hst : St.enter [.val nilT, .val (.v (.int .i64 k))] = st0
  have t0 : st0.tm 0 = .t nilT := by rw [← hst]; rfl
  have t1 : st0.tm 1 = .t (.v (.int .i64 k)) := by rw [← hst]; rfl
  clear hst
  unfold k73
  repeat' (first
   | refine wp2_seq fun K hK => ?_
   | refine M_cons fun K hK => ?_
   | (refine hK _ ?_; clear hK K)
   | refine wp2_block ?_
   | refine wp2_region ?_
   | simp (maxSteps := 4000000) (disch := omega) [t0, t1])
  have hJ : ∀ s, s.tm 1 = .t (.v (.int .i64 k)) → K s := by
    intro s s1
    repeat' (first
     | refine wp2_seq fun K hK => ?_
     | refine M_cons fun K hK => ?_
     | (refine hK _ ?_; clear hK K)
     | refine wp2_region ?_
     | simp (maxSteps := 4000000) (disch := omega) [s1])
    all_goals try (simp [s1, Back]; done)
  clear hK
  refine wp2_loop (fun n s => s.tm 0 = .t nilT ∧ s.tm 1 = .t (.v (.int .i64 k)) ∧ s.tm 5 = .t (.v (.int .i64 0))) 0 ?_ ?_
  · simp [t0, t1]
  · rintro n s ⟨s0, s1, s5⟩ K' hK'
    repeat' (first
     | refine wp2_seq fun K hK => ?_
     | refine M_cons fun K hK => ?_
     | (refine hK _ ?_; clear hK K)
     | (refine hY _ ?_; clear hX hY X Y)
     | refine wp2_region ?_
     | refine wp2_cond fun X Y hX hY => ?_
     | (refine condK_of (fun c => ?_) (fun c => ?_) <;> (try simp [-List.length_eq_zero_iff] at c))
     | simp (maxSteps := 4000000) (disch := omega) [s0, s1, s5])
    exact hJ _ (by simp [s1])
@[simp] theorem index_Es (e : Nat) (ag : Bool) (b : Nat) (z : List Value) (l : List Ed) (i : Int) (h0 : 0 ≤ i) (h1 : i < l.length) :
    indexAddrA (some (e, ⟨ag, 7, b, z⟩)) (.t (recs encE l)) i = some (.roptr (encE (nth l i))) := index_recs encE e ag 7 b z l i (fun _ => rfl) h0 h1
/-- The code of laws.eqEdge. -/
def k141 : Code1 :=
 (.seq
 (.region [2,3] false ([]) [
 ⟨some 2,Op.box 102 (Operand.tmp 0),none⟩,
 ⟨some 3,Op.box 102 (Operand.tmp 1),none⟩,
 ⟨some 4,Op.assign (Operand.const (Value.bool false)),none⟩])
 (.seq
 (.seq
 (.region [] false ([]) [
 ⟨some 5,Op.fieldAddr 102 (Operand.tmp 2) 0,none⟩,
 ⟨some 6,Op.load 2 (Operand.tmp 5),none⟩,
 ⟨some 7,Op.fieldAddr 102 (Operand.tmp 3) 0,none⟩,
 ⟨some 8,Op.load 2 (Operand.tmp 7),none⟩,
 ⟨some 9,Op.binOp BinOp.neq 2 (Operand.tmp 6) (Operand.tmp 8) 2,none⟩])
 (.cond (Operand.tmp 9)
 (.seq
 (.region [] false ([]) [
 ⟨some 4,Op.assign (Operand.const (Value.bool false)),none⟩])
 .ret)
 .skip))
 (.seq
 (.seq
 (.region [] false ([]) [
 ⟨some 10,Op.fieldAddr 102 (Operand.tmp 2) 1,none⟩,
 ⟨some 11,Op.load 2 (Operand.tmp 10),none⟩,
 ⟨some 12,Op.fieldAddr 102 (Operand.tmp 3) 1,none⟩,
 ⟨some 13,Op.load 2 (Operand.tmp 12),none⟩,
 ⟨some 14,Op.binOp BinOp.neq 2 (Operand.tmp 11) (Operand.tmp 13) 2,none⟩])
 (.cond (Operand.tmp 14)
 (.seq
 (.region [] false ([]) [
 ⟨some 4,Op.assign (Operand.const (Value.bool false)),none⟩])
 .ret)
 .skip))
 (.seq
 (.seq
 (.region [] false ([]) [
 ⟨some 15,Op.fieldAddr 102 (Operand.tmp 2) 2,none⟩,
 ⟨some 16,Op.load 2 (Operand.tmp 15),none⟩,
 ⟨some 17,Op.fieldAddr 102 (Operand.tmp 3) 2,none⟩,
 ⟨some 18,Op.load 2 (Operand.tmp 17),none⟩,
 ⟨some 19,Op.binOp BinOp.neq 2 (Operand.tmp 16) (Operand.tmp 18) 2,none⟩])
 (.cond (Operand.tmp 19)
 (.seq
 (.region [] false ([]) [
 ⟨some 4,Op.assign (Operand.const (Value.bool false)),none⟩])
 .ret)
 .skip))
 (.seq
 (.seq
 (.region [] false ([]) [
 ⟨some 20,Op.fieldAddr 102 (Operand.tmp 2) 3,none⟩,
 ⟨some 21,Op.load 2 (Operand.tmp 20),none⟩,
 ⟨some 22,Op.fieldAddr 102 (Operand.tmp 3) 3,none⟩,
 ⟨some 23,Op.load 2 (Operand.tmp 22),none⟩,
 ⟨some 24,Op.binOp BinOp.neq 2 (Operand.tmp 21) (Operand.tmp 23) 2,none⟩])
 (.cond (Operand.tmp 24)
 (.seq
 (.region [] false ([]) [
 ⟨some 4,Op.assign (Operand.const (Value.bool false)),none⟩])
 .ret)
 .skip))
 (.seq
 (.seq
 (.region [] false ([]) [
 ⟨some 25,Op.fieldAddr 102 (Operand.tmp 2) 4,none⟩,
 ⟨some 26,Op.load 2 (Operand.tmp 25),none⟩,
 ⟨some 27,Op.fieldAddr 102 (Operand.tmp 3) 4,none⟩,
 ⟨some 28,Op.load 2 (Operand.tmp 27),none⟩,
 ⟨some 29,Op.binOp BinOp.neq 2 (Operand.tmp 26) (Operand.tmp 28) 2,none⟩])
 (.cond (Operand.tmp 29)
 (.seq
 (.region [] false ([]) [
 ⟨some 4,Op.assign (Operand.const (Value.bool false)),none⟩])
 .ret)
 .skip))
 (.seq
 (.seq
 (.region [] false ([]) [
 ⟨some 30,Op.fieldAddr 102 (Operand.tmp 2) 5,none⟩,
 ⟨some 31,Op.load 4 (Operand.tmp 30),none⟩,
 ⟨some 32,Op.fieldAddr 102 (Operand.tmp 3) 5,none⟩,
 ⟨some 33,Op.load 4 (Operand.tmp 32),none⟩,
 ⟨some 34,Op.binOp BinOp.neq 4 (Operand.tmp 31) (Operand.tmp 33) 4,none⟩])
 (.cond (Operand.tmp 34)
 (.seq
 (.region [] false ([]) [
 ⟨some 4,Op.assign (Operand.const (Value.bool false)),none⟩])
 .ret)
 .skip))
 (.seq
 (.seq
 (.region [] false ([]) [
 ⟨some 35,Op.fieldAddr 102 (Operand.tmp 2) 6,none⟩,
 ⟨some 36,Op.load 2 (Operand.tmp 35),none⟩,
 ⟨some 37,Op.fieldAddr 102 (Operand.tmp 3) 6,none⟩,
 ⟨some 38,Op.load 2 (Operand.tmp 37),none⟩,
 ⟨some 39,Op.binOp BinOp.neq 2 (Operand.tmp 36) (Operand.tmp 38) 2,none⟩])
 (.cond (Operand.tmp 39)
 (.seq
 (.region [] false ([]) [
 ⟨some 4,Op.assign (Operand.const (Value.bool false)),none⟩])
 .ret)
 .skip))
 (.seq
 (.region [] false ([]) [
 ⟨some 4,Op.assign (Operand.const (Value.bool true)),none⟩])
 .ret)))))))))
theorem eqEd (e : Ed) : CallsF Try.prog 141 [.agg (encE e), .agg (encE e)] (.t (.v (.bool true))) [] := by
  refine callsF_of_wp1 (fn := Try.f141) (k := k141) (fun _ => []) mixed (by kernel_rfl) rfl (by kernel_rfl) (by kernel_rfl) (by kernel_rfl) rfl (by simp [Try.f141]) (by simp [Arg.like]) ?_
  generalize hst : St.enter [.agg (encE e), .agg (encE e)] = st0
  have t0 : st0.tm 0 = .agg ((encE e) |>.map .t) := by rw [← hst]; rfl
  have t1 : st0.tm 1 = .agg ((encE e) |>.map .t) := by rw [← hst]; rfl
  clear hst
  unfold k141
  simp [encE] at t0 t1
  repeat' (first
   | refine wp1_seq fun K hK => ?_
   | refine M_cons fun K hK => ?_
   | (refine hK _ ?_; clear hK K)
   | (refine hY _ ?_; clear hX hY X Y)
   | refine wp1_region ?_
   | refine wp1_cond fun X Y hX hY => ?_
   | (refine condK_of (fun c => ?_) (fun c => ?_) <;> (try simp [-List.length_eq_zero_iff] at c))
   | simp (maxSteps := 4000000) (disch := omega) [t0, t1])
  all_goals try (simp [t0, t1, Back]; done)
/-- The code of laws.eqEdgeS. -/
def k69 : Code1 :=
 (.seq
 (.region [] false ([]) [
 ⟨some 4,Op.assign (Operand.const (Value.bool false)),none⟩])
 (.seq
 (.seq
 (.region [] false ([]) [
 ⟨some 6,Op.move (Operand.tmp 0),none⟩,
 ⟨some 7,Op.call {callee:=Callee.builtin Builtin.len,args:=#[Operand.tmp 6],argTypes:=#[29]},none⟩,
 ⟨some 8,Op.move (Operand.tmp 1),none⟩,
 ⟨some 9,Op.call {callee:=Callee.builtin Builtin.len,args:=#[Operand.tmp 8],argTypes:=#[29]},none⟩,
 ⟨some 10,Op.binOp BinOp.neq 3 (Operand.tmp 7) (Operand.tmp 9) 3,none⟩])
 (.cond (Operand.tmp 10)
 (.seq
 (.region [] false ([]) [
 ⟨some 4,Op.assign (Operand.const (Value.bool false)),none⟩])
 .ret)
 .skip))
 (.seq
 (.seq
 (.region [] false ([]) [
 ⟨some 5,Op.assign (Operand.const (Value.int IntKind.i64 0)),none⟩])
 (.block 0
 (.loop
 (.seq
 (.seq
 (.region [] false ([]) [
 ⟨some 11,Op.move (Operand.tmp 5),none⟩,
 ⟨some 12,Op.move (Operand.tmp 0),none⟩,
 ⟨some 13,Op.call {callee:=Callee.builtin Builtin.len,args:=#[Operand.tmp 12],argTypes:=#[29]},none⟩,
 ⟨some 14,Op.binOp BinOp.lss 3 (Operand.tmp 11) (Operand.tmp 13) 3,none⟩])
 (.cond (Operand.tmp 14)
 .skip
 (.exit 0)))
 (.seq
 (.block 1
 (.seq
 (.region [25] true ([]) [
 ⟨some 17,Op.move (Operand.tmp 0),none⟩,
 ⟨some 18,Op.move (Operand.tmp 5),none⟩,
 ⟨some 19,Op.indexAddr 29 (Operand.tmp 17) (Operand.tmp 18),none⟩,
 ⟨some 20,Op.load 102 (Operand.tmp 19),none⟩,
 ⟨some 21,Op.move (Operand.tmp 1),none⟩,
 ⟨some 22,Op.move (Operand.tmp 5),none⟩,
 ⟨some 23,Op.indexAddr 29 (Operand.tmp 21) (Operand.tmp 22),none⟩,
 ⟨some 24,Op.load 102 (Operand.tmp 23),none⟩,
 ⟨some 25,Op.call {callee:=Callee.value (Operand.func 141),args:=#[Operand.tmp 20,Operand.tmp 24],argTypes:=#[102,102]},none⟩,
 ⟨some 26,Op.unOp UnOp.not 4 (Operand.tmp 25),none⟩])
 (.cond (Operand.tmp 26)
 (.seq
 (.region [] false ([]) [
 ⟨some 4,Op.assign (Operand.const (Value.bool false)),none⟩])
 .ret)
 .skip)))
 (.region [] false ([]) [
 ⟨some 15,Op.move (Operand.tmp 5),none⟩,
 ⟨some 16,Op.binOp BinOp.add 3 (Operand.tmp 15) (Operand.const (Value.int IntKind.i64 1)) 3,none⟩,
 ⟨some 5,Op.assign (Operand.tmp 16),none⟩]))))))
 (.seq
 (.region [] false ([]) [
 ⟨some 4,Op.assign (Operand.const (Value.bool true)),none⟩])
 .ret))))
theorem eqEs (l : List Ed) (hl : l.length ≤ 1048576) :
    CallsF Try.prog 69 [.val (recs encE l), .val (recs encE l)] (.t (.v (.bool true))) [] := by
  refine callsF_of_wp1 (fn := Try.f69) (k := k69) (fun _ => []) mixed (by kernel_rfl) rfl (by kernel_rfl) (by kernel_rfl) (by kernel_rfl) rfl (by simp [Try.f69]) (by simp [Arg.like]) ?_
  generalize hst : St.enter [.val (recs encE l), .val (recs encE l)] = st0
  have t0 : st0.tm 0 = .t (recs encE l) := by rw [← hst]; rfl
  have t1 : st0.tm 1 = .t (recs encE l) := by rw [← hst]; rfl
  clear hst
  unfold k69
  repeat' (first
   | refine wp1_seq fun K hK => ?_
   | refine M_cons fun K hK => ?_
   | (refine hK _ ?_; clear hK K)
   | (refine hY _ ?_; clear hX hY X Y)
   | refine wp1_block ?_
   | refine wp1_region ?_
   | refine wp1_cond fun X Y hX hY => ?_
   | (refine condK_of (fun c => ?_) (fun c => ?_) <;> (try simp [-List.length_eq_zero_iff] at c))
   | simp (maxSteps := 4000000) (disch := omega) [t0, t1])
  have hJ : ∀ s, K s := by
    rintro s
    repeat' (first
     | refine wp1_seq fun K hK => ?_
     | refine M_cons fun K hK => ?_
     | (refine hK _ ?_; clear hK K)
     | refine wp1_region ?_
     | simp (maxSteps := 4000000) (disch := omega) [])
    all_goals try (simp [Back]; done)
  clear hK
  refine wp1_loop (fun n s => ∃ k : Nat, s.tm 0 = .t (recs encE l) ∧ s.tm 1 = .t (recs encE l) ∧ s.tm 5 = .t (.v (.int .i64 k)) ∧ k ≤ l.length ∧ n = l.length - k) l.length ?_ ?_
  · exact ⟨0, by simp [t0, t1]⟩
  · rintro n s ⟨k, s0, s1, s5, hk, rfl⟩ K' hK'
    by_cases hlt : k < l.length
    · repeat' (first
     | refine wp1_seq fun K hK => ?_
     | refine M_cons fun K hK => ?_
     | (refine hK _ ?_; clear hK K)
     | (refine hX _ ?_; clear hX hY X Y)
     | (refine hY _ ?_; clear hX hY X Y)
     | refine wp1_block ?_
     | refine wp1_region ?_
     | refine wp1_cond fun X Y hX hY => ?_
     | (refine condK_of (fun c => ?_) (fun c => ?_) <;> (try simp [-List.length_eq_zero_iff] at c))
     | (refine callT_fl (eqEd _) (by simp [St.args, St.arg, s0, s1, s5, encE] <;> first | rfl | ((repeat' first | rfl | apply And.intro); first | done | fail)) ?_)
     | simp (maxSteps := 4000000) (disch := omega) [s0, s1, s5, encE])
      all_goals first
        | omega
        | (refine hK' (l.length - (k + 1)) _ (by omega) ⟨k + 1, ?_⟩
           simp [s0, s1]
           omega)
    · repeat' (first
     | refine wp1_seq fun K hK => ?_
     | refine M_cons fun K hK => ?_
     | (refine hK _ ?_; clear hK K)
     | (refine hX _ ?_; clear hX hY X Y)
     | (refine hY _ ?_; clear hX hY X Y)
     | refine wp1_block ?_
     | refine wp1_region ?_
     | refine wp1_cond fun X Y hX hY => ?_
     | (refine condK_of (fun c => ?_) (fun c => ?_) <;> (try simp [-List.length_eq_zero_iff] at c))
     | simp (maxSteps := 4000000) (disch := omega) [s0, s1, s5])
      all_goals first
        | omega
        | exact hJ _
theorem eqEs0 : CallsF Try.prog 69 [.val nilT, .val (recs encE [])] (.t (.v (.bool true))) [] := by
  refine callsF_of_wp1 (fn := Try.f69) (k := k69) (fun _ => []) mixed (by kernel_rfl) rfl (by kernel_rfl) (by kernel_rfl) (by kernel_rfl) rfl (by simp [Try.f69]) (by simp [Arg.like]) ?_
  generalize hst : St.enter [.val nilT, .val (recs encE [])] = st0
  have t0 : st0.tm 0 = .t nilT := by rw [← hst]; rfl
  have t1 : st0.tm 1 = .t (recs encE []) := by rw [← hst]; rfl
  clear hst
  unfold k69
  repeat' (first
   | refine wp1_seq fun K hK => ?_
   | refine M_cons fun K hK => ?_
   | (refine hK _ ?_; clear hK K)
   | (refine hY _ ?_; clear hX hY X Y)
   | refine wp1_block ?_
   | refine wp1_region ?_
   | refine wp1_cond fun X Y hX hY => ?_
   | (refine condK_of (fun c => ?_) (fun c => ?_) <;> (try simp [-List.length_eq_zero_iff] at c))
   | simp (maxSteps := 4000000) (disch := omega) [t0, t1])
  have hJ : ∀ s, K s := by
    rintro s
    repeat' (first
     | refine wp1_seq fun K hK => ?_
     | refine M_cons fun K hK => ?_
     | (refine hK _ ?_; clear hK K)
     | refine wp1_region ?_
     | simp (maxSteps := 4000000) (disch := omega) [])
    all_goals try (simp [Back]; done)
  clear hK
  refine wp1_loop (fun n s => s.tm 0 = .t nilT ∧ s.tm 5 = .t (.v (.int .i64 0))) 0 ?_ ?_
  · simp [t0, t1]
  · rintro n s ⟨s0, s5⟩ K' hK'
    repeat' (first
     | refine wp1_seq fun K hK => ?_
     | refine M_cons fun K hK => ?_
     | (refine hK _ ?_; clear hK K)
     | (refine hY _ ?_; clear hX hY X Y)
     | refine wp1_region ?_
     | refine wp1_cond fun X Y hX hY => ?_
     | (refine condK_of (fun c => ?_) (fun c => ?_) <;> (try simp [-List.length_eq_zero_iff] at c))
     | simp (maxSteps := 4000000) (disch := omega) [s0, s5])
    exact hJ _
theorem eqEs00 : CallsF Try.prog 69 [.val nilT, .val nilT] (.t (.v (.bool true))) [] := by
  refine callsF_of_wp1 (fn := Try.f69) (k := k69) (fun _ => []) mixed (by kernel_rfl) rfl (by kernel_rfl) (by kernel_rfl) (by kernel_rfl) rfl (by simp [Try.f69]) (by simp [Arg.like]) ?_
  generalize hst : St.enter [.val nilT, .val nilT] = st0
  have t0 : st0.tm 0 = .t nilT := by rw [← hst]; rfl
  have t1 : st0.tm 1 = .t nilT := by rw [← hst]; rfl
  clear hst
  unfold k69
  repeat' (first
   | refine wp1_seq fun K hK => ?_
   | refine M_cons fun K hK => ?_
   | (refine hK _ ?_; clear hK K)
   | (refine hY _ ?_; clear hX hY X Y)
   | refine wp1_block ?_
   | refine wp1_region ?_
   | refine wp1_cond fun X Y hX hY => ?_
   | (refine condK_of (fun c => ?_) (fun c => ?_) <;> (try simp [-List.length_eq_zero_iff] at c))
   | simp (maxSteps := 4000000) (disch := omega) [t0, t1])
  have hJ : ∀ s, K s := by
    rintro s
    repeat' (first
     | refine wp1_seq fun K hK => ?_
     | refine M_cons fun K hK => ?_
     | (refine hK _ ?_; clear hK K)
     | refine wp1_region ?_
     | simp (maxSteps := 4000000) (disch := omega) [])
    all_goals try (simp [Back]; done)
  clear hK
  refine wp1_loop (fun n s => s.tm 0 = .t nilT ∧ s.tm 5 = .t (.v (.int .i64 0))) 0 ?_ ?_
  · simp [t0, t1]
  · rintro n s ⟨s0, s5⟩ K' hK'
    repeat' (first
     | refine wp1_seq fun K hK => ?_
     | refine M_cons fun K hK => ?_
     | (refine hK _ ?_; clear hK K)
     | (refine hY _ ?_; clear hX hY X Y)
     | refine wp1_region ?_
     | refine wp1_cond fun X Y hX hY => ?_
     | (refine condK_of (fun c => ?_) (fun c => ?_) <;> (try simp [-List.length_eq_zero_iff] at c))
     | simp (maxSteps := 4000000) (disch := omega) [s0, s5])
    exact hJ _
/-- The code of laws.eqRoad. -/
def k15 : Code1 :=
 (.seq
 (.region [2,3] false ([]) [
 ⟨some 2,Op.box 31 (Operand.tmp 0),none⟩,
 ⟨some 3,Op.box 31 (Operand.tmp 1),none⟩,
 ⟨some 4,Op.assign (Operand.const (Value.bool false)),none⟩])
 (.seq
 (.seq
 (.region [9] false ([]) [
 ⟨some 5,Op.fieldAddr 31 (Operand.tmp 2) 0,none⟩,
 ⟨some 6,Op.load 22 (Operand.tmp 5),none⟩,
 ⟨some 7,Op.fieldAddr 31 (Operand.tmp 3) 0,none⟩,
 ⟨some 8,Op.load 22 (Operand.tmp 7),none⟩,
 ⟨some 9,Op.call {callee:=Callee.value (Operand.func 42),args:=#[Operand.tmp 6,Operand.tmp 8],argTypes:=#[22,22]},none⟩,
 ⟨some 10,Op.unOp UnOp.not 4 (Operand.tmp 9),none⟩])
 (.cond (Operand.tmp 10)
 (.seq
 (.region [] false ([]) [
 ⟨some 4,Op.assign (Operand.const (Value.bool false)),none⟩])
 .ret)
 .skip))
 (.seq
 (.seq
 (.region [15] false ([]) [
 ⟨some 11,Op.fieldAddr 31 (Operand.tmp 2) 1,none⟩,
 ⟨some 12,Op.load 29 (Operand.tmp 11),none⟩,
 ⟨some 13,Op.fieldAddr 31 (Operand.tmp 3) 1,none⟩,
 ⟨some 14,Op.load 29 (Operand.tmp 13),none⟩,
 ⟨some 15,Op.call {callee:=Callee.value (Operand.func 69),args:=#[Operand.tmp 12,Operand.tmp 14],argTypes:=#[29,29]},none⟩,
 ⟨some 16,Op.unOp UnOp.not 4 (Operand.tmp 15),none⟩])
 (.cond (Operand.tmp 16)
 (.seq
 (.region [] false ([]) [
 ⟨some 4,Op.assign (Operand.const (Value.bool false)),none⟩])
 .ret)
 .skip))
 (.seq
 (.seq
 (.region [21] false ([]) [
 ⟨some 17,Op.fieldAddr 31 (Operand.tmp 2) 2,none⟩,
 ⟨some 18,Op.load 22 (Operand.tmp 17),none⟩,
 ⟨some 19,Op.fieldAddr 31 (Operand.tmp 3) 2,none⟩,
 ⟨some 20,Op.load 22 (Operand.tmp 19),none⟩,
 ⟨some 21,Op.call {callee:=Callee.value (Operand.func 42),args:=#[Operand.tmp 18,Operand.tmp 20],argTypes:=#[22,22]},none⟩,
 ⟨some 22,Op.unOp UnOp.not 4 (Operand.tmp 21),none⟩])
 (.cond (Operand.tmp 22)
 (.seq
 (.region [] false ([]) [
 ⟨some 4,Op.assign (Operand.const (Value.bool false)),none⟩])
 .ret)
 .skip))
 (.seq
 (.seq
 (.region [27] false ([]) [
 ⟨some 23,Op.fieldAddr 31 (Operand.tmp 2) 3,none⟩,
 ⟨some 24,Op.load 22 (Operand.tmp 23),none⟩,
 ⟨some 25,Op.fieldAddr 31 (Operand.tmp 3) 3,none⟩,
 ⟨some 26,Op.load 22 (Operand.tmp 25),none⟩,
 ⟨some 27,Op.call {callee:=Callee.value (Operand.func 42),args:=#[Operand.tmp 24,Operand.tmp 26],argTypes:=#[22,22]},none⟩,
 ⟨some 28,Op.unOp UnOp.not 4 (Operand.tmp 27),none⟩])
 (.cond (Operand.tmp 28)
 (.seq
 (.region [] false ([]) [
 ⟨some 4,Op.assign (Operand.const (Value.bool false)),none⟩])
 .ret)
 .skip))
 (.seq
 (.region [] false ([]) [
 ⟨some 4,Op.assign (Operand.const (Value.bool true)),none⟩])
 .ret))))))
theorem eqRoad_c {a b u d a' b' u' d' : T} (h1 : CallsF Try.prog 42 [.val a, .val a'] (.t (.v (.bool true))) []) (h2 : CallsF Try.prog 69 [.val b, .val b'] (.t (.v (.bool true))) [])
    (h3 : CallsF Try.prog 42 [.val u, .val u'] (.t (.v (.bool true))) []) (h4 : CallsF Try.prog 42 [.val d, .val d'] (.t (.v (.bool true))) []) :
    CallsF Try.prog 15 [.agg [a, b, u, d], .agg [a', b', u', d']] (.t (.v (.bool true))) [] := by
  refine callsF_of_wp1 (fn := Try.f15) (k := k15) (fun _ => []) mixed (by kernel_rfl) rfl (by kernel_rfl) (by kernel_rfl) (by kernel_rfl) rfl (by simp [Try.f15]) (by simp [Arg.like]) ?_
  generalize hst : St.enter [.agg [a, b, u, d], .agg [a', b', u', d']] = st0
  have t0 : st0.tm 0 = .agg ([a, b, u, d] |>.map .t) := by rw [← hst]; rfl
  have t1 : st0.tm 1 = .agg ([a', b', u', d'] |>.map .t) := by rw [← hst]; rfl
  clear hst
  unfold k15
  simp at t0 t1
  repeat' (first
   | refine wp1_seq fun K hK => ?_
   | refine M_cons fun K hK => ?_
   | (refine hK _ ?_; clear hK K)
   | refine wp1_region ?_
   | simp (maxSteps := 4000000) (disch := omega) [t0, t1])
  (refine callT_fl (h1) (by simp [St.args, St.arg, t0, t1] <;> first | rfl | ((repeat' first | rfl | apply And.intro); first | done | fail)) ?_)
  repeat' (first
   | refine wp1_seq fun K hK => ?_
   | refine M_cons fun K hK => ?_
   | (refine hK _ ?_; clear hK K)
   | (refine hY _ ?_; clear hX hY X Y)
   | refine wp1_region ?_
   | refine wp1_cond fun X Y hX hY => ?_
   | (refine condK_of (fun c => ?_) (fun c => ?_) <;> (try simp [-List.length_eq_zero_iff] at c))
   | (refine callT_fl (h2) (by simp [St.args, St.arg, t0, t1] <;> first | rfl | ((repeat' first | rfl | apply And.intro); first | done | fail)) ?_)
   | simp (maxSteps := 4000000) (disch := omega) [t0, t1])
  (refine callT_fl (h3) (by simp [St.args, St.arg, t0, t1] <;> first | rfl | ((repeat' first | rfl | apply And.intro); first | done | fail)) ?_)
  repeat' (first
   | refine wp1_seq fun K hK => ?_
   | refine M_cons fun K hK => ?_
   | (refine hK _ ?_; clear hK K)
   | (refine hY _ ?_; clear hX hY X Y)
   | refine wp1_region ?_
   | refine wp1_cond fun X Y hX hY => ?_
   | (refine condK_of (fun c => ?_) (fun c => ?_) <;> (try simp [-List.length_eq_zero_iff] at c))
   | simp (maxSteps := 4000000) (disch := omega) [t0, t1])
  (refine callT_fl (h4) (by simp [St.args, St.arg, t0, t1] <;> first | rfl | ((repeat' first | rfl | apply And.intro); first | done | fail)) ?_)
  repeat' (first
   | refine wp1_seq fun K hK => ?_
   | refine M_cons fun K hK => ?_
   | (refine hK _ ?_; clear hK K)
   | (refine hY _ ?_; clear hX hY X Y)
   | refine wp1_region ?_
   | refine wp1_cond fun X Y hX hY => ?_
   | (refine condK_of (fun c => ?_) (fun c => ?_) <;> (try simp [-List.length_eq_zero_iff] at c))
   | simp (maxSteps := 4000000) (disch := omega) [t0, t1])
  all_goals try (simp [t0, t1, Back]; done)
def markedEs (k : Int) (n : Nat) : List Ed := (List.range n).map (markedE k)
@[simp] theorem markedEs_length (k : Int) (n : Nat) : (markedEs k n).length = n := by simp [markedEs]
@[simp] theorem nth_markedEs (k : Int) (n i : Nat) (h : i < n) : nth (markedEs k n) (i : Int) = markedE k i := by
  rw [nth_get (by simpa using h)]
  simp [markedEs]
theorem markedEs_row (k : Int) (n : Nat) : rowF encE (markedE k) n = recRow encE (markedEs k n) := by
  rw [recRow_rowF, markedEs_length]
  exact rowF_congr fun i hi => (nth_markedEs k n i hi).symm
/-- The code of laws.heldEdgeS. -/
def k79 : Code1 :=
 (.seq
 (.region [] false ([]) [
 ⟨some 4,Op.assign (Operand.const (Value.int IntKind.i64 0)),none⟩])
 (.seq
 (.seq
 (.region [] false ([]) [
 ⟨some 5,Op.assign (Operand.const (Value.int IntKind.i64 0)),none⟩])
 (.block 0
 (.loop
 (.seq
 (.seq
 (.region [] false ([]) [
 ⟨some 6,Op.move (Operand.tmp 5),none⟩,
 ⟨some 7,Op.move (Operand.tmp 0),none⟩,
 ⟨some 8,Op.call {callee:=Callee.builtin Builtin.len,args:=#[Operand.tmp 7],argTypes:=#[29]},none⟩,
 ⟨some 9,Op.binOp BinOp.lss 3 (Operand.tmp 6) (Operand.tmp 8) 3,none⟩])
 (.cond (Operand.tmp 9)
 .skip
 (.exit 0)))
 (.seq
 (.block 1
 (.seq
 (.seq
 (.region [] false ([]) [
 ⟨some 12,Op.move (Operand.tmp 0),none⟩,
 ⟨some 13,Op.move (Operand.tmp 5),none⟩,
 ⟨some 14,Op.indexAddr 29 (Operand.tmp 12) (Operand.tmp 13),none⟩,
 ⟨some 15,Op.fieldAddr 102 (Operand.tmp 14) 0,none⟩,
 ⟨some 16,Op.load 2 (Operand.tmp 15),none⟩,
 ⟨some 17,Op.move (Operand.tmp 1),none⟩,
 ⟨some 18,Op.binOp BinOp.neq 2 (Operand.tmp 16) (Operand.tmp 17) 2,none⟩])
 (.cond (Operand.tmp 18)
 (.seq
 (.region [] false ([]) [
 ⟨some 4,Op.assign (Operand.const (Value.int IntKind.i64 (-1))),none⟩])
 .ret)
 .skip))
 (.seq
 (.region [] false ([]) [
 ⟨some 19,Op.move (Operand.tmp 1),none⟩,
 ⟨some 20,Op.binOp BinOp.add 3 (Operand.tmp 19) (Operand.const (Value.int IntKind.i64 1)) 3,none⟩,
 ⟨some 1,Op.assign (Operand.tmp 20),none⟩])
 (.seq
 (.seq
 (.region [] false ([]) [
 ⟨some 21,Op.move (Operand.tmp 0),none⟩,
 ⟨some 22,Op.move (Operand.tmp 5),none⟩,
 ⟨some 23,Op.indexAddr 29 (Operand.tmp 21) (Operand.tmp 22),none⟩,
 ⟨some 24,Op.fieldAddr 102 (Operand.tmp 23) 1,none⟩,
 ⟨some 25,Op.load 2 (Operand.tmp 24),none⟩,
 ⟨some 26,Op.move (Operand.tmp 1),none⟩,
 ⟨some 27,Op.binOp BinOp.neq 2 (Operand.tmp 25) (Operand.tmp 26) 2,none⟩])
 (.cond (Operand.tmp 27)
 (.seq
 (.region [] false ([]) [
 ⟨some 4,Op.assign (Operand.const (Value.int IntKind.i64 (-1))),none⟩])
 .ret)
 .skip))
 (.seq
 (.region [] false ([]) [
 ⟨some 28,Op.move (Operand.tmp 1),none⟩,
 ⟨some 29,Op.binOp BinOp.add 3 (Operand.tmp 28) (Operand.const (Value.int IntKind.i64 1)) 3,none⟩,
 ⟨some 1,Op.assign (Operand.tmp 29),none⟩])
 (.seq
 (.seq
 (.region [] false ([]) [
 ⟨some 30,Op.move (Operand.tmp 0),none⟩,
 ⟨some 31,Op.move (Operand.tmp 5),none⟩,
 ⟨some 32,Op.indexAddr 29 (Operand.tmp 30) (Operand.tmp 31),none⟩,
 ⟨some 33,Op.fieldAddr 102 (Operand.tmp 32) 2,none⟩,
 ⟨some 34,Op.load 2 (Operand.tmp 33),none⟩,
 ⟨some 35,Op.move (Operand.tmp 1),none⟩,
 ⟨some 36,Op.binOp BinOp.neq 2 (Operand.tmp 34) (Operand.tmp 35) 2,none⟩])
 (.cond (Operand.tmp 36)
 (.seq
 (.region [] false ([]) [
 ⟨some 4,Op.assign (Operand.const (Value.int IntKind.i64 (-1))),none⟩])
 .ret)
 .skip))
 (.seq
 (.region [] false ([]) [
 ⟨some 37,Op.move (Operand.tmp 1),none⟩,
 ⟨some 38,Op.binOp BinOp.add 3 (Operand.tmp 37) (Operand.const (Value.int IntKind.i64 1)) 3,none⟩,
 ⟨some 1,Op.assign (Operand.tmp 38),none⟩])
 (.seq
 (.seq
 (.region [] false ([]) [
 ⟨some 39,Op.move (Operand.tmp 0),none⟩,
 ⟨some 40,Op.move (Operand.tmp 5),none⟩,
 ⟨some 41,Op.indexAddr 29 (Operand.tmp 39) (Operand.tmp 40),none⟩,
 ⟨some 42,Op.fieldAddr 102 (Operand.tmp 41) 3,none⟩,
 ⟨some 43,Op.load 2 (Operand.tmp 42),none⟩,
 ⟨some 44,Op.move (Operand.tmp 1),none⟩,
 ⟨some 45,Op.binOp BinOp.neq 2 (Operand.tmp 43) (Operand.tmp 44) 2,none⟩])
 (.cond (Operand.tmp 45)
 (.seq
 (.region [] false ([]) [
 ⟨some 4,Op.assign (Operand.const (Value.int IntKind.i64 (-1))),none⟩])
 .ret)
 .skip))
 (.seq
 (.region [] false ([]) [
 ⟨some 46,Op.move (Operand.tmp 1),none⟩,
 ⟨some 47,Op.binOp BinOp.add 3 (Operand.tmp 46) (Operand.const (Value.int IntKind.i64 1)) 3,none⟩,
 ⟨some 1,Op.assign (Operand.tmp 47),none⟩])
 (.seq
 (.seq
 (.region [] false ([]) [
 ⟨some 48,Op.move (Operand.tmp 0),none⟩,
 ⟨some 49,Op.move (Operand.tmp 5),none⟩,
 ⟨some 50,Op.indexAddr 29 (Operand.tmp 48) (Operand.tmp 49),none⟩,
 ⟨some 51,Op.fieldAddr 102 (Operand.tmp 50) 4,none⟩,
 ⟨some 52,Op.load 2 (Operand.tmp 51),none⟩,
 ⟨some 53,Op.move (Operand.tmp 1),none⟩,
 ⟨some 54,Op.binOp BinOp.neq 2 (Operand.tmp 52) (Operand.tmp 53) 2,none⟩])
 (.cond (Operand.tmp 54)
 (.seq
 (.region [] false ([]) [
 ⟨some 4,Op.assign (Operand.const (Value.int IntKind.i64 (-1))),none⟩])
 .ret)
 .skip))
 (.seq
 (.region [] false ([]) [
 ⟨some 55,Op.move (Operand.tmp 1),none⟩,
 ⟨some 56,Op.binOp BinOp.add 3 (Operand.tmp 55) (Operand.const (Value.int IntKind.i64 1)) 3,none⟩,
 ⟨some 1,Op.assign (Operand.tmp 56),none⟩])
 (.seq
 (.seq
 (.region [] false ([]) [
 ⟨some 57,Op.move (Operand.tmp 0),none⟩,
 ⟨some 58,Op.move (Operand.tmp 5),none⟩,
 ⟨some 59,Op.indexAddr 29 (Operand.tmp 57) (Operand.tmp 58),none⟩,
 ⟨some 60,Op.fieldAddr 102 (Operand.tmp 59) 5,none⟩,
 ⟨some 61,Op.load 4 (Operand.tmp 60),none⟩,
 ⟨some 62,Op.move (Operand.tmp 1),none⟩,
 ⟨some 63,Op.binOp BinOp.rem 3 (Operand.tmp 62) (Operand.const (Value.int IntKind.i64 3)) 3,none⟩,
 ⟨some 64,Op.binOp BinOp.eql 3 (Operand.tmp 63) (Operand.const (Value.int IntKind.i64 0)) 3,none⟩,
 ⟨some 65,Op.binOp BinOp.neq 4 (Operand.tmp 61) (Operand.tmp 64) 4,none⟩])
 (.cond (Operand.tmp 65)
 (.seq
 (.region [] false ([]) [
 ⟨some 4,Op.assign (Operand.const (Value.int IntKind.i64 (-1))),none⟩])
 .ret)
 .skip))
 (.seq
 (.region [] false ([]) [
 ⟨some 66,Op.move (Operand.tmp 1),none⟩,
 ⟨some 67,Op.binOp BinOp.add 3 (Operand.tmp 66) (Operand.const (Value.int IntKind.i64 1)) 3,none⟩,
 ⟨some 1,Op.assign (Operand.tmp 67),none⟩])
 (.seq
 (.seq
 (.region [] false ([]) [
 ⟨some 68,Op.move (Operand.tmp 0),none⟩,
 ⟨some 69,Op.move (Operand.tmp 5),none⟩,
 ⟨some 70,Op.indexAddr 29 (Operand.tmp 68) (Operand.tmp 69),none⟩,
 ⟨some 71,Op.fieldAddr 102 (Operand.tmp 70) 6,none⟩,
 ⟨some 72,Op.load 2 (Operand.tmp 71),none⟩,
 ⟨some 73,Op.move (Operand.tmp 1),none⟩,
 ⟨some 74,Op.binOp BinOp.neq 2 (Operand.tmp 72) (Operand.tmp 73) 2,none⟩])
 (.cond (Operand.tmp 74)
 (.seq
 (.region [] false ([]) [
 ⟨some 4,Op.assign (Operand.const (Value.int IntKind.i64 (-1))),none⟩])
 .ret)
 .skip))
 (.region [] false ([]) [
 ⟨some 75,Op.move (Operand.tmp 1),none⟩,
 ⟨some 76,Op.binOp BinOp.add 3 (Operand.tmp 75) (Operand.const (Value.int IntKind.i64 1)) 3,none⟩,
 ⟨some 1,Op.assign (Operand.tmp 76),none⟩])))))))))))))))
 (.region [] false ([]) [
 ⟨some 10,Op.move (Operand.tmp 5),none⟩,
 ⟨some 11,Op.binOp BinOp.add 3 (Operand.tmp 10) (Operand.const (Value.int IntKind.i64 1)) 3,none⟩,
 ⟨some 5,Op.assign (Operand.tmp 11),none⟩]))))))
 (.seq
 (.region [] false ([]) [
 ⟨some 77,Op.move (Operand.tmp 1),none⟩,
 ⟨some 4,Op.assign (Operand.tmp 77),none⟩])
 .ret)))
set_option maxHeartbeats 0 in
theorem heldEs (n : Nat) (k : Int) (h0 : 0 ≤ k) (h1 : k ≤ 100000000) (h2 : n ≤ 1048576) :
    CallsF Try.prog 79 [.val (recs encE (markedEs k n)), .val (.v (.int .i64 k))] (.t (.v (.int .i64 (k + 7 * n)))) [] := by
  refine callsF_of_wp2 (fn := Try.f79) (k := k79) (fun _ => []) mixed (by kernel_rfl) rfl (by kernel_rfl) (by kernel_rfl) (by kernel_rfl) rfl (by simp [Try.f79]) (by simp [Arg.like]) ?_
  generalize hst : St.enter [.val (recs encE (markedEs k n)), .val (.v (.int .i64 k))] = st0
  have t0 : st0.tm 0 = .t (recs encE (markedEs k n)) := by rw [← hst]; rfl
  have t1 : st0.tm 1 = .t (.v (.int .i64 k)) := by rw [← hst]; rfl
  clear hst
  unfold k79
  repeat' (first
   | refine wp2_seq fun K hK => ?_
   | refine M_cons fun K hK => ?_
   | (refine hK _ ?_; clear hK K)
   | refine wp2_block ?_
   | refine wp2_region ?_
   | simp (maxSteps := 4000000) (disch := omega) [t0, t1])
  have hJ : ∀ s, s.tm 1 = .t (.v (.int .i64 (k + 7 * n))) → K s := by
    intro s s1
    repeat' (first
     | refine wp2_seq fun K hK => ?_
     | refine M_cons fun K hK => ?_
     | (refine hK _ ?_; clear hK K)
     | refine wp2_region ?_
     | simp (maxSteps := 4000000) (disch := omega) [s1])
    all_goals try (simp [s1, Back]; done)
  clear hK
  refine wp2_loop (fun m s => ∃ j : Nat, s.tm 0 = .t (recs encE (markedEs k n)) ∧ s.tm 5 = .t (.v (.int .i64 j)) ∧ s.tm 1 = .t (.v (.int .i64 (k + 7 * j))) ∧ j ≤ n ∧ m = n - j) n ?_ ?_
  · exact ⟨0, by simp [t0, t1]⟩
  · rintro m s ⟨j, s0, s5, s1, hj, rfl⟩ K' hK'
    have hl := markedEs_length k n
    by_cases hlt : j < n
    · have hn := nth_markedEs k n j hlt
      have hn : nth (markedEs k n) (j : Int) = ⟨k + 7 * j, k + 7 * j + 1, k + 7 * j + 1 + 1, k + 7 * j + 1 + 1 + 1, k + 7 * j + 1 + 1 + 1 + 1, (k + 7 * j + 1 + 1 + 1 + 1 + 1).tmod 3 == 0, k + 7 * j + 1 + 1 + 1 + 1 + 1 + 1⟩ := hn
      repeat' (first
       | refine wp2_seq fun K hK => ?_
       | refine M_cons fun K hK => ?_
       | (refine hK _ ?_; clear hK K)
       | (refine hX _ ?_; clear hX hY X Y)
       | (refine hY _ ?_; clear hX hY X Y)
       | refine wp2_block ?_
       | refine wp2_region ?_
       | refine wp2_cond fun X Y hX hY => ?_
       | (refine condK_of (fun c => ?_) (fun c => ?_) <;> (try simp [-List.length_eq_zero_iff] at c))
       | simp (maxSteps := 4000000) (disch := omega) [s0, s5, s1, hl, hn, encE])
      all_goals first
        | omega
        | (refine hK' (n - (j + 1)) _ (by omega) ⟨j + 1, ?_⟩; simp [s0]; omega)
        | skip
    · have hjn : j = n := by omega
      subst hjn
      repeat' (first
       | refine wp2_seq fun K hK => ?_
       | refine M_cons fun K hK => ?_
       | (refine hK _ ?_; clear hK K)
       | (refine hY _ ?_; clear hX hY X Y)
       | refine wp2_region ?_
       | refine wp2_cond fun X Y hX hY => ?_
       | (refine condK_of (fun c => ?_) (fun c => ?_) <;> (try simp [-List.length_eq_zero_iff] at c))
       | simp (maxSteps := 4000000) (disch := omega) [s0, s5, s1, hl])
      all_goals first
        | omega
        | exact hJ _ (by simp [s1])
theorem heldEs0 (k : Int) : CallsF Try.prog 79 [.val nilT, .val (.v (.int .i64 k))] (.t (.v (.int .i64 k))) [] := by
  refine callsF_of_wp2 (fn := Try.f79) (k := k79) (fun _ => []) mixed (by kernel_rfl) rfl (by kernel_rfl) (by kernel_rfl) (by kernel_rfl) rfl (by simp [Try.f79]) (by simp [Arg.like]) ?_
  generalize hst : St.enter [.val nilT, .val (.v (.int .i64 k))] = st0
  have t0 : st0.tm 0 = .t nilT := by rw [← hst]; rfl
  have t1 : st0.tm 1 = .t (.v (.int .i64 k)) := by rw [← hst]; rfl
  clear hst
  unfold k79
  repeat' (first
   | refine wp2_seq fun K hK => ?_
   | refine M_cons fun K hK => ?_
   | (refine hK _ ?_; clear hK K)
   | refine wp2_block ?_
   | refine wp2_region ?_
   | simp (maxSteps := 4000000) (disch := omega) [t0, t1])
  have hJ : ∀ s, s.tm 1 = .t (.v (.int .i64 k)) → K s := by
    intro s s1
    repeat' (first
     | refine wp2_seq fun K hK => ?_
     | refine M_cons fun K hK => ?_
     | (refine hK _ ?_; clear hK K)
     | refine wp2_region ?_
     | simp (maxSteps := 4000000) (disch := omega) [s1])
    all_goals try (simp [s1, Back]; done)
  clear hK
  refine wp2_loop (fun n s => s.tm 0 = .t nilT ∧ s.tm 1 = .t (.v (.int .i64 k)) ∧ s.tm 5 = .t (.v (.int .i64 0))) 0 ?_ ?_
  · simp [t0, t1]
  · rintro n s ⟨s0, s1, s5⟩ K' hK'
    repeat' (first
     | refine wp2_seq fun K hK => ?_
     | refine M_cons fun K hK => ?_
     | (refine hK _ ?_; clear hK K)
     | (refine hY _ ?_; clear hX hY X Y)
     | refine wp2_region ?_
     | refine wp2_cond fun X Y hX hY => ?_
     | (refine condK_of (fun c => ?_) (fun c => ?_) <;> (try simp [-List.length_eq_zero_iff] at c))
     | simp (maxSteps := 4000000) (disch := omega) [s0, s1, s5])
    exact hJ _ (by simp [s1])
/-- The code of laws.heldRoad. -/
def k19 : Code1 :=
 (.seq
 (.region [2] false ([]) [
 ⟨some 2,Op.box 31 (Operand.tmp 0),none⟩,
 ⟨some 4,Op.assign (Operand.const (Value.int IntKind.i64 0)),none⟩])
 (.seq
 (.region [8] false ([]) [
 ⟨some 5,Op.fieldAddr 31 (Operand.tmp 2) 0,none⟩,
 ⟨some 6,Op.load 22 (Operand.tmp 5),none⟩,
 ⟨some 7,Op.move (Operand.tmp 1),none⟩,
 ⟨some 8,Op.call {callee:=Callee.value (Operand.func 78),args:=#[Operand.tmp 6,Operand.tmp 7],argTypes:=#[22,3]},none⟩,
 ⟨some 1,Op.assign (Operand.tmp 8),none⟩])
 (.seq
 (.seq
 (.region [] false ([]) [
 ⟨some 9,Op.move (Operand.tmp 1),none⟩,
 ⟨some 10,Op.binOp BinOp.lss 3 (Operand.tmp 9) (Operand.const (Value.int IntKind.i64 0)) 3,none⟩])
 (.cond (Operand.tmp 10)
 (.seq
 (.region [] false ([]) [
 ⟨some 4,Op.assign (Operand.const (Value.int IntKind.i64 (-1))),none⟩])
 .ret)
 .skip))
 (.seq
 (.region [14] false ([]) [
 ⟨some 11,Op.fieldAddr 31 (Operand.tmp 2) 1,none⟩,
 ⟨some 12,Op.load 29 (Operand.tmp 11),none⟩,
 ⟨some 13,Op.move (Operand.tmp 1),none⟩,
 ⟨some 14,Op.call {callee:=Callee.value (Operand.func 79),args:=#[Operand.tmp 12,Operand.tmp 13],argTypes:=#[29,3]},none⟩,
 ⟨some 1,Op.assign (Operand.tmp 14),none⟩])
 (.seq
 (.seq
 (.region [] false ([]) [
 ⟨some 15,Op.move (Operand.tmp 1),none⟩,
 ⟨some 16,Op.binOp BinOp.lss 3 (Operand.tmp 15) (Operand.const (Value.int IntKind.i64 0)) 3,none⟩])
 (.cond (Operand.tmp 16)
 (.seq
 (.region [] false ([]) [
 ⟨some 4,Op.assign (Operand.const (Value.int IntKind.i64 (-1))),none⟩])
 .ret)
 .skip))
 (.seq
 (.region [20] false ([]) [
 ⟨some 17,Op.fieldAddr 31 (Operand.tmp 2) 2,none⟩,
 ⟨some 18,Op.load 22 (Operand.tmp 17),none⟩,
 ⟨some 19,Op.move (Operand.tmp 1),none⟩,
 ⟨some 20,Op.call {callee:=Callee.value (Operand.func 78),args:=#[Operand.tmp 18,Operand.tmp 19],argTypes:=#[22,3]},none⟩,
 ⟨some 1,Op.assign (Operand.tmp 20),none⟩])
 (.seq
 (.seq
 (.region [] false ([]) [
 ⟨some 21,Op.move (Operand.tmp 1),none⟩,
 ⟨some 22,Op.binOp BinOp.lss 3 (Operand.tmp 21) (Operand.const (Value.int IntKind.i64 0)) 3,none⟩])
 (.cond (Operand.tmp 22)
 (.seq
 (.region [] false ([]) [
 ⟨some 4,Op.assign (Operand.const (Value.int IntKind.i64 (-1))),none⟩])
 .ret)
 .skip))
 (.seq
 (.region [26] false ([]) [
 ⟨some 23,Op.fieldAddr 31 (Operand.tmp 2) 3,none⟩,
 ⟨some 24,Op.load 22 (Operand.tmp 23),none⟩,
 ⟨some 25,Op.move (Operand.tmp 1),none⟩,
 ⟨some 26,Op.call {callee:=Callee.value (Operand.func 78),args:=#[Operand.tmp 24,Operand.tmp 25],argTypes:=#[22,3]},none⟩,
 ⟨some 1,Op.assign (Operand.tmp 26),none⟩])
 (.seq
 (.seq
 (.region [] false ([]) [
 ⟨some 27,Op.move (Operand.tmp 1),none⟩,
 ⟨some 28,Op.binOp BinOp.lss 3 (Operand.tmp 27) (Operand.const (Value.int IntKind.i64 0)) 3,none⟩])
 (.cond (Operand.tmp 28)
 (.seq
 (.region [] false ([]) [
 ⟨some 4,Op.assign (Operand.const (Value.int IntKind.i64 (-1))),none⟩])
 .ret)
 .skip))
 (.seq
 (.region [] false ([]) [
 ⟨some 29,Op.move (Operand.tmp 1),none⟩,
 ⟨some 4,Op.assign (Operand.tmp 29),none⟩])
 .ret))))))))))
theorem heldRoad_c {a b u d : T} {k k1 k2 k3 k4 : Int} (h1 : CallsF Try.prog 78 [.val a, .val (.v (.int .i64 k))] (.t (.v (.int .i64 k1))) []) (h2 : CallsF Try.prog 79 [.val b, .val (.v (.int .i64 k1))] (.t (.v (.int .i64 k2))) [])
    (h3 : CallsF Try.prog 78 [.val u, .val (.v (.int .i64 k2))] (.t (.v (.int .i64 k3))) []) (h4 : CallsF Try.prog 78 [.val d, .val (.v (.int .i64 k3))] (.t (.v (.int .i64 k4))) [])
    (g1 : 0 ≤ k1) (g2 : 0 ≤ k2) (g3 : 0 ≤ k3) (g4 : 0 ≤ k4) :
    CallsF Try.prog 19 [.agg [a, b, u, d], .val (.v (.int .i64 k))] (.t (.v (.int .i64 k4))) [] := by
  refine callsF_of_wp2 (fn := Try.f19) (k := k19) (fun _ => []) mixed (by kernel_rfl) rfl (by kernel_rfl) (by kernel_rfl) (by kernel_rfl) rfl (by simp [Try.f19]) (by simp [Arg.like]) ?_
  generalize hst : St.enter [.agg [a, b, u, d], .val (.v (.int .i64 k))] = st0
  have t0 : st0.tm 0 = .agg ([a, b, u, d] |>.map .t) := by rw [← hst]; rfl
  have t1 : st0.tm 1 = .t (.v (.int .i64 k)) := by rw [← hst]; rfl
  clear hst
  unfold k19
  simp at t0
  repeat' (first
   | refine wp2_seq fun K hK => ?_
   | refine M_cons fun K hK => ?_
   | (refine hK _ ?_; clear hK K)
   | refine wp2_region ?_
   | simp (maxSteps := 4000000) (disch := omega) [t0, t1])
  (refine callT_fl (h1) (by simp [St.args, St.arg, t0, t1] <;> first | rfl | ((repeat' first | rfl | apply And.intro); first | done | fail)) ?_)
  repeat' (first
   | refine wp2_seq fun K hK => ?_
   | refine M_cons fun K hK => ?_
   | (refine hK _ ?_; clear hK K)
   | (refine hX _ ?_; clear hX hY X Y)
   | (refine hY _ ?_; clear hX hY X Y)
   | refine wp2_region ?_
   | refine wp2_cond fun X Y hX hY => ?_
   | (refine condK_of (fun c => ?_) (fun c => ?_) <;> (try simp [-List.length_eq_zero_iff] at c))
   | simp (maxSteps := 4000000) (disch := omega) [t0, t1])
  all_goals first | omega | skip
  (refine callT_fl (h2) (by simp [St.args, St.arg, t0, t1] <;> first | rfl | ((repeat' first | rfl | apply And.intro); first | done | fail)) ?_)
  repeat' (first
   | refine wp2_seq fun K hK => ?_
   | refine M_cons fun K hK => ?_
   | (refine hK _ ?_; clear hK K)
   | (refine hX _ ?_; clear hX hY X Y)
   | (refine hY _ ?_; clear hX hY X Y)
   | refine wp2_region ?_
   | refine wp2_cond fun X Y hX hY => ?_
   | (refine condK_of (fun c => ?_) (fun c => ?_) <;> (try simp [-List.length_eq_zero_iff] at c))
   | simp (maxSteps := 4000000) (disch := omega) [t0, t1])
  all_goals first | omega | skip
  (refine callT_fl (h3) (by simp [St.args, St.arg, t0, t1] <;> first | rfl | ((repeat' first | rfl | apply And.intro); first | done | fail)) ?_)
  repeat' (first
   | refine wp2_seq fun K hK => ?_
   | refine M_cons fun K hK => ?_
   | (refine hK _ ?_; clear hK K)
   | (refine hX _ ?_; clear hX hY X Y)
   | (refine hY _ ?_; clear hX hY X Y)
   | refine wp2_region ?_
   | refine wp2_cond fun X Y hX hY => ?_
   | (refine condK_of (fun c => ?_) (fun c => ?_) <;> (try simp [-List.length_eq_zero_iff] at c))
   | simp (maxSteps := 4000000) (disch := omega) [t0, t1])
  all_goals first | omega | skip
  (refine callT_fl (h4) (by simp [St.args, St.arg, t0, t1] <;> first | rfl | ((repeat' first | rfl | apply And.intro); first | done | fail)) ?_)
  repeat' (first
   | refine wp2_seq fun K hK => ?_
   | refine M_cons fun K hK => ?_
   | (refine hK _ ?_; clear hK K)
   | (refine hX _ ?_; clear hX hY X Y)
   | (refine hY _ ?_; clear hX hY X Y)
   | refine wp2_region ?_
   | refine wp2_cond fun X Y hX hY => ?_
   | (refine condK_of (fun c => ?_) (fun c => ?_) <;> (try simp [-List.length_eq_zero_iff] at c))
   | simp (maxSteps := 4000000) (disch := omega) [t0, t1])
  all_goals try (simp [t0, t1, Back]; done)
  all_goals first | omega | skip
/-- The code of laws.markRoad. -/
def k18 : Code1 :=
 (.seq
 (.region [2] false ([]) [
 ⟨some 2,Op.box 31 (Operand.tmp 0),none⟩,
 ⟨some 4,Op.assign (Operand.const (Value.int IntKind.i64 0)),none⟩])
 (.seq
 (.region [8] false ([]) [
 ⟨some 5,Op.fieldAddr 31 (Operand.tmp 2) 0,none⟩,
 ⟨some 6,Op.load 22 (Operand.tmp 5),none⟩,
 ⟨some 7,Op.move (Operand.tmp 1),none⟩,
 ⟨some 8,Op.call {callee:=Callee.value (Operand.func 73),args:=#[Operand.tmp 6,Operand.tmp 7],argTypes:=#[22,3]},none⟩,
 ⟨some 1,Op.assign (Operand.tmp 8),none⟩])
 (.seq
 (.region [12] false ([]) [
 ⟨some 9,Op.fieldAddr 31 (Operand.tmp 2) 1,none⟩,
 ⟨some 10,Op.load 29 (Operand.tmp 9),none⟩,
 ⟨some 11,Op.move (Operand.tmp 1),none⟩,
 ⟨some 12,Op.call {callee:=Callee.value (Operand.func 77),args:=#[Operand.tmp 10,Operand.tmp 11],argTypes:=#[29,3]},none⟩,
 ⟨some 1,Op.assign (Operand.tmp 12),none⟩])
 (.seq
 (.region [16] false ([]) [
 ⟨some 13,Op.fieldAddr 31 (Operand.tmp 2) 2,none⟩,
 ⟨some 14,Op.load 22 (Operand.tmp 13),none⟩,
 ⟨some 15,Op.move (Operand.tmp 1),none⟩,
 ⟨some 16,Op.call {callee:=Callee.value (Operand.func 73),args:=#[Operand.tmp 14,Operand.tmp 15],argTypes:=#[22,3]},none⟩,
 ⟨some 1,Op.assign (Operand.tmp 16),none⟩])
 (.seq
 (.region [20] false ([]) [
 ⟨some 17,Op.fieldAddr 31 (Operand.tmp 2) 3,none⟩,
 ⟨some 18,Op.load 22 (Operand.tmp 17),none⟩,
 ⟨some 19,Op.move (Operand.tmp 1),none⟩,
 ⟨some 20,Op.call {callee:=Callee.value (Operand.func 73),args:=#[Operand.tmp 18,Operand.tmp 19],argTypes:=#[22,3]},none⟩,
 ⟨some 1,Op.assign (Operand.tmp 20),none⟩])
 (.seq
 (.region [] false ([]) [
 ⟨some 21,Op.move (Operand.tmp 1),none⟩,
 ⟨some 4,Op.assign (Operand.tmp 21),none⟩])
 .ret))))))
theorem markRoad0 (k : Int) : CallsF Try.prog 18 [.agg [nilT, nilT, nilT, nilT], .val (.v (.int .i64 k))] (.t (.v (.int .i64 k))) [] := by
  refine callsF_of_wp2 (fn := Try.f18) (k := k18) (fun _ => []) mixed (by kernel_rfl) rfl (by kernel_rfl) (by kernel_rfl) (by kernel_rfl) rfl (by simp [Try.f18]) (by simp [Arg.like]) ?_
  generalize hst : St.enter [.agg [nilT, nilT, nilT, nilT], .val (.v (.int .i64 k))] = st0
  have t0 : st0.tm 0 = .agg ([nilT, nilT, nilT, nilT] |>.map .t) := by rw [← hst]; rfl
  have t1 : st0.tm 1 = .t (.v (.int .i64 k)) := by rw [← hst]; rfl
  clear hst
  unfold k18
  simp at t0
  repeat' (first
   | refine wp2_seq fun K hK => ?_
   | refine M_cons fun K hK => ?_
   | (refine hK _ ?_; clear hK K)
   | refine wp2_region ?_
   | (refine callT_fl (markI0 _) (by simp [St.args, St.arg, t0, t1] <;> first | rfl | ((repeat' first | rfl | apply And.intro); first | done | fail)) ?_)
   | (refine callT_fl (markEs0 _) (by simp [St.args, St.arg, t0, t1] <;> first | rfl | ((repeat' first | rfl | apply And.intro); first | done | fail)) ?_)
   | simp (maxSteps := 4000000) (disch := omega) [t0, t1])
  all_goals try (simp [t0, t1, Back]; done)
end Cal

set_option linter.unusedSimpArgs false
set_option linter.unusedVariables false
namespace Cal
open Go Go.Proofs
set_option maxRecDepth 100000
theorem markEs' (l : List Ed) (k : Int) (h0 : 0 ≤ k) (hk : k + 7 * l.length ≤ 900000000) : CallsF Try.prog 77 [.mrow 7 (recRow encE l), .val (.v (.int .i64 k))] (.t (.v (.int .i64 (k + 7 * l.length)))) [some (.mrow 7 (recRow encE (markedEs k l.length)))] := by
  rw [← markedEs_row]
  exact markEs l k h0 hk
theorem flat_recE (l : List Ed) : ∀ e ∈ recRow encE l, ∀ x ∈ e, T.flat x := by
  intro e he x hx
  obtain ⟨y, _, rfl⟩ := List.mem_map.1 he
  simp [encE] at hx
  rcases hx with rfl | rfl | rfl | rfl | rfl | rfl | rfl <;> trivial
set_option maxHeartbeats 0 in
theorem markRoad1 (S : List Int) (k : Int) (h0 : 0 ≤ k) (h1 : k ≤ 100000000) (hS : S.length ≤ 1048576) :
    CallsFS Try.prog 18 [some 4, none] [.val nilT, .val nilT, .mrow 1 (intRow S), .val nilT, .val (.v (.int .i64 k))] (.t (.v (.int .i64 (k + S.length)))) [some (.mrow 1 (intRow (marked k S.length)))] := by
  refine callsFS_of_wp2 (fn := Try.f18) (k := k18) (fun _ => []) mixed (by kernel_rfl) rfl (by kernel_rfl) (by kernel_rfl) (by kernel_rfl) rfl (by simp [Try.f18]) (by simp [Arg.like]) ?_
  generalize hst : St.enterS [some 4, none] [.val nilT, .val nilT, .mrow 1 (intRow S), .val nilT, .val (.v (.int .i64 k))] = st0
  have t0 : st0.tm 0 = .agg [.t nilT, .t nilT, .row (100002, 0) 1 0 (intRow S).length, .t nilT] := by rw [← hst]; rfl
  have t1 : st0.tm 1 = .t (.v (.int .i64 k)) := by rw [← hst]; rfl
  have o2 : st0.ob (100002, 0) = some (.row 1 (intRow S)) := by rw [← hst]; rfl
  clear hst
  unfold k18
  simp at t0
  have hb : base = 100000 := rfl
  repeat' (first
   | refine wp2_seq fun K hK => ?_
   | refine M_cons fun K hK => ?_
   | (refine hK _ ?_; clear hK K)
   | refine wp2_region ?_
   | (refine callT_gen true (markI S _ ?_ ?_ ?_) (fun _ => ⟨(by first | (simp [RV.flat, RV.flats, T.flat]; done) | ((repeat' first | exact flat_intRow _ | exact flat_boolRow _ | exact flat_recE _ | exact trivial | constructor | unfold RV.flat | unfold RV.flats); first | done | fail)), (by (repeat' first | exact flat_intRow _ | exact flat_boolRow _ | exact flat_recE _ | exact trivial | constructor | unfold Arg.flats | unfold Arg.flat); first | done | fail)⟩) (by simp [St.args, St.arg, t0, t1, o2, hb] <;> first | rfl | ((repeat' first | rfl | apply And.intro); first | done | fail)) (by simp [apartArgs, mutsOf, noRow, valsOf]) (by simp) ?_; omega; omega; omega)
   | (refine callT_fl (markI0 _) (by simp [St.args, St.arg, t0, t1, o2, hb] <;> first | rfl | ((repeat' first | rfl | apply And.intro); first | done | fail)) ?_)
   | (refine callT_fl (markEs0 _) (by simp [St.args, St.arg, t0, t1, o2, hb] <;> first | rfl | ((repeat' first | rfl | apply And.intro); first | done | fail)) ?_)
   | simp (maxSteps := 4000000) (disch := omega) [t0, t1, o2, hb])
  all_goals try (simp [t0, t1, o2, hb, Back]; done)
set_option maxHeartbeats 0 in
theorem markRoad2 (N S : List Int) (k : Int) (h0 : 0 ≤ k) (h1 : k ≤ 100000000) (hN : N.length ≤ 1048576) (hS : S.length ≤ 1048576) :
    CallsFS Try.prog 18 [some 4, none] [.mrow 1 (intRow N), .val nilT, .mrow 1 (intRow S), .val nilT, .val (.v (.int .i64 k))] (.t (.v (.int .i64 (k + N.length + S.length)))) [some (.mrow 1 (intRow (marked k N.length))), some (.mrow 1 (intRow (marked (k + N.length) S.length)))] := by
  refine callsFS_of_wp2 (fn := Try.f18) (k := k18) (fun _ => []) mixed (by kernel_rfl) rfl (by kernel_rfl) (by kernel_rfl) (by kernel_rfl) rfl (by simp [Try.f18]) (by simp [Arg.like]) ?_
  generalize hst : St.enterS [some 4, none] [.mrow 1 (intRow N), .val nilT, .mrow 1 (intRow S), .val nilT, .val (.v (.int .i64 k))] = st0
  have t0 : st0.tm 0 = .agg [.row (100000, 0) 1 0 (intRow N).length, .t nilT, .row (100002, 0) 1 0 (intRow S).length, .t nilT] := by rw [← hst]; rfl
  have t1 : st0.tm 1 = .t (.v (.int .i64 k)) := by rw [← hst]; rfl
  have o0 : st0.ob (100000, 0) = some (.row 1 (intRow N)) := by rw [← hst]; rfl
  have o2 : st0.ob (100002, 0) = some (.row 1 (intRow S)) := by rw [← hst]; rfl
  clear hst
  unfold k18
  simp at t0
  have hb : base = 100000 := rfl
  repeat' (first
   | refine wp2_seq fun K hK => ?_
   | refine M_cons fun K hK => ?_
   | (refine hK _ ?_; clear hK K)
   | refine wp2_region ?_
   | simp (maxSteps := 4000000) (disch := omega) [t0, t1, o0, o2, hb])
  (refine callT_gen true (markI N _ ?_ ?_ ?_) (fun _ => ⟨(by first | (simp [RV.flat, RV.flats, T.flat]; done) | ((repeat' first | exact flat_intRow _ | exact flat_boolRow _ | exact flat_recE _ | exact trivial | constructor | unfold RV.flat | unfold RV.flats); first | done | fail)), (by (repeat' first | exact flat_intRow _ | exact flat_boolRow _ | exact flat_recE _ | exact trivial | constructor | unfold Arg.flats | unfold Arg.flat); first | done | fail)⟩) (by simp [St.args, St.arg, t0, t1, o0, o2, hb] <;> first | rfl | ((repeat' first | rfl | apply And.intro); first | done | fail)) (by simp [apartArgs, mutsOf, noRow, valsOf]) (by simp) ?_; omega; omega; omega)
  repeat' (first
   | refine wp2_seq fun K hK => ?_
   | refine M_cons fun K hK => ?_
   | (refine hK _ ?_; clear hK K)
   | refine wp2_region ?_
   | (refine callT_fl (markEs0 _) (by simp [St.args, St.arg, t0, t1, o0, o2, hb] <;> first | rfl | ((repeat' first | rfl | apply And.intro); first | done | fail)) ?_)
   | simp (maxSteps := 4000000) (disch := omega) [t0, t1, o0, o2, hb])
  (refine callT_gen true (markI S _ ?_ ?_ ?_) (fun _ => ⟨(by first | (simp [RV.flat, RV.flats, T.flat]; done) | ((repeat' first | exact flat_intRow _ | exact flat_boolRow _ | exact flat_recE _ | exact trivial | constructor | unfold RV.flat | unfold RV.flats); first | done | fail)), (by (repeat' first | exact flat_intRow _ | exact flat_boolRow _ | exact flat_recE _ | exact trivial | constructor | unfold Arg.flats | unfold Arg.flat); first | done | fail)⟩) (by simp [St.args, St.arg, t0, t1, o0, o2, hb] <;> first | rfl | ((repeat' first | rfl | apply And.intro); first | done | fail)) (by simp [apartArgs, mutsOf, noRow, valsOf]) (by simp) ?_; omega; omega; omega)
  repeat' (first
   | refine wp2_seq fun K hK => ?_
   | refine M_cons fun K hK => ?_
   | (refine hK _ ?_; clear hK K)
   | refine wp2_region ?_
   | (refine callT_fl (markI0 _) (by simp [St.args, St.arg, t0, t1, o0, o2, hb] <;> first | rfl | ((repeat' first | rfl | apply And.intro); first | done | fail)) ?_)
   | simp (maxSteps := 4000000) (disch := omega) [t0, t1, o0, o2, hb])
  all_goals try (simp [t0, t1, o0, o2, hb, Back]; done)
set_option maxHeartbeats 0 in
theorem markRoad4 (N : List Int) (R : List Ed) (S O : List Int) (k : Int) (h0 : 0 ≤ k) (h1 : k ≤ 100000000) (hN : N.length ≤ 1048576) (hR : R.length ≤ 1048576) (hS : S.length ≤ 1048576) (hO : O.length ≤ 1048576) :
    CallsFS Try.prog 18 [some 4, none] [.mrow 1 (intRow N), .mrow 7 (recRow encE R), .mrow 1 (intRow S), .mrow 1 (intRow O), .val (.v (.int .i64 k))] (.t (.v (.int .i64 (k + N.length + 7 * R.length + S.length + O.length)))) [some (.mrow 1 (intRow (marked k N.length))), some (.mrow 7 (recRow encE (markedEs (k + N.length) R.length))), some (.mrow 1 (intRow (marked (k + N.length + 7 * R.length) S.length))), some (.mrow 1 (intRow (marked (k + N.length + 7 * R.length + S.length) O.length)))] := by
  refine callsFS_of_wp2 (fn := Try.f18) (k := k18) (fun _ => []) mixed (by kernel_rfl) rfl (by kernel_rfl) (by kernel_rfl) (by kernel_rfl) rfl (by simp [Try.f18]) (by simp [Arg.like]) ?_
  generalize hst : St.enterS [some 4, none] [.mrow 1 (intRow N), .mrow 7 (recRow encE R), .mrow 1 (intRow S), .mrow 1 (intRow O), .val (.v (.int .i64 k))] = st0
  have t0 : st0.tm 0 = .agg [.row (100000, 0) 1 0 (intRow N).length, .row (100001, 0) 7 0 (recRow encE R).length, .row (100002, 0) 1 0 (intRow S).length, .row (100003, 0) 1 0 (intRow O).length] := by rw [← hst]; rfl
  have t1 : st0.tm 1 = .t (.v (.int .i64 k)) := by rw [← hst]; rfl
  have o0 : st0.ob (100000, 0) = some (.row 1 (intRow N)) := by rw [← hst]; rfl
  have o1 : st0.ob (100001, 0) = some (.row 7 (recRow encE R)) := by rw [← hst]; rfl
  have o2 : st0.ob (100002, 0) = some (.row 1 (intRow S)) := by rw [← hst]; rfl
  have o3 : st0.ob (100003, 0) = some (.row 1 (intRow O)) := by rw [← hst]; rfl
  clear hst
  unfold k18
  simp [recRow_length] at t0
  have hb : base = 100000 := rfl
  repeat' (first
   | refine wp2_seq fun K hK => ?_
   | refine M_cons fun K hK => ?_
   | (refine hK _ ?_; clear hK K)
   | refine wp2_region ?_
   | simp (maxSteps := 4000000) (disch := omega) [t0, t1, o0, o1, o2, o3, hb])
  (refine callT_gen true (markI N _ ?_ ?_ ?_) (fun _ => ⟨(by first | (simp [RV.flat, RV.flats, T.flat]; done) | ((repeat' first | exact flat_intRow _ | exact flat_boolRow _ | exact flat_recE _ | exact trivial | constructor | unfold RV.flat | unfold RV.flats); first | done | fail)), (by (repeat' first | exact flat_intRow _ | exact flat_boolRow _ | exact flat_recE _ | exact trivial | constructor | unfold Arg.flats | unfold Arg.flat); first | done | fail)⟩) (by simp [St.args, St.arg, t0, t1, o0, o1, o2, o3, hb] <;> first | rfl | ((repeat' first | rfl | apply And.intro); first | done | fail)) (by simp [apartArgs, mutsOf, noRow, valsOf]) (by simp) ?_; omega; omega; omega)
  repeat' (first
   | refine wp2_seq fun K hK => ?_
   | refine M_cons fun K hK => ?_
   | (refine hK _ ?_; clear hK K)
   | refine wp2_region ?_
   | simp (maxSteps := 4000000) (disch := omega) [t0, t1, o0, o1, o2, o3, hb])
  (refine callT_gen true (markEs' R _ ?_ ?_) (fun _ => ⟨(by first | (simp [RV.flat, RV.flats, T.flat]; done) | ((repeat' first | exact flat_intRow _ | exact flat_boolRow _ | exact flat_recE _ | exact trivial | constructor | unfold RV.flat | unfold RV.flats); first | done | fail)), (by (repeat' first | exact flat_intRow _ | exact flat_boolRow _ | exact flat_recE _ | exact trivial | constructor | unfold Arg.flats | unfold Arg.flat); first | done | fail)⟩) (by simp [St.args, St.arg, t0, t1, o0, o1, o2, o3, hb, recRow_length] <;> first | rfl | ((repeat' first | rfl | apply And.intro); first | done | fail)) (by simp [apartArgs, mutsOf, noRow, valsOf]) (by simp) ?_; omega; omega)
  repeat' (first
   | refine wp2_seq fun K hK => ?_
   | refine M_cons fun K hK => ?_
   | (refine hK _ ?_; clear hK K)
   | refine wp2_region ?_
   | simp (maxSteps := 4000000) (disch := omega) [t0, t1, o0, o1, o2, o3, hb])
  (refine callT_gen true (markI S _ ?_ ?_ ?_) (fun _ => ⟨(by first | (simp [RV.flat, RV.flats, T.flat]; done) | ((repeat' first | exact flat_intRow _ | exact flat_boolRow _ | exact flat_recE _ | exact trivial | constructor | unfold RV.flat | unfold RV.flats); first | done | fail)), (by (repeat' first | exact flat_intRow _ | exact flat_boolRow _ | exact flat_recE _ | exact trivial | constructor | unfold Arg.flats | unfold Arg.flat); first | done | fail)⟩) (by simp [St.args, St.arg, t0, t1, o0, o1, o2, o3, hb] <;> first | rfl | ((repeat' first | rfl | apply And.intro); first | done | fail)) (by simp [apartArgs, mutsOf, noRow, valsOf]) (by simp) ?_; omega; omega; omega)
  repeat' (first
   | refine wp2_seq fun K hK => ?_
   | refine M_cons fun K hK => ?_
   | (refine hK _ ?_; clear hK K)
   | refine wp2_region ?_
   | simp (maxSteps := 4000000) (disch := omega) [t0, t1, o0, o1, o2, o3, hb])
  (refine callT_gen true (markI O _ ?_ ?_ ?_) (fun _ => ⟨(by first | (simp [RV.flat, RV.flats, T.flat]; done) | ((repeat' first | exact flat_intRow _ | exact flat_boolRow _ | exact flat_recE _ | exact trivial | constructor | unfold RV.flat | unfold RV.flats); first | done | fail)), (by (repeat' first | exact flat_intRow _ | exact flat_boolRow _ | exact flat_recE _ | exact trivial | constructor | unfold Arg.flats | unfold Arg.flat); first | done | fail)⟩) (by simp [St.args, St.arg, t0, t1, o0, o1, o2, o3, hb] <;> first | rfl | ((repeat' first | rfl | apply And.intro); first | done | fail)) (by simp [apartArgs, mutsOf, noRow, valsOf]) (by simp) ?_; omega; omega; omega)
  repeat' (first
   | refine wp2_seq fun K hK => ?_
   | refine M_cons fun K hK => ?_
   | (refine hK _ ?_; clear hK K)
   | refine wp2_region ?_
   | simp (maxSteps := 4000000) (disch := omega) [t0, t1, o0, o1, o2, o3, hb])
  all_goals try (simp [t0, t1, o0, o1, o2, o3, hb, Back]; done)
end Cal
