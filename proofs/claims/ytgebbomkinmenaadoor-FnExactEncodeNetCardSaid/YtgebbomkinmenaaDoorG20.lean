/- A part of the proof: a calculus of our own over the model's code, and contracts of the program's functions. -/
import Derived.Test.YtgebbomkinmenaaDoorG15
import Derived.Test.YtgebbomkinmenaaDoorG17
import Derived.Test.YtgebbomkinmenaaDoorG19
set_option linter.unusedSimpArgs false
set_option linter.unusedVariables false
namespace Cal
open Go Go.Proofs
set_option maxRecDepth 100000
theorem toTss_map {s : St} {f : Nat → List AV} {g : Nat → List T} : ∀ {l : List Nat}, (∀ i ∈ l, s.toTs (f i) = some (g i)) → s.toTss (l.map f) = some (l.map g)
  | [], _ => rfl
  | i :: l, h => by
    simp only [List.map_cons, St.toTss]
    rw [h i (by simp), toTss_map fun j hj => h j (by simp [hj])]
theorem window_all (l : List (List T)) : window l 0 l.length = l := by simp [window]
theorem netRead {s : St} {n : Net} (h : NetOb s n) : s.argR (.agg (netV n)) (.agg (encN n)) := by
  refine ⟨netV n, rfl, ?_⟩
  have e1 : s.toTR (.row (70006, 0) 1 0 n.nodes.length) = some (ints n.nodes) := by
    simp only [St.toTR, St.toT, h.nodes]
    have := window_all (intRow n.nodes)
    rw [intRow_length] at this
    rw [this]
    rfl
  have ei : ∀ (d i : Nat) (l : List Int), s.ob (d, i) = some (.row 1 (intRow l)) → s.toT (.row (d, i) 1 0 l.length) = some (ints l) := fun d i l ho => by
    simp only [St.toT, ho]
    have := window_all (intRow l)
    rw [intRow_length] at this
    rw [this]
    rfl
  have e2 : s.toTR (.row (70004, 0) 4 0 n.ways.length) = some (recs encW n.ways) := by
    simp only [St.toTR, St.toT, h.ways]
    have : s.toTss (wcells (fun i => ((nth n.ways (i : Int)).id, (nth n.ways (i : Int)).two)) (fun i => (nth n.ways (i : Int)).nodes.length) (fun i => (nth n.ways (i : Int)).lens.length) n.ways.length) = some (recRow encW n.ways) := by
      rw [recRow_rowF]
      refine toTss_map fun i hi => ?_
      have hi := List.mem_range.1 hi
      simp only [wcell, St.toTs, ei _ _ _ (h.wn i hi), ei _ _ _ (h.wl i hi)]
      rfl
    rw [this]
    have := window_all (recRow encW n.ways)
    rw [recRow_length] at this
    simp only [Option.map_some, this]
    rfl
  have e3 : s.toTR (.row (70005, 0) 7 0 n.rels.length) = some (recs encR n.rels) := by
    simp only [St.toTR, St.toT, h.rels]
    have : s.toTss (rcells (fun i => ((nth n.rels (i : Int)).id, (nth n.rels (i : Int)).only, (nth n.rels (i : Int)).fr, (nth n.rels (i : Int)).to, (nth n.rels (i : Int)).atNode, (nth n.rels (i : Int)).node)) (fun i => (nth n.rels (i : Int)).via.length) n.rels.length) = some (recRow encR n.rels) := by
      rw [recRow_rowF]
      refine toTss_map fun i hi => ?_
      have hi := List.mem_range.1 hi
      simp only [rcell, St.toTs, ei _ _ _ (h.rv i hi)]
      rfl
    rw [this]
    have := window_all (recRow encR n.rels)
    rw [recRow_length] at this
    simp only [Option.map_some, this]
    rfl
  have e4 : s.toTR (.row (70007, 0) 3 0 n.tcs.length) = some (recs encC n.tcs) := by
    simp only [St.toTR, St.toT, h.tcs]
    have := window_all (recRow encC n.tcs)
    rw [recRow_length] at this
    rw [this]
    rfl
  have e5 : s.toTR (.t (.v (.int .i64 n.uturn))) = some (.v (.int .i64 n.uturn)) := rfl
  simp only [netV, St.toTRs, e1, e2, e3, e4, e5]
  rfl
theorem accN_W {n : Net} (h : sumN n ≤ 1048576) : accN (fun i => 2 + (nth n.ways (i : Int)).nodes.length + (nth n.ways (i : Int)).lens.length) n.ways.length ≤ 8000000 := by
  have nw : ∀ w : Way, 0 ≤ lenW w := fun w => by unfold lenW; omega
  have nr : ∀ w : Rln, 0 ≤ lenR w := fun w => by unfold lenR; omega
  have w0 := sumL_nn (l := n.ways) nw n.ways.length
  have r0 := sumL_nn (l := n.rels) nr n.rels.length
  have e : ∀ k : Nat, (accN (fun i => 2 + (nth n.ways (i : Int)).nodes.length + (nth n.ways (i : Int)).lens.length) k : Int) = 2 * k + sumL lenW n.ways k := by
    intro k
    induction k with
    | zero => rfl
    | succ k ih =>
      simp only [accN, sumL, lenW] at ih ⊢
      omega
  have := e n.ways.length
  unfold sumN sizeW sizeR at h
  omega
theorem accN_R {n : Net} (h : sumN n ≤ 1048576) : accN (fun i => 6 + (nth n.rels (i : Int)).via.length) n.rels.length ≤ 8000000 := by
  have nw : ∀ w : Way, 0 ≤ lenW w := fun w => by unfold lenW; omega
  have nr : ∀ w : Rln, 0 ≤ lenR w := fun w => by unfold lenR; omega
  have w0 := sumL_nn (l := n.ways) nw n.ways.length
  have r0 := sumL_nn (l := n.rels) nr n.rels.length
  have e : ∀ k : Nat, (accN (fun i => 6 + (nth n.rels (i : Int)).via.length) k : Int) = 6 * k + sumL lenR n.rels k := by
    intro k
    induction k with
    | zero => rfl
    | succ k ih =>
      simp only [accN, sumL, lenR] at ih ⊢
      omega
  have := e n.rels.length
  unfold sumN sizeW sizeR at h
  omega
end Cal

set_option linter.unusedSimpArgs false
set_option linter.unusedVariables false
namespace Cal
open Go Go.Proofs
set_option maxRecDepth 100000
theorem enter_calm (E F : List Nat) (xs : List T) : (St.enter [.agg xs]).Calm E F := by
  refine ⟨fun t => by simp [St.enter, AV.free], fun id o _ ho => ?_⟩
  have : (St.enter [.agg xs]).ob id = none := by
    simp only [St.enter]
    split
    · cases id.1 - base <;> rfl
    · rfl
  rw [this] at ho
  cases ho
theorem netOb_congr {s s' : St} {n : Net} (h : NetOb s n) (e : ∀ id, netId n id → s'.ob id = s.ob id) : NetOb s' n := by
  refine ⟨?_, ?_, fun i hi => ?_, fun i hi => ?_, ?_, fun i hi => ?_, ?_⟩
  · rw [e _ (.inr (.inr (.inl rfl)))]; exact h.nodes
  · rw [e _ (.inl rfl)]; exact h.ways
  · rw [e _ (.inr (.inr (.inr (.inr (.inl ⟨i, hi, .inl rfl⟩)))))]; exact h.wn i hi
  · rw [e _ (.inr (.inr (.inr (.inr (.inl ⟨i, hi, .inr rfl⟩)))))]; exact h.wl i hi
  · rw [e _ (.inr (.inl rfl))]; exact h.rels
  · rw [e _ (.inr (.inr (.inr (.inr (.inr ⟨i, hi, rfl⟩)))))]; exact h.rv i hi
  · rw [e _ (.inr (.inr (.inr (.inl rfl))))]; exact h.tcs
theorem argsR1 {s : St} {v : AV} {a : Arg} (h : s.argR v a) : s.argsR [v] [a] := ⟨h, trivial⟩
theorem argsR2 {s : St} {v v2 : AV} {a a2 : Arg} (h : s.argR v a) (h2 : s.argR v2 a2) : s.argsR [v, v2] [a, a2] := ⟨h, h2, trivial⟩
theorem rowsN {s : St} {n : Net} {i0 i1 i2 i3 : Id} (h0 : s.ob i0 = some (.row 1 (intRow n.nodes))) (h1 : s.ob i1 = some (.row 4 (recRow encW n.ways))) (h2 : s.ob i2 = some (.row 7 (recRow encR n.rels))) (h3 : s.ob i3 = some (.row 3 (recRow encC n.tcs))) :
    s.argR (.agg [.row i0 1 0 n.nodes.length, .row i1 4 0 n.ways.length, .row i2 7 0 n.rels.length, .row i3 3 0 n.tcs.length, .t (.v (.int .i64 n.uturn))]) (.agg (encN n)) := by
  refine ⟨_, rfl, ?_⟩
  have e0 := window_all (intRow n.nodes)
  have e1 := window_all (recRow encW n.ways)
  have e2 := window_all (recRow encR n.rels)
  have e3 := window_all (recRow encC n.tcs)
  rw [intRow_length] at e0
  rw [recRow_length] at e1 e2 e3
  simp only [St.toTRs, St.toTR, St.toT, h0, h1, h2, h3, e0, e1, e2, e3]
  rfl
@[simp] theorem take_byteR (l : List UInt8) : (byteR l).take l.length = byteR l := by
  have := List.take_length (l := byteR l)
  rwa [byteR_len] at this
abbrev lawE : List Nat := 79101 :: 79118 :: 79122 :: 79001 :: netE
/-- The code of laws.FnExactEncodeNet. -/
def k3 : Code1 :=
 (.seq
 (.region [1] false ([]) [
 ⟨some 1,Op.box 27 (Operand.tmp 0),none⟩,
 ⟨some 2,Op.assign (Operand.const (Value.bool false)),none⟩])
 (.seq
 (.region [] false ([]) [
 ⟨some 3,Op.assign (Operand.const (Value.int IntKind.i64 1048576)),none⟩])
 (.seq
 (.region [13] false ([]) [
 ⟨some 11,Op.load 27 (Operand.tmp 1),none⟩,
 ⟨some 12,Op.move (Operand.tmp 3),none⟩,
 ⟨some 13,Op.call {callee:=Callee.value (Operand.func 5),args:=#[Operand.tmp 11,Operand.tmp 12],argTypes:=#[27,3]},none⟩,
 ⟨some 3,Op.assign (Operand.tmp 13),none⟩])
 (.seq
 (.seq
 (.region [] false ([]) [
 ⟨some 14,Op.move (Operand.tmp 3),none⟩,
 ⟨some 15,Op.binOp BinOp.lss 3 (Operand.tmp 14) (Operand.const (Value.int IntKind.i64 0)) 3,none⟩])
 (.cond (Operand.tmp 15)
 (.seq
 (.region [] false ([]) [
 ⟨some 2,Op.assign (Operand.const (Value.bool true)),none⟩])
 .ret)
 .skip))
 (.seq
 (.region [17,18] false ([]) [
 ⟨some 16,Op.load 27 (Operand.tmp 1),none⟩,
 ⟨some 17,Op.call {callee:=Callee.value (Operand.func 7),args:=#[Operand.tmp 16],argTypes:=#[27]},none⟩,
 ⟨some 18,Op.call {callee:=Callee.value (Operand.func 6),args:=#[Operand.tmp 17],argTypes:=#[35]},none⟩,
 ⟨some 4,Op.assign (Operand.tmp 18),none⟩])
 (.seq
 (.region [20,5] false ([]) [
 ⟨some 19,Op.load 27 (Operand.tmp 1),none⟩,
 ⟨some 20,Op.call {callee:=Callee.value (Operand.func 7),args:=#[Operand.tmp 19],argTypes:=#[27]},none⟩,
 ⟨some 5,Op.alloc 35,none⟩,
 ⟨none,Op.store 35 (Operand.tmp 5) (Operand.tmp 20),none⟩])
 (.seq
 (.region [22] false ([]) [
 ⟨some 21,Op.load 35 (Operand.tmp 5),none⟩,
 ⟨some 22,Op.call {callee:=Callee.value (Operand.func 8),args:=#[Operand.tmp 21],argTypes:=#[35]},none⟩,
 ⟨some 6,Op.assign (Operand.tmp 22),none⟩])
 (.seq
 (.seq
 (.region [25] false ([]) [
 ⟨some 23,Op.move (Operand.tmp 6),none⟩,
 ⟨some 24,Op.move (Operand.tmp 4),none⟩,
 ⟨some 25,Op.call {callee:=Callee.value (Operand.func 9),args:=#[Operand.tmp 23,Operand.tmp 24],argTypes:=#[29,29]},none⟩,
 ⟨some 26,Op.unOp UnOp.not 4 (Operand.tmp 25),none⟩])
 (.cond (Operand.tmp 26)
 (.seq
 (.region [] false ([]) [
 ⟨some 2,Op.assign (Operand.const (Value.bool false)),none⟩])
 .ret)
 .skip))
 (.seq
 (.seq
 (.region [29,30] true ([]) [
 ⟨some 27,Op.load 35 (Operand.tmp 5),none⟩,
 ⟨some 28,Op.load 27 (Operand.tmp 1),none⟩,
 ⟨some 29,Op.call {callee:=Callee.value (Operand.func 7),args:=#[Operand.tmp 28],argTypes:=#[27]},none⟩,
 ⟨some 30,Op.call {callee:=Callee.value (Operand.func 10),args:=#[Operand.tmp 27,Operand.tmp 29],argTypes:=#[35,35]},none⟩,
 ⟨some 31,Op.unOp UnOp.not 4 (Operand.tmp 30),none⟩])
 (.cond (Operand.tmp 31)
 (.seq
 (.region [] false ([]) [
 ⟨some 2,Op.assign (Operand.const (Value.bool false)),none⟩])
 .ret)
 .skip))
 (.seq
 (.region [] false ([]) [
 ⟨some 7,Op.assign (Operand.const (Value.int IntKind.i64 1)),none⟩])
 (.seq
 (.region [34] false ([]) [
 ⟨some 32,Op.load 35 (Operand.tmp 5),none⟩,
 ⟨some 33,Op.move (Operand.tmp 7),none⟩,
 ⟨some 34,Op.call {callee:=Callee.value (Operand.func 11),args:=#[Operand.tmp 32,Operand.tmp 33],argTypes:=#[35,3]},none⟩,
 ⟨some 7,Op.assign (Operand.tmp 34),none⟩])
 (.seq
 (.seq
 (.region [40] false ([]) [
 ⟨some 35,Op.move (Operand.tmp 7),none⟩,
 ⟨some 36,Op.binOp BinOp.lss 3 (Operand.tmp 35) (Operand.const (Value.int IntKind.i64 0)) 3,none⟩,
 ⟨some 37,Op.move (Operand.tmp 36),none⟩,
 ⟨some 38,Op.move (Operand.tmp 6),some (37,false)⟩,
 ⟨some 39,Op.move (Operand.tmp 4),some (37,false)⟩,
 ⟨some 40,Op.call {callee:=Callee.value (Operand.func 9),args:=#[Operand.tmp 38,Operand.tmp 39],argTypes:=#[29,29]},some (37,false)⟩,
 ⟨some 41,Op.unOp UnOp.not 4 (Operand.tmp 40),some (37,false)⟩,
 ⟨some 42,Op.pick (Operand.tmp 37) (Operand.const (Value.bool true)) (Operand.tmp 41),none⟩])
 (.cond (Operand.tmp 42)
 (.seq
 (.region [] false ([]) [
 ⟨some 2,Op.assign (Operand.const (Value.bool false)),none⟩])
 .ret)
 .skip))
 (.seq
 (.region [] false ([]) [
 ⟨some 8,Op.assign (Operand.const (Value.int IntKind.i64 1)),none⟩])
 (.seq
 (.region [45] false ([]) [
 ⟨some 43,Op.move (Operand.tmp 6),none⟩,
 ⟨some 44,Op.move (Operand.tmp 8),none⟩,
 ⟨some 45,Op.call {callee:=Callee.value (Operand.func 12),args:=#[Operand.tmp 43,Operand.tmp 44],argTypes:=#[29,3]},none⟩,
 ⟨some 8,Op.assign (Operand.tmp 45),none⟩])
 (.seq
 (.region [] false ([]) [
 ⟨some 9,Op.assign (Operand.const (Value.int IntKind.i64 1)),none⟩])
 (.seq
 (.region [48] false ([]) [
 ⟨some 46,Op.move (Operand.tmp 6),none⟩,
 ⟨some 47,Op.move (Operand.tmp 9),none⟩,
 ⟨some 48,Op.call {callee:=Callee.value (Operand.func 13),args:=#[Operand.tmp 46,Operand.tmp 47],argTypes:=#[29,3]},none⟩,
 ⟨some 9,Op.assign (Operand.tmp 48),none⟩])
 (.seq
 (.seq
 (.region [] false ([]) [
 ⟨some 49,Op.move (Operand.tmp 9),none⟩,
 ⟨some 50,Op.binOp BinOp.lss 3 (Operand.tmp 49) (Operand.const (Value.int IntKind.i64 0)) 3,none⟩])
 (.cond (Operand.tmp 50)
 (.seq
 (.region [] false ([]) [
 ⟨some 2,Op.assign (Operand.const (Value.bool false)),none⟩])
 .ret)
 .skip))
 (.seq
 (.seq
 (.region [] false ([]) [
 ⟨some 51,Op.move (Operand.tmp 9),none⟩,
 ⟨some 52,Op.move (Operand.tmp 8),none⟩,
 ⟨some 53,Op.binOp BinOp.neq 3 (Operand.tmp 51) (Operand.tmp 52) 3,none⟩])
 (.cond (Operand.tmp 53)
 (.seq
 (.region [] false ([]) [
 ⟨some 2,Op.assign (Operand.const (Value.bool false)),none⟩])
 .ret)
 .skip))
 (.seq
 (.region [55,56] false ([]) [
 ⟨some 54,Op.load 27 (Operand.tmp 1),none⟩,
 ⟨some 55,Op.call {callee:=Callee.value (Operand.func 7),args:=#[Operand.tmp 54],argTypes:=#[27]},none⟩,
 ⟨some 56,Op.call {callee:=Callee.value (Operand.func 8),args:=#[Operand.tmp 55],argTypes:=#[35]},none⟩,
 ⟨some 10,Op.assign (Operand.tmp 56),none⟩])
 (.seq
 (.seq
 (.region [59] false ([]) [
 ⟨some 57,Op.move (Operand.tmp 10),none⟩,
 ⟨some 58,Op.move (Operand.tmp 4),none⟩,
 ⟨some 59,Op.call {callee:=Callee.value (Operand.func 9),args:=#[Operand.tmp 57,Operand.tmp 58],argTypes:=#[29,29]},none⟩,
 ⟨some 60,Op.unOp UnOp.not 4 (Operand.tmp 59),none⟩])
 (.cond (Operand.tmp 60)
 (.seq
 (.region [] false ([]) [
 ⟨some 2,Op.assign (Operand.const (Value.bool false)),none⟩])
 .ret)
 .skip))
 (.seq
 (.region [] false ([]) [
 ⟨some 2,Op.assign (Operand.const (Value.bool true)),none⟩])
 .ret)))))))))))))))))))))
set_option maxHeartbeats 0 in
theorem lawV (n : Net) (hg : smallN n) (hs : sumN n ≤ 1048576) (T : List UInt8) (lT : T.length ≤ 100000000)
    (hI : CallsF Tryd.prog 8 [.agg (encN n)] (.own 1 (byteR T)) [])
    (hS : CallsF Tryd.prog 6 [.agg (encN n)] (.own 1 (byteR T)) []) :
    CallsF Tryd.prog 3 [.agg (encN n)] (.t (.v (.bool true))) [] := by
  have hE := eqB T lT
  have hL := LN_of hs
  refine callsF_of_wp2 (fn := Tryd.f3) (k := k3) (fun _ => []) mixed (by kernel_rfl) rfl (by kernel_rfl) (by kernel_rfl) (by kernel_rfl) rfl (by simp [Tryd.f3]) (by simp [Arg.like]) ?_
  generalize hst : St.enter [.agg (encN n)] = st0
  have hc : st0.Calm lawE lawE := by rw [← hst]; exact enter_calm _ _ _
  have q0 : ∀ F, Keep F st0 st0 := fun F => Keep.refl F st0
  have t0 : st0.tm 0 = .agg ((encN n) |>.map .t) := by rw [← hst]; rfl
  clear hst
  unfold k3
  simp [encN] at t0
  have e : leave 1048576 (sumN n) = 1048576 - sumN n := if_neg (by omega)
  have hs3 : 0 ≤ 1048576 - sumN n := by omega
  repeat' (first
   | refine wp2_seq fun K hK => ?_
   | refine M_cons fun K hK => ?_
   | (refine hK _ ?_; clear hK K)
   | (refine hX _ ?_; clear hX hY X Y)
   | (refine hY _ ?_; clear hX hY X Y)
   | refine wp2_inl (mk := [20, 5]) 1 rfl ?_
   | refine wp2_region ?_
   | refine wp2_cond fun X Y hX hY => ?_
   | (refine condK_of (fun c => ?_) (fun c => ?_) <;> (try simp [-List.length_eq_zero_iff] at c))
   | (refine callT_fl (szN n _ hg ?_ ?_) (by simp [St.args, St.arg, t0, e, encN, rvN] <;> first | rfl | ((repeat' first | rfl | apply And.intro); first | done | fail)) ?_; omega; omega)
   | (refine callT_gen false (toN n hL) (by simp) (by simp [St.args, St.arg, t0, e, encN, rvN] <;> first | rfl | ((repeat' first | rfl | apply And.intro); first | done | fail)) (by simp [apartArgs, mutsOf, noRow]) (by simp [callFrz, valsOf, outEff]) ?_)
   | (refine callT_gen false (hS) (by simp) (by simp [St.args, St.arg, t0, e, encN, rvN] <;> first | rfl | ((repeat' first | rfl | apply And.intro); first | done | fail)) (by simp [apartArgs, mutsOf, noRow]) (by simp [callFrz, valsOf, outEff]) ?_)
   | simp (maxSteps := 4000000) (disch := omega) [t0, e, encN, rvN])
  all_goals try (simp [t0, e, encN, rvN, Back]; done)
  all_goals first | omega | skip
  generalize hst : St.put _ (some 19) _ = st1
  have q1 : Keep lawE st0 (renL st1 [(1, 79101), (18, 79118)]) := by
    rw [← hst]
    simp only [renL_cons, renL_nil]
    (repeat' first | exact q0 | exact q0 _ | refine Keep.put ?_ _ _ | refine Keep.setOb ?_ (by first | rfl | simp) _ | refine Keep.kill hc ?_ (by first | rfl | simp) | refine Keep.ren hc ?_ (by first | rfl | simp) | refine Keep.ren1 hc ?_ (by first | rfl | simp) | refine Keep.kill1 hc ?_ (by first | rfl | simp))
  have u1 : (renL st1 [(1, 79101), (18, 79118)]).tm 1 = .ptr (79101, 0) 0 0 := by
    rw [← hst]
    simp [encN]
  have u4 : (renL st1 [(1, 79101), (18, 79118)]).tm 4 = .row (79118, 0) 1 0 T.length := by
    rw [← hst]
    simp [encN]
  have u19 : (renL st1 [(1, 79101), (18, 79118)]).tm 19 = .agg (encN n |>.map .t) := by
    rw [← hst]
    simp [encN]
  have v1 : (renL st1 [(1, 79101), (18, 79118)]).ob (79101, 0) = some (.var (encN n |>.map .t)) := by
    rw [← hst]
    simp [encN]
  have w0 : (renL st1 [(1, 79101), (18, 79118)]).ob (79118, 0) = some (.row 1 (byteR T)) := by
    rw [← hst]
    simp [encN]
  refine callI_named [(1, 79101), (18, 79118)] [1, 4, 19] (fun id => calm lawE id ∨ (id = (79101, 0) ∨ id = (79118, 0))) (by decide) ⟨Tryd.f7, by kernel_rfl, by kernel_rfl, rfl⟩ [.agg (encN n |>.map .t)] (by simp [-renL_cons, u19]) ?_
  clear hst t0 q0
  generalize renL st1 [(1, 79101), (18, 79118)] = st2 at *
  refine toN_inl _ n hL (push_frame hc q1 rfl (by simp [u1, u4, u19, AV.frees, AV.free, calm, encN, netIds]) ?_) ?_
  · rintro id o (rfl | rfl) ho
    · rw [v1] at ho
      cases ho
      exact AV.frees_map_t _ _
    · rw [w0] at ho
      cases ho
      unfold Ob.avs AV.frees; trivial
  intro s' hk' hN'
  have hN := netOb_congr (s' := s'.pop0) hN' (fun id _ => by rw [pop0_ob])
  obtain ⟨kp, ktm⟩ := hk'.pop
  generalize s'.pop0 = s3 at *
  have q3 := keep_back q1 kp rfl
  have z1 : s3.tm 1 = .ptr (79101, 0) 0 0 := by rw [ktm]; simp [u1]
  have z4 : s3.tm 4 = .row (79118, 0) 1 0 T.length := by rw [ktm]; simp [u4]
  have x1 := (back_ob kp (id := (79101, 0)) (by simp) (by simp [calm, netIds])).trans v1
  have y0 := (back_ob kp (id := (79118, 0)) (by simp) (by simp [calm, netIds])).trans w0
  clear q1 hk' kp ktm u1 u4 u19 v1 w0
  simp [encN] at x1
  obtain ⟨p6, p4, p1, p2, p5, p3, p7⟩ := hN
  repeat' (first
   | refine wp2_seq fun K hK => ?_
   | refine M_cons fun K hK => ?_
   | (refine hK _ ?_; clear hK K)
   | refine wp2_region ?_
   | simp (maxSteps := 4000000) (disch := omega) [z1, z4, x1, netV, p6, p4, p5, p7, mk1, makes, y0])
  generalize hst : St.put _ (some 21) _ = st5
  have hN : NetOb st5 n := by
    rw [← hst]
    exact ⟨by simp [p6], by simp [p4, wcells_ren], fun i hi => by simp [p1 i hi], fun i hi => by simp [p2 i hi], by simp [p5, rcells_ren], fun i hi => by simp [p3 i hi], by simp [p7]⟩
  have r1 : st5.tm 1 = .ptr (79101, 0) 0 0 := by
    rw [← hst]
    simp [z1]
  have r4 : st5.tm 4 = .row (79118, 0) 1 0 T.length := by
    rw [← hst]
    simp [z4]
  have r5 : st5.tm 5 = .ptr (5, 0) 0 0 := by
    rw [← hst]
    simp [z1]
  have b5 : st5.ob (5, 0) = some (.var (netV n)) := by
    rw [← hst]
    simp [netV]
  have b1 : st5.ob (79101, 0) = s3.ob (79101, 0) := by
    rw [← hst]
    simp [x1]
  rw [x1] at b1
  have g0 : st5.ob (79118, 0) = some (.row 1 (byteR T)) := by
    rw [← hst]
    simp [y0]
  have q5 : Keep lawE st0 st5 := by
    rw [← hst]
    (repeat' first | exact q3 | exact q3 _ | refine Keep.put ?_ _ _ | refine Keep.setOb ?_ (by first | rfl | simp) _ | refine Keep.kill hc ?_ (by first | rfl | simp) | refine Keep.ren hc ?_ (by first | rfl | simp) | refine Keep.ren1 hc ?_ (by first | rfl | simp) | refine Keep.kill1 hc ?_ (by first | rfl | simp))
  refine callT_read hI (by rfl) (argsR1 (netRead hN)) (by (repeat' first | exact flat_byteR _ | exact trivial | constructor | unfold RV.flat | unfold RV.flats)) ?_
  clear hst x1 p6 p4 p1 p2 p5 p3 p7 z1 z4 q3 y0
  obtain ⟨p6, p4, p1, p2, p5, p3, p7⟩ := hN
  repeat' (first
   | refine wp2_seq fun K hK => ?_
   | refine M_cons fun K hK => ?_
   | (refine hK _ ?_; clear hK K)
   | (refine hY _ ?_; clear hX hY X Y)
   | refine wp2_region ?_
   | refine wp2_cond fun X Y hX hY => ?_
   | (refine condK_of (fun c => ?_) (fun c => ?_) <;> (try simp [-List.length_eq_zero_iff] at c))
   | (refine callT_fl (hE) (by simp [St.args, St.arg, r1, r4, r5, b1, b5, netV, rvN, p6, p4, p5, p7, mk1, makes, g0, bytesT] <;> first | rfl | ((repeat' first | rfl | apply And.intro); first | done | fail)) ?_)
   | (refine callT_gen false (toN n hL) (by simp) (by simp [St.args, St.arg, r1, r4, r5, b1, b5, netV, rvN, p6, p4, p5, p7, mk1, makes, g0, bytesT] <;> first | rfl | ((repeat' first | rfl | apply And.intro); first | done | fail)) (by simp [apartArgs, mutsOf, noRow]) (by simp [callFrz, valsOf, outEff]) ?_)
   | simp (maxSteps := 4000000) (disch := omega) [r1, r4, r5, b1, b5, netV, rvN, p6, p4, p5, p7, mk1, makes, g0, bytesT])
  generalize hst : St.put _ (some 29) _ = st6
  have hN : NetOb st6 n := by
    rw [← hst]
    exact ⟨by simp [p6], by simp [p4, wcells_ren], fun i hi => by simp [p1 i hi], fun i hi => by simp [p2 i hi], by simp [p5, rcells_ren], fun i hi => by simp [p3 i hi], by simp [p7]⟩
  have d0 : st6.ob (29, 0) = some (.row 1 (intRow n.nodes)) := by
    rw [← hst]
    simp []
  have d1 : st6.ob (29, 1) = some (.row 4 (recRow encW n.ways)) := by
    rw [← hst]
    simp []
  have d2 : st6.ob (29, 2) = some (.row 7 (recRow encR n.rels)) := by
    rw [← hst]
    simp []
  have d3 : st6.ob (29, 3) = some (.row 3 (recRow encC n.tcs)) := by
    rw [← hst]
    simp []
  have f1 : st6.tm 1 = .ptr (79101, 0) 0 0 := by
    rw [← hst]
    simp [r1]
  have f4 : st6.tm 4 = .row (79118, 0) 1 0 T.length := by
    rw [← hst]
    simp [r4]
  have f5 : st6.tm 5 = .ptr (5, 0) 0 0 := by
    rw [← hst]
    simp [r5]
  have f6 : st6.tm 6 = .row (22, 0) 1 0 T.length := by
    rw [← hst]
    simp []
  have h1 : st6.ob (79101, 0) = st5.ob (79101, 0) := by
    rw [← hst]
    simp [b1]
  rw [b1] at h1
  have k0 : st6.ob (79118, 0) = some (.row 1 (byteR T)) := by
    rw [← hst]
    simp [g0]
  have h5 : st6.ob (5, 0) = some (.var (netV n)) := by
    rw [← hst]
    simp [b5, netV]
  have m0 : st6.ob (22, 0) = some (.row 1 (byteR T)) := by
    rw [← hst]
    simp []
  have q6 : Keep lawE st0 st6 := by
    rw [← hst]
    (repeat' first | exact q5 | exact q5 _ | refine Keep.put ?_ _ _ | refine Keep.setOb ?_ (by first | rfl | simp) _ | refine Keep.kill hc ?_ (by first | rfl | simp) | refine Keep.ren hc ?_ (by first | rfl | simp) | refine Keep.ren1 hc ?_ (by first | rfl | simp) | refine Keep.kill1 hc ?_ (by first | rfl | simp))
  refine callT_read (eqN n hL) (by rfl) (argsR2 (netRead hN) (rowsN d0 d1 d2 d3)) (by exact trivial) ?_
  clear hst b1 b5 r1 r4 r5 q5 p6 p4 p1 p2 p5 p3 p7 d0 d1 d2 d3 g0
  obtain ⟨p6, p4, p1, p2, p5, p3, p7⟩ := hN
  repeat' (first
   | refine wp2_seq fun K hK => ?_
   | refine M_cons fun K hK => ?_
   | (refine hK _ ?_; clear hK K)
   | (refine hY _ ?_; clear hX hY X Y)
   | refine wp2_inl (mk := [34]) 2 rfl ?_
   | refine wp2_region ?_
   | refine wp2_cond fun X Y hX hY => ?_
   | (refine condK_of (fun c => ?_) (fun c => ?_) <;> (try simp [-List.length_eq_zero_iff] at c))
   | simp (maxSteps := 4000000) (disch := omega) [f1, f4, f5, f6, h1, h5, netV, p6, p4, p5, p7, mk1, makes, k0, m0])
  generalize hst : St.put _ (some 33) _ = st7
  have q7 : Keep lawE st0 (renL st7 [(22, 79122)]) := by
    rw [← hst]
    simp only [renL_cons, renL_nil]
    (repeat' first | exact q6 | exact q6 _ | refine Keep.put ?_ _ _ | refine Keep.setOb ?_ (by first | rfl | simp) _ | refine Keep.kill hc ?_ (by first | rfl | simp) | refine Keep.ren hc ?_ (by first | rfl | simp) | refine Keep.ren1 hc ?_ (by first | rfl | simp) | refine Keep.kill1 hc ?_ (by first | rfl | simp))
  have hN : NetOb (renL st7 [(22, 79122)]) n := by
    rw [← hst]
    exact ⟨by simp [p6], by simp [p4, wcells_ren], fun i hi => by simp [p1 i hi], fun i hi => by simp [p2 i hi], by simp [p5, rcells_ren], fun i hi => by simp [p3 i hi], by simp [p7]⟩
  have o1 : (renL st7 [(22, 79122)]).tm 1 = .ptr (79101, 0) 0 0 := by
    rw [← hst]
    simp [f1]
  have o4 : (renL st7 [(22, 79122)]).tm 4 = .row (79118, 0) 1 0 T.length := by
    rw [← hst]
    simp [f4]
  have o6 : (renL st7 [(22, 79122)]).tm 6 = .row (79122, 0) 1 0 T.length := by
    rw [← hst]
    simp [f6]
  have o32 : (renL st7 [(22, 79122)]).tm 32 = .agg (netV n) := by
    rw [← hst]
    simp [netV]
  have o33 : (renL st7 [(22, 79122)]).tm 33 = .t (.v (.int .i64 1)) := by
    rw [← hst]
    simp []
  have i1 : (renL st7 [(22, 79122)]).ob (79101, 0) = st6.ob (79101, 0) := by
    rw [← hst]
    simp [h1]
  rw [h1] at i1
  have j0 : (renL st7 [(22, 79122)]).ob (79118, 0) = some (.row 1 (byteR T)) := by
    rw [← hst]
    simp [k0]
  have n0 : (renL st7 [(22, 79122)]).ob (79122, 0) = some (.row 1 (byteR T)) := by
    rw [← hst]
    simp [m0]
  refine callI_named [(22, 79122)] [1, 4, 6, 32, 33] (fun id => calm lawE id ∨ (netId n id ∨ (id = (79101, 0) ∨ id = (79118, 0) ∨ id = (79122, 0)))) (by decide) ⟨Tryd.f11, by kernel_rfl, by kernel_rfl, rfl⟩ [.agg (netV n), .t (.v (.int .i64 1))] (by simp [-renL_cons, -renL_nil, o32, o33]) ?_
  clear hst q6 f1 f4 f5 f6 h1 h5 p6 p4 p1 p2 p5 p3 p7 k0 m0
  generalize renL st7 [(22, 79122)] = st8 at *
  refine markN_inl _ n hL (push_frame hc q7 rfl (by simp [o1, o4, o6, o32, o33, AV.frees, AV.free, calm, netV]) ?_) 1 (by omega) (by omega) (accN_W hs) (accN_R hs) (netOb_congr hN fun id hid => by rw [push_ob, only_ob (.inr (.inl hid))]) ?_
  · rintro id o (hid | rfl | rfl | rfl) ho
    · exact netOb_free hN (by simp [calm]) (by simp [calm]) (by simp [calm]) hid ho
    · rw [i1] at ho
      cases ho
      simp [Ob.avs, AV.frees, AV.free]
    · rw [j0] at ho
      cases ho
      unfold Ob.avs AV.frees; trivial
    · rw [n0] at ho
      cases ho
      unfold Ob.avs AV.frees; trivial
  intro s' k' hk' hk0
  obtain ⟨kp, ktm⟩ := hk'.pop
  generalize s'.pop0 = s9 at *
  have q9 := keep_back q7 kp rfl
  have z1 : s9.tm 1 = .ptr (79101, 0) 0 0 := by rw [ktm]; simp [o1]
  have z4 : s9.tm 4 = .row (79118, 0) 1 0 T.length := by rw [ktm]; simp [o4]
  have z6 : s9.tm 6 = .row (79122, 0) 1 0 T.length := by rw [ktm]; simp [o6]
  have x1 := (back_ob kp (id := (79101, 0)) (by simp) (by simp [calm, netIds])).trans i1
  have y0 := (back_ob kp (id := (79118, 0)) (by simp) (by simp [calm, netIds])).trans j0
  have v0 := (back_ob kp (id := (79122, 0)) (by simp) (by simp [calm, netIds])).trans n0
  clear q7 hk' kp ktm o1 o4 o6 o32 o33 i1 j0 hN n0
  have hM := markB T 1 (by omega) (by omega) lT
  have hH := heldB T.length 1 (by omega) (by omega) lT
  have tM : List.take T.length (byteR (markedB 1 T.length)) = byteR (markedB 1 T.length) := by
    have := take_byteR (markedB 1 T.length)
    rwa [markedB_length] at this
  repeat' (first
   | refine wp2_seq fun K hK => ?_
   | refine M_cons fun K hK => ?_
   | (refine hK _ ?_; clear hK K)
   | (refine hX _ ?_; clear hX hY X Y)
   | (refine hY _ ?_; clear hX hY X Y)
   | refine wp2_region ?_
   | refine wp2_cond fun X Y hX hY => ?_
   | (refine condK_of (fun c => ?_) (fun c => ?_) <;> (try simp [-List.length_eq_zero_iff] at c))
   | (refine guard1_or (fun c => ?_) (fun c => ?_) <;> (have cc := c) <;> (try simp [-List.length_eq_zero_iff] at cc) <;> (try simp (disch := omega) [z1, z4, z6, x1, encN, rvN, mk1, makes, y0, bytesT, v0, tM, c]))
   | (refine callT_fl (hE) (by simp [St.args, St.arg, z1, z4, z6, x1, encN, rvN, mk1, makes, y0, bytesT, v0, tM] <;> first | rfl | ((repeat' first | rfl | apply And.intro); first | done | fail)) ?_)
   | (refine callT_gen false (toN n hL) (by simp) (by simp [St.args, St.arg, z1, z4, z6, x1, encN, rvN, mk1, makes, y0, bytesT, v0, tM] <;> first | rfl | ((repeat' first | rfl | apply And.intro); first | done | fail)) (by simp [apartArgs, mutsOf, noRow]) (by simp [callFrz, valsOf, outEff]) ?_)
   | (refine callT_gen false (hI) (by simp) (by simp [St.args, St.arg, z1, z4, z6, x1, encN, rvN, mk1, makes, y0, bytesT, v0, tM] <;> first | rfl | ((repeat' first | rfl | apply And.intro); first | done | fail)) (by simp [apartArgs, mutsOf, noRow]) (by simp [callFrz, valsOf, outEff]) ?_)
   | (refine callT_gen true (hM) (fun _ => ⟨(by first | (simp [RV.flat, RV.flats, T.flat]; done) | ((repeat' first | exact flat_intRow _ | exact flat_boolRow _ | exact flat_byteR _ | exact trivial | constructor | unfold RV.flat | unfold RV.flats); first | done | fail)), (by (repeat' first | exact flat_intRow _ | exact flat_boolRow _ | exact flat_byteR _ | exact trivial | constructor | unfold Arg.flats | unfold Arg.flat); first | done | fail)⟩) (by simp [St.args, St.arg, z1, z4, z6, x1, encN, rvN, mk1, makes, y0, bytesT, v0, tM] <;> first | rfl | ((repeat' first | rfl | apply And.intro); first | done | fail)) (by simp [apartArgs, mutsOf, noRow, valsOf]) (by simp) ?_)
   | (refine callT_fl (hH) (by simp [St.args, St.arg, z1, z4, z6, x1, encN, rvN, mk1, makes, y0, bytesT, v0, tM] <;> first | rfl | ((repeat' first | rfl | apply And.intro); first | done | fail)) ?_)
   | simp (maxSteps := 4000000) (disch := omega) [z1, z4, z6, x1, encN, rvN, mk1, makes, y0, bytesT, v0, tM])
  all_goals try (simp [z1, z4, z6, x1, encN, rvN, mk1, makes, y0, bytesT, v0, tM, Back]; done)
  all_goals first | omega | skip
set_option maxHeartbeats 0 in
theorem lawN (n : Net) (hg : smallN n) (hs : sumN n ≤ 1048576)
    (hI : CallsF Tryd.prog 8 [.agg (encN n)] (.t (.v (.slice none 0 0))) [])
    (hS : CallsF Tryd.prog 6 [.agg (encN n)] (.own 1 (byteR [])) []) :
    CallsF Tryd.prog 3 [.agg (encN n)] (.t (.v (.bool true))) [] := by
  have hE := eqB_nil
  have hL := LN_of hs
  refine callsF_of_wp2 (fn := Tryd.f3) (k := k3) (fun _ => []) mixed (by kernel_rfl) rfl (by kernel_rfl) (by kernel_rfl) (by kernel_rfl) rfl (by simp [Tryd.f3]) (by simp [Arg.like]) ?_
  generalize hst : St.enter [.agg (encN n)] = st0
  have hc : st0.Calm lawE lawE := by rw [← hst]; exact enter_calm _ _ _
  have q0 : ∀ F, Keep F st0 st0 := fun F => Keep.refl F st0
  have t0 : st0.tm 0 = .agg ((encN n) |>.map .t) := by rw [← hst]; rfl
  clear hst
  unfold k3
  simp [encN] at t0
  have e : leave 1048576 (sumN n) = 1048576 - sumN n := if_neg (by omega)
  have hs3 : 0 ≤ 1048576 - sumN n := by omega
  repeat' (first
   | refine wp2_seq fun K hK => ?_
   | refine M_cons fun K hK => ?_
   | (refine hK _ ?_; clear hK K)
   | (refine hX _ ?_; clear hX hY X Y)
   | (refine hY _ ?_; clear hX hY X Y)
   | refine wp2_inl (mk := [20, 5]) 1 rfl ?_
   | refine wp2_region ?_
   | refine wp2_cond fun X Y hX hY => ?_
   | (refine condK_of (fun c => ?_) (fun c => ?_) <;> (try simp [-List.length_eq_zero_iff] at c))
   | (refine callT_fl (szN n _ hg ?_ ?_) (by simp [St.args, St.arg, t0, e, encN, rvN] <;> first | rfl | ((repeat' first | rfl | apply And.intro); first | done | fail)) ?_; omega; omega)
   | (refine callT_gen false (toN n hL) (by simp) (by simp [St.args, St.arg, t0, e, encN, rvN] <;> first | rfl | ((repeat' first | rfl | apply And.intro); first | done | fail)) (by simp [apartArgs, mutsOf, noRow]) (by simp [callFrz, valsOf, outEff]) ?_)
   | (refine callT_gen false (hS) (by simp) (by simp [St.args, St.arg, t0, e, encN, rvN] <;> first | rfl | ((repeat' first | rfl | apply And.intro); first | done | fail)) (by simp [apartArgs, mutsOf, noRow]) (by simp [callFrz, valsOf, outEff]) ?_)
   | simp (maxSteps := 4000000) (disch := omega) [t0, e, encN, rvN])
  all_goals try (simp [t0, e, encN, rvN, Back]; done)
  all_goals first | omega | skip
  generalize hst : St.put _ (some 19) _ = st1
  have q1 : Keep lawE st0 (renL st1 [(1, 79101), (18, 79118)]) := by
    rw [← hst]
    simp only [renL_cons, renL_nil]
    (repeat' first | exact q0 | exact q0 _ | refine Keep.put ?_ _ _ | refine Keep.setOb ?_ (by first | rfl | simp) _ | refine Keep.kill hc ?_ (by first | rfl | simp) | refine Keep.ren hc ?_ (by first | rfl | simp) | refine Keep.ren1 hc ?_ (by first | rfl | simp) | refine Keep.kill1 hc ?_ (by first | rfl | simp))
  have u1 : (renL st1 [(1, 79101), (18, 79118)]).tm 1 = .ptr (79101, 0) 0 0 := by
    rw [← hst]
    simp [encN]
  have u4 : (renL st1 [(1, 79101), (18, 79118)]).tm 4 = .row (79118, 0) 1 0 0 := by
    rw [← hst]
    simp [encN]
  have u19 : (renL st1 [(1, 79101), (18, 79118)]).tm 19 = .agg (encN n |>.map .t) := by
    rw [← hst]
    simp [encN]
  have v1 : (renL st1 [(1, 79101), (18, 79118)]).ob (79101, 0) = some (.var (encN n |>.map .t)) := by
    rw [← hst]
    simp [encN]
  have w0 : (renL st1 [(1, 79101), (18, 79118)]).ob (79118, 0) = some (.row 1 (byteR [])) := by
    rw [← hst]
    simp [encN]
  refine callI_named [(1, 79101), (18, 79118)] [1, 4, 19] (fun id => calm lawE id ∨ (id = (79101, 0) ∨ id = (79118, 0))) (by decide) ⟨Tryd.f7, by kernel_rfl, by kernel_rfl, rfl⟩ [.agg (encN n |>.map .t)] (by simp [-renL_cons, u19]) ?_
  clear hst t0 q0
  generalize renL st1 [(1, 79101), (18, 79118)] = st2 at *
  refine toN_inl _ n hL (push_frame hc q1 rfl (by simp [u1, u4, u19, AV.frees, AV.free, calm, encN, netIds]) ?_) ?_
  · rintro id o (rfl | rfl) ho
    · rw [v1] at ho
      cases ho
      exact AV.frees_map_t _ _
    · rw [w0] at ho
      cases ho
      unfold Ob.avs AV.frees; trivial
  intro s' hk' hN'
  have hN := netOb_congr (s' := s'.pop0) hN' (fun id _ => by rw [pop0_ob])
  obtain ⟨kp, ktm⟩ := hk'.pop
  generalize s'.pop0 = s3 at *
  have q3 := keep_back q1 kp rfl
  have z1 : s3.tm 1 = .ptr (79101, 0) 0 0 := by rw [ktm]; simp [u1]
  have z4 : s3.tm 4 = .row (79118, 0) 1 0 0 := by rw [ktm]; simp [u4]
  have x1 := (back_ob kp (id := (79101, 0)) (by simp) (by simp [calm, netIds])).trans v1
  have y0 := (back_ob kp (id := (79118, 0)) (by simp) (by simp [calm, netIds])).trans w0
  clear q1 hk' kp ktm u1 u4 u19 v1 w0
  simp [encN] at x1
  obtain ⟨p6, p4, p1, p2, p5, p3, p7⟩ := hN
  repeat' (first
   | refine wp2_seq fun K hK => ?_
   | refine M_cons fun K hK => ?_
   | (refine hK _ ?_; clear hK K)
   | refine wp2_region ?_
   | simp (maxSteps := 4000000) (disch := omega) [z1, z4, x1, netV, p6, p4, p5, p7, mk1, makes, y0])
  generalize hst : St.put _ (some 21) _ = st5
  have hN : NetOb st5 n := by
    rw [← hst]
    exact ⟨by simp [p6], by simp [p4, wcells_ren], fun i hi => by simp [p1 i hi], fun i hi => by simp [p2 i hi], by simp [p5, rcells_ren], fun i hi => by simp [p3 i hi], by simp [p7]⟩
  have r1 : st5.tm 1 = .ptr (79101, 0) 0 0 := by
    rw [← hst]
    simp [z1]
  have r4 : st5.tm 4 = .row (79118, 0) 1 0 0 := by
    rw [← hst]
    simp [z4]
  have r5 : st5.tm 5 = .ptr (5, 0) 0 0 := by
    rw [← hst]
    simp [z1]
  have b5 : st5.ob (5, 0) = some (.var (netV n)) := by
    rw [← hst]
    simp [netV]
  have b1 : st5.ob (79101, 0) = s3.ob (79101, 0) := by
    rw [← hst]
    simp [x1]
  rw [x1] at b1
  have g0 : st5.ob (79118, 0) = some (.row 1 (byteR [])) := by
    rw [← hst]
    simp [y0]
  have q5 : Keep lawE st0 st5 := by
    rw [← hst]
    (repeat' first | exact q3 | exact q3 _ | refine Keep.put ?_ _ _ | refine Keep.setOb ?_ (by first | rfl | simp) _ | refine Keep.kill hc ?_ (by first | rfl | simp) | refine Keep.ren hc ?_ (by first | rfl | simp) | refine Keep.ren1 hc ?_ (by first | rfl | simp) | refine Keep.kill1 hc ?_ (by first | rfl | simp))
  refine callT_read hI (by rfl) (argsR1 (netRead hN)) (by (repeat' first | exact flat_byteR _ | exact trivial | constructor | unfold RV.flat | unfold RV.flats)) ?_
  clear hst x1 p6 p4 p1 p2 p5 p3 p7 z1 z4 q3 y0
  obtain ⟨p6, p4, p1, p2, p5, p3, p7⟩ := hN
  repeat' (first
   | refine wp2_seq fun K hK => ?_
   | refine M_cons fun K hK => ?_
   | (refine hK _ ?_; clear hK K)
   | (refine hY _ ?_; clear hX hY X Y)
   | refine wp2_region ?_
   | refine wp2_cond fun X Y hX hY => ?_
   | (refine condK_of (fun c => ?_) (fun c => ?_) <;> (try simp [-List.length_eq_zero_iff] at c))
   | (refine callT_fl (hE) (by simp [St.args, St.arg, r1, r4, r5, b1, b5, netV, rvN, p6, p4, p5, p7, mk1, makes, g0, bytesT] <;> first | rfl | ((repeat' first | rfl | apply And.intro); first | done | fail)) ?_)
   | (refine callT_gen false (toN n hL) (by simp) (by simp [St.args, St.arg, r1, r4, r5, b1, b5, netV, rvN, p6, p4, p5, p7, mk1, makes, g0, bytesT] <;> first | rfl | ((repeat' first | rfl | apply And.intro); first | done | fail)) (by simp [apartArgs, mutsOf, noRow]) (by simp [callFrz, valsOf, outEff]) ?_)
   | simp (maxSteps := 4000000) (disch := omega) [r1, r4, r5, b1, b5, netV, rvN, p6, p4, p5, p7, mk1, makes, g0, bytesT])
  generalize hst : St.put _ (some 29) _ = st6
  have hN : NetOb st6 n := by
    rw [← hst]
    exact ⟨by simp [p6], by simp [p4, wcells_ren], fun i hi => by simp [p1 i hi], fun i hi => by simp [p2 i hi], by simp [p5, rcells_ren], fun i hi => by simp [p3 i hi], by simp [p7]⟩
  have d0 : st6.ob (29, 0) = some (.row 1 (intRow n.nodes)) := by
    rw [← hst]
    simp []
  have d1 : st6.ob (29, 1) = some (.row 4 (recRow encW n.ways)) := by
    rw [← hst]
    simp []
  have d2 : st6.ob (29, 2) = some (.row 7 (recRow encR n.rels)) := by
    rw [← hst]
    simp []
  have d3 : st6.ob (29, 3) = some (.row 3 (recRow encC n.tcs)) := by
    rw [← hst]
    simp []
  have f1 : st6.tm 1 = .ptr (79101, 0) 0 0 := by
    rw [← hst]
    simp [r1]
  have f4 : st6.tm 4 = .row (79118, 0) 1 0 0 := by
    rw [← hst]
    simp [r4]
  have f5 : st6.tm 5 = .ptr (5, 0) 0 0 := by
    rw [← hst]
    simp [r5]
  have f6 : st6.tm 6 = .t (.v (.slice none 0 0)) := by
    rw [← hst]
    simp []
  have h1 : st6.ob (79101, 0) = st5.ob (79101, 0) := by
    rw [← hst]
    simp [b1]
  rw [b1] at h1
  have k0 : st6.ob (79118, 0) = some (.row 1 (byteR [])) := by
    rw [← hst]
    simp [g0]
  have h5 : st6.ob (5, 0) = some (.var (netV n)) := by
    rw [← hst]
    simp [b5, netV]
  have q6 : Keep lawE st0 st6 := by
    rw [← hst]
    (repeat' first | exact q5 | exact q5 _ | refine Keep.put ?_ _ _ | refine Keep.setOb ?_ (by first | rfl | simp) _ | refine Keep.kill hc ?_ (by first | rfl | simp) | refine Keep.ren hc ?_ (by first | rfl | simp) | refine Keep.ren1 hc ?_ (by first | rfl | simp) | refine Keep.kill1 hc ?_ (by first | rfl | simp))
  refine callT_read (eqN n hL) (by rfl) (argsR2 (netRead hN) (rowsN d0 d1 d2 d3)) (by exact trivial) ?_
  clear hst b1 b5 r1 r4 r5 q5 p6 p4 p1 p2 p5 p3 p7 d0 d1 d2 d3 g0
  obtain ⟨p6, p4, p1, p2, p5, p3, p7⟩ := hN
  repeat' (first
   | refine wp2_seq fun K hK => ?_
   | refine M_cons fun K hK => ?_
   | (refine hK _ ?_; clear hK K)
   | (refine hY _ ?_; clear hX hY X Y)
   | refine wp2_inl (mk := [34]) 2 rfl ?_
   | refine wp2_region ?_
   | refine wp2_cond fun X Y hX hY => ?_
   | (refine condK_of (fun c => ?_) (fun c => ?_) <;> (try simp [-List.length_eq_zero_iff] at c))
   | simp (maxSteps := 4000000) (disch := omega) [f1, f4, f5, f6, h1, h5, netV, p6, p4, p5, p7, mk1, makes, k0])
  generalize hst : St.put _ (some 33) _ = st7
  have q7 : Keep lawE st0 (renL st7 []) := by
    rw [← hst]
    simp only [renL_cons, renL_nil]
    (repeat' first | exact q6 | exact q6 _ | refine Keep.put ?_ _ _ | refine Keep.setOb ?_ (by first | rfl | simp) _ | refine Keep.kill hc ?_ (by first | rfl | simp) | refine Keep.ren hc ?_ (by first | rfl | simp) | refine Keep.ren1 hc ?_ (by first | rfl | simp) | refine Keep.kill1 hc ?_ (by first | rfl | simp))
  have hN : NetOb (renL st7 []) n := by
    rw [← hst]
    exact ⟨by simp [p6], by simp [p4, wcells_ren], fun i hi => by simp [p1 i hi], fun i hi => by simp [p2 i hi], by simp [p5, rcells_ren], fun i hi => by simp [p3 i hi], by simp [p7]⟩
  have o1 : (renL st7 []).tm 1 = .ptr (79101, 0) 0 0 := by
    rw [← hst]
    simp [f1]
  have o4 : (renL st7 []).tm 4 = .row (79118, 0) 1 0 0 := by
    rw [← hst]
    simp [f4]
  have o6 : (renL st7 []).tm 6 = .t (.v (.slice none 0 0)) := by
    rw [← hst]
    simp [f6]
  have o32 : (renL st7 []).tm 32 = .agg (netV n) := by
    rw [← hst]
    simp [netV]
  have o33 : (renL st7 []).tm 33 = .t (.v (.int .i64 1)) := by
    rw [← hst]
    simp []
  have i1 : (renL st7 []).ob (79101, 0) = st6.ob (79101, 0) := by
    rw [← hst]
    simp [h1]
  rw [h1] at i1
  have j0 : (renL st7 []).ob (79118, 0) = some (.row 1 (byteR [])) := by
    rw [← hst]
    simp [k0]
  refine callI_named [] [1, 4, 6, 32, 33] (fun id => calm lawE id ∨ (netId n id ∨ (id = (79101, 0) ∨ id = (79118, 0)))) (by decide) ⟨Tryd.f11, by kernel_rfl, by kernel_rfl, rfl⟩ [.agg (netV n), .t (.v (.int .i64 1))] (by simp [-renL_cons, -renL_nil, o32, o33]) ?_
  clear hst q6 f1 f4 f5 f6 h1 h5 p6 p4 p1 p2 p5 p3 p7 k0
  generalize renL st7 [] = st8 at *
  refine markN_inl _ n hL (push_frame hc q7 rfl (by simp [o1, o4, o6, o32, o33, AV.frees, AV.free, calm, netV]) ?_) 1 (by omega) (by omega) (accN_W hs) (accN_R hs) (netOb_congr hN fun id hid => by rw [push_ob, only_ob (.inr (.inl hid))]) ?_
  · rintro id o (hid | rfl | rfl) ho
    · exact netOb_free hN (by simp [calm]) (by simp [calm]) (by simp [calm]) hid ho
    · rw [i1] at ho
      cases ho
      simp [Ob.avs, AV.frees, AV.free]
    · rw [j0] at ho
      cases ho
      unfold Ob.avs AV.frees; trivial
  intro s' k' hk' hk0
  obtain ⟨kp, ktm⟩ := hk'.pop
  generalize s'.pop0 = s9 at *
  have q9 := keep_back q7 kp rfl
  have z1 : s9.tm 1 = .ptr (79101, 0) 0 0 := by rw [ktm]; simp [o1]
  have z4 : s9.tm 4 = .row (79118, 0) 1 0 0 := by rw [ktm]; simp [o4]
  have z6 : s9.tm 6 = .t (.v (.slice none 0 0)) := by rw [ktm]; simp [o6]
  have x1 := (back_ob kp (id := (79101, 0)) (by simp) (by simp [calm, netIds])).trans i1
  have y0 := (back_ob kp (id := (79118, 0)) (by simp) (by simp [calm, netIds])).trans j0
  clear q7 hk' kp ktm o1 o4 o6 o32 o33 i1 j0 hN
  repeat' (first
   | refine wp2_seq fun K hK => ?_
   | refine M_cons fun K hK => ?_
   | (refine hK _ ?_; clear hK K)
   | (refine hX _ ?_; clear hX hY X Y)
   | (refine hY _ ?_; clear hX hY X Y)
   | refine wp2_region ?_
   | refine wp2_cond fun X Y hX hY => ?_
   | (refine condK_of (fun c => ?_) (fun c => ?_) <;> (try simp [-List.length_eq_zero_iff] at c))
   | (refine guard1_or (fun c => ?_) (fun c => ?_) <;> (have cc := c) <;> (try simp [-List.length_eq_zero_iff] at cc) <;> (try simp (disch := omega) [z1, z4, z6, x1, encN, rvN, mk1, makes, y0, bytesT, c]))
   | (refine callT_fl (hE) (by simp [St.args, St.arg, z1, z4, z6, x1, encN, rvN, mk1, makes, y0, bytesT] <;> first | rfl | ((repeat' first | rfl | apply And.intro); first | done | fail)) ?_)
   | (refine callT_gen false (toN n hL) (by simp) (by simp [St.args, St.arg, z1, z4, z6, x1, encN, rvN, mk1, makes, y0, bytesT] <;> first | rfl | ((repeat' first | rfl | apply And.intro); first | done | fail)) (by simp [apartArgs, mutsOf, noRow]) (by simp [callFrz, valsOf, outEff]) ?_)
   | (refine callT_gen false (hI) (by simp) (by simp [St.args, St.arg, z1, z4, z6, x1, encN, rvN, mk1, makes, y0, bytesT] <;> first | rfl | ((repeat' first | rfl | apply And.intro); first | done | fail)) (by simp [apartArgs, mutsOf, noRow]) (by simp [callFrz, valsOf, outEff]) ?_)
   | (refine callT_fl (markB0 1) (by simp [St.args, St.arg, z1, z4, z6, x1, encN, rvN, mk1, makes, y0, bytesT] <;> first | rfl | ((repeat' first | rfl | apply And.intro); first | done | fail)) ?_)
   | (refine callT_fl (heldB0 1) (by simp [St.args, St.arg, z1, z4, z6, x1, encN, rvN, mk1, makes, y0, bytesT] <;> first | rfl | ((repeat' first | rfl | apply And.intro); first | done | fail)) ?_)
   | simp (maxSteps := 4000000) (disch := omega) [z1, z4, z6, x1, encN, rvN, mk1, makes, y0, bytesT])
  all_goals try (simp [z1, z4, z6, x1, encN, rvN, mk1, makes, y0, bytesT, Back]; done)
  all_goals first | omega | skip
/-- The statement's function says yes. -/
theorem lawEN (n : Net) (hg : smallN n ∧ N64 n) : CallsF Tryd.prog 3 [.agg (encN n)] (.t (.v (.bool true))) [] := by
  obtain ⟨hg, h64⟩ := hg
  by_cases hs : 1048576 < sumN n
  · have e : leave 1048576 (sumN n) = -1 := if_pos hs
    refine callsF_of_wp2 (fn := Tryd.f3) (k := k3) (fun _ => []) mixed (by kernel_rfl) rfl (by kernel_rfl) (by kernel_rfl) (by kernel_rfl) rfl (by simp [Tryd.f3]) (by simp [Arg.like]) ?_
    generalize hst : St.enter [.agg (encN n)] = st0
    have t0 : st0.tm 0 = .agg ((encN n) |>.map .t) := by rw [← hst]; rfl
    clear hst
    unfold k3
    simp [encN] at t0
    repeat' (first
     | refine wp2_seq fun K hK => ?_
     | refine M_cons fun K hK => ?_
     | (refine hK _ ?_; clear hK K)
     | (refine hX _ ?_; clear hX hY X Y)
     | refine wp2_region ?_
     | refine wp2_cond fun X Y hX hY => ?_
     | (refine condK_of (fun c => ?_) (fun c => ?_) <;> (try simp [-List.length_eq_zero_iff] at c))
     | (refine callT_fl (szN n _ hg ?_ ?_) (by simp [St.args, St.arg, t0, e, encN] <;> first | rfl | ((repeat' first | rfl | apply And.intro); first | done | fail)) ?_; omega; omega)
     | simp (maxSteps := 4000000) (disch := omega) [t0, e, encN])
    all_goals try (simp [t0, e, encN, Back]; done)
  · have hs : sumN n ≤ 1048576 := by omega
    have hL := LN_of hs
    have h1 := encI n hL h64
    have h2 := encS n hL
    by_cases hv : VNet n
    · rw [encR1, if_pos hv] at h1
      have hl : (encT n).length ≤ 100000000 := by
        have := txtD_len hv (Nat.le_refl n.tcs.length)
        rw [encT, if_pos hv]
        omega
      exact lawV n hg hs (encT n) hl h1 h2
    · rw [encR1, if_neg hv] at h1
      rw [encT, if_neg hv] at h2
      exact lawN n hg hs h1 h2
end Cal
