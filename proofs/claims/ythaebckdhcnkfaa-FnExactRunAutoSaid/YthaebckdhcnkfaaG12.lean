/- A part of the proof: a calculus of our own over the model's code, and contracts of the program's functions. -/
import Derived.Test.YthaebckdhcnkfaaG10
import Derived.Test.YthaebckdhcnkfaaG11
set_option linter.unusedSimpArgs false
set_option linter.unusedVariables false
namespace Cal
open Go Go.Proofs Auto AC
set_option maxRecDepth 100000
@[simp] theorem take_snocRow (w : List Int) (x : Int) : (intRow (w ++ [x])).take (w.length + 1) = intRow (w ++ [x]) := by
  have := take_intRow (w ++ [x])
  rwa [List.length_append] at this
/-- Where an automaton goes. -/
def wsA (a : Au) : List (List Int) := wsOf a.parent a.last a.parent.length
def goA (a : Au) (s e : Int) : Int := stI (wsA a) (LS (isWord (wsA a)) (wd (wsA a) s ++ [e]))
def stepA (a : Au) (s e : Int) : Int :=
  if 0 ≤ s ∧ s < a.parent.length ∧ 0 ≤ e ∧ e < 4000 ∧ rdb a.bad s = false ∧ (rd a.must s = -1 ∨ rd a.must s = e) then
    if rdb a.bad (goA a s e) = true then -1 else goA a s e
  else -1
theorem VA.wds {a : Au} (h : VA a) : Wds (wsA a) := wds_of (by have := h.n2; omega) h.so
theorem VA.trie {a : Au} (h : VA a) : Trie (wsA a) a.parent a.last := trie_of h.so h.n1 rfl h.l1
theorem VA.nil {a : Au} (h : VA a) : [] ∈ wsA a := List.mem_of_getElem? h.trie.root
theorem VA.len (a : Au) : (wsA a).length = a.parent.length := wsOf_length _ _ _
theorem VA.go {a : Au} (h : VA a) (s e : Int) : 0 ≤ goA a s e ∧ goA a s e < a.parent.length ∧ wd (wsA a) (goA a s e) = LS (isWord (wsA a)) (wd (wsA a) s ++ [e]) := by
  have hm : LS (isWord (wsA a)) (wd (wsA a) s ++ [e]) ∈ wsA a := isWord_iff.1 (LS_p h.trie.closed.1 _)
  have := stI_mem h.trie.rise hm
  rw [VA.len] at this
  exact this
theorem VA.wlen {a : Au} (h : VA a) {s : Int} (h0 : 0 ≤ s) (h1 : s < a.parent.length) : (wd (wsA a) s).length ≤ 402 := by
  unfold wsA
  rw [wsOf_W h0 h1]
  exact W_len (h.so _ (by omega))
theorem longest0_c {ws : List (List Int)} {l : List Int} (hW : Wds ws) (h0 : [] ∈ ws) (hl : l.length ≤ 1048576) :
    CallsF Try.prog 46 [.val (words ws), .val (ints l), .val (.v (.int .i64 0))] (.t (.v (.int .i64 (stI ws (LS (isWord ws) l))))) [] :=
  longest_c (k := 0) hW h0 hl (by omega)
theorem stepA_no {a : Au} {s e : Int} (h : ¬ (0 ≤ s ∧ s < a.parent.length ∧ 0 ≤ e ∧ e < 4000 ∧ rdb a.bad s = false ∧ (rd a.must s = -1 ∨ rd a.must s = e))) : stepA a s e = -1 := if_neg h
theorem stepA_bad {a : Au} {s e : Int} (h : rdb a.bad (goA a s e) = true) : stepA a s e = -1 := by
  unfold stepA
  rw [if_pos h]
  split <;> rfl
theorem stepA_go {a : Au} {s e : Int} (h : 0 ≤ s ∧ s < a.parent.length ∧ 0 ≤ e ∧ e < 4000 ∧ rdb a.bad s = false ∧ (rd a.must s = -1 ∨ rd a.must s = e)) (h2 : rdb a.bad (goA a s e) = false) : stepA a s e = goA a s e := by
  unfold stepA
  rw [if_pos h, if_neg (by rw [h2]; simp)]
/-- The code of spec.l3Step. -/
def k56 : Code1 :=
  (.seq
    (.region [4] false ([]) [
      ⟨some 4, Op.box 36 (Operand.tmp 0), none⟩,
      ⟨some 8, Op.assign (Operand.const (Value.int IntKind.i64 0)), none⟩])
    (.seq
      (.seq
        (.region [] false ([]) [
          ⟨some 10, Op.move (Operand.tmp 2), none⟩,
          ⟨some 11, Op.binOp BinOp.lss 2 (Operand.tmp 10) (Operand.const (Value.int IntKind.i64 0)) 2, none⟩,
          ⟨some 12, Op.move (Operand.tmp 11), none⟩,
          ⟨some 13, Op.move (Operand.tmp 2), some (12, false)⟩,
          ⟨some 14, Op.move (Operand.tmp 1), some (12, false)⟩,
          ⟨some 15, Op.call { callee := Callee.builtin Builtin.len, args := #[Operand.tmp 14], argTypes := #[68] }, some (12, false)⟩,
          ⟨some 16, Op.binOp BinOp.geq 2 (Operand.tmp 13) (Operand.tmp 15) 2, some (12, false)⟩,
          ⟨some 17, Op.pick (Operand.tmp 12) (Operand.const (Value.bool true)) (Operand.tmp 16), none⟩,
          ⟨some 18, Op.move (Operand.tmp 17), none⟩,
          ⟨some 19, Op.move (Operand.tmp 3), some (18, false)⟩,
          ⟨some 20, Op.binOp BinOp.lss 2 (Operand.tmp 19) (Operand.const (Value.int IntKind.i64 0)) 2, some (18, false)⟩,
          ⟨some 21, Op.pick (Operand.tmp 18) (Operand.const (Value.bool true)) (Operand.tmp 20), none⟩,
          ⟨some 22, Op.move (Operand.tmp 21), none⟩,
          ⟨some 23, Op.move (Operand.tmp 3), some (22, false)⟩,
          ⟨some 24, Op.binOp BinOp.geq 2 (Operand.tmp 23) (Operand.const (Value.int IntKind.i64 4000)) 2, some (22, false)⟩,
          ⟨some 25, Op.pick (Operand.tmp 22) (Operand.const (Value.bool true)) (Operand.tmp 24), none⟩])
        (.cond (Operand.tmp 25)
          (.seq
            (.region [] false ([]) [
              ⟨some 8, Op.assign (Operand.const (Value.int IntKind.i64 (-1))), none⟩])
            .ret)
          .skip))
      (.seq
        (.seq
          (.region [] false ([]) [
            ⟨some 26, Op.fieldAddr 36 (Operand.tmp 4) 4, none⟩,
            ⟨some 27, Op.load 31 (Operand.tmp 26), none⟩,
            ⟨some 28, Op.move (Operand.tmp 2), none⟩,
            ⟨some 29, Op.indexAddr 31 (Operand.tmp 27) (Operand.tmp 28), none⟩,
            ⟨some 30, Op.load 4 (Operand.tmp 29), none⟩,
            ⟨some 31, Op.move (Operand.tmp 30), none⟩,
            ⟨some 32, Op.fieldAddr 36 (Operand.tmp 4) 3, some (31, false)⟩,
            ⟨some 33, Op.load 22 (Operand.tmp 32), some (31, false)⟩,
            ⟨some 34, Op.move (Operand.tmp 2), some (31, false)⟩,
            ⟨some 35, Op.indexAddr 22 (Operand.tmp 33) (Operand.tmp 34), some (31, false)⟩,
            ⟨some 36, Op.load 2 (Operand.tmp 35), some (31, false)⟩,
            ⟨some 37, Op.binOp BinOp.neq 2 (Operand.tmp 36) (Operand.const (Value.int IntKind.i64 (-1))) 2, some (31, false)⟩,
            ⟨some 38, Op.move (Operand.tmp 37), some (31, false)⟩,
            ⟨some 39, Op.fieldAddr 36 (Operand.tmp 4) 3, some (38, true)⟩,
            ⟨some 40, Op.load 22 (Operand.tmp 39), some (38, true)⟩,
            ⟨some 41, Op.move (Operand.tmp 2), some (38, true)⟩,
            ⟨some 42, Op.indexAddr 22 (Operand.tmp 40) (Operand.tmp 41), some (38, true)⟩,
            ⟨some 43, Op.load 2 (Operand.tmp 42), some (38, true)⟩,
            ⟨some 44, Op.move (Operand.tmp 3), some (38, true)⟩,
            ⟨some 45, Op.binOp BinOp.neq 2 (Operand.tmp 43) (Operand.tmp 44) 2, some (38, true)⟩,
            ⟨some 46, Op.pick (Operand.tmp 38) (Operand.tmp 45) (Operand.const (Value.bool false)), some (31, false)⟩,
            ⟨some 47, Op.pick (Operand.tmp 31) (Operand.const (Value.bool true)) (Operand.tmp 46), none⟩])
          (.cond (Operand.tmp 47)
            (.seq
              (.region [] false ([]) [
                ⟨some 8, Op.assign (Operand.const (Value.int IntKind.i64 (-1))), none⟩])
              .ret)
            .skip))
        (.seq
          (.region [55, 56, 57] false ([]) [
            ⟨some 48, Op.move (Operand.tmp 1), none⟩,
            ⟨some 49, Op.move (Operand.tmp 1), none⟩,
            ⟨some 50, Op.move (Operand.tmp 2), none⟩,
            ⟨some 51, Op.indexAddr 68 (Operand.tmp 49) (Operand.tmp 50), none⟩,
            ⟨some 52, Op.fieldAddr 72 (Operand.tmp 51) 0, none⟩,
            ⟨some 53, Op.load 22 (Operand.tmp 52), none⟩,
            ⟨some 54, Op.move (Operand.tmp 3), none⟩,
            ⟨some 55, Op.buildSlice 22 1 #[(0, Operand.tmp 54)], none⟩,
            ⟨some 56, Op.call { callee := Callee.value (Operand.func 73), args := #[Operand.tmp 53, Operand.tmp 55], argTypes := #[22, 22] }, none⟩,
            ⟨some 57, Op.call { callee := Callee.value (Operand.func 46), args := #[Operand.tmp 48, Operand.tmp 56, Operand.const (Value.int IntKind.i64 0)], argTypes := #[68, 22, 3] }, none⟩,
            ⟨some 9, Op.assign (Operand.tmp 57), none⟩])
          (.seq
            (.seq
              (.region [] false ([]) [
                ⟨some 58, Op.fieldAddr 36 (Operand.tmp 4) 4, none⟩,
                ⟨some 59, Op.load 31 (Operand.tmp 58), none⟩,
                ⟨some 60, Op.move (Operand.tmp 9), none⟩,
                ⟨some 61, Op.indexAddr 31 (Operand.tmp 59) (Operand.tmp 60), none⟩,
                ⟨some 62, Op.load 4 (Operand.tmp 61), none⟩])
              (.cond (Operand.tmp 62)
                (.seq
                  (.region [] false ([]) [
                    ⟨some 8, Op.assign (Operand.const (Value.int IntKind.i64 (-1))), none⟩])
                  .ret)
                .skip))
            (.seq
              (.region [] false ([]) [
                ⟨some 63, Op.move (Operand.tmp 9), none⟩,
                ⟨some 8, Op.assign (Operand.tmp 63), none⟩])
              .ret))))))
set_option maxHeartbeats 2000000 in
theorem stepS_c (a : Au) (h : VA a) (s e : Int) (he : -9223372036854775808 ≤ e ∧ e < 9223372036854775808) :
    CallsF Try.prog 56 [.agg (encAu a), .val (words (wsA a)), .val (.v (.int .i64 s)), .val (.v (.int .i64 e))] (.t (.v (.int .i64 (stepA a s e)))) [] := by
  refine callsF_of_wp2 (fn := Try.f56) (k := k56) (fun _ => []) mixed (by kernel_rfl) rfl (by kernel_rfl) (by kernel_rfl) (by kernel_rfl) rfl (by simp [Try.f56]) (by simp [Arg.like]) ?_
  generalize hst : St.enter [.agg (encAu a), .val (words (wsA a)), .val (.v (.int .i64 s)), .val (.v (.int .i64 e))] = st0
  have t0 : st0.tm 0 = .agg ((encAu a) |>.map .t) := by rw [← hst]; rfl
  have t1 : st0.tm 1 = .t (words (wsA a)) := by rw [← hst]; rfl
  have t2 : st0.tm 2 = .t (.v (.int .i64 s)) := by rw [← hst]; rfl
  have t3 : st0.tm 3 = .t (.v (.int .i64 e)) := by rw [← hst]; rfl
  clear hst
  unfold k56
  simp [encAu] at t0
  have g := h.go s e
  have gd : stI (wsA a) (LS (isWord (wsA a)) (wd (wsA a) s ++ [e])) = goA a s e := rfl
  have wl := VA.len a
  have n2 := h.n2
  have l1 := h.l1
  have l2 := h.l2
  have l3 := h.l3
  have l4 := h.l4
  have wn : 0 ≤ s → s < a.parent.length → (wd (wsA a) s).length ≤ 402 := fun h0 h1 => h.wlen h0 h1
  have wn2 : (wd (wsA a) s ++ [e]).length = (wd (wsA a) s).length + 1 := by simp
  have wm : 0 ≤ s → wd (wsA a) (max s 0) = wd (wsA a) s := fun h0 => by rw [show max s 0 = s by omega]
  repeat' (first
    | (refine wp2_seq fun K hK => ?_)
    | (refine wp1_seq fun K hK => ?_)
    | (refine M_cons fun K hK => ?_)
    | (refine hK _ ?_; clear hK K)
    | (clear hK K; refine hK _ ?_; clear hK K)
    | (clear hK K; clear hK K; refine hK _ ?_; clear hK K)
    | (clear hK K; clear hK K; clear hK K; refine hK _ ?_; clear hK K)
    | (refine hX _ ?_; clear hX hY X Y)
    | (refine hY _ ?_; clear hX hY X Y)
    | (refine wp2_block ?_)
    | (refine wp1_block ?_)
    | (refine wp2_region ?_)
    | (refine wp1_region ?_)
    | (refine wp2_cond fun X Y hX hY => ?_)
    | (refine wp1_cond fun X Y hX hY => ?_)
    | (refine condK_of (fun c => ?_) (fun c => ?_) <;> (try simp [-List.length_eq_zero_iff] at c))
    | (refine guard1_or (fun c => ?_) (fun c => ?_) <;> (have cc := c) <;> (try simp [-List.length_eq_zero_iff] at cc) <;> (try simp (disch := omega) [t0, t1, t2, t3, gd, wm, c]))
    | (refine callT_fl (plus1_c _ _ ?_) (by simp [St.args, St.arg, t0, t1, t2, t3, gd, wm] <;> first | rfl | ((repeat' first | rfl | apply And.intro); done)) (by first | (simp [RV.flat, RV.flats, T.flat]; done) | ((repeat' first | exact flat_intRow _ | exact flat_boolRow _ | exact trivial | constructor | unfold RV.flat | unfold RV.flats); done)) (by simp [mutsOf]) ?_; omega)
    | (refine callT_fl (longest0_c h.wds h.nil ?_) (by simp [St.args, St.arg, t0, t1, t2, t3, gd, wm] <;> first | rfl | ((repeat' first | rfl | apply And.intro); done)) (by first | (simp [RV.flat, RV.flats, T.flat]; done) | ((repeat' first | exact flat_intRow _ | exact flat_boolRow _ | exact trivial | constructor | unfold RV.flat | unfold RV.flats); done)) (by simp [mutsOf]) ?_; omega)
    | (simp (disch := omega) [t0, t1, t2, t3, gd, wm]))
  all_goals try (simp [t0, t1, t2, t3, gd, wm, Back]; done)
  all_goals first
    | omega
    | (have hb : rdb a.bad (goA a s e) = true := by assumption
       have hv : stepA a s e = -1 := stepA_bad hb
       simp [Back, hv]; done)
    | (have hv : stepA a s e = -1 := stepA_no (by
         rintro ⟨v1, v2, v3, v4, v5, v6⟩
         simp_all only [decide_eq_true_eq, decide_eq_false_iff_not, bne_iff_ne, ne_eq, Int.not_lt, Int.not_le]
         first | omega | (rcases v6 with v6 | v6 <;> contradiction) | (simp_all; done))
       simp [Back, hv]; done)
    | (simp only [decide_eq_true_eq, decide_eq_false_iff_not, bne_iff_ne, ne_eq, Int.not_lt, Int.not_le, Decidable.not_not, bne_eq_false_iff_eq] at *
       have hv : stepA a s e = goA a s e := stepA_go ⟨by omega, by omega, by omega, by omega, by first | assumption | (simp_all; done), by first | omega | (simp_all; done)⟩ (by first | assumption | (simp_all; done))
       simp [Back, hv]; done)
    | skip
end Cal

set_option linter.unusedSimpArgs false
set_option linter.unusedVariables false
namespace Cal
open Go Go.Proofs Auto AC
set_option maxRecDepth 100000
theorem VA.len0 {a : Au} (h : VA a) {i : Nat} (hi : i < a.parent.length) : i < (wsA a).length := by rw [VA.len]; exact hi
/-- One link of the chain of failures. -/
theorem VA.link {a : Au} (h : VA a) {f : Nat} (hf : f < a.parent.length) {e : Int} :
    (∀ t, mget (arrK a.parent a.last a.parent.length) (.p f e) = some t → t = goA a f e) ∧
    (mget (arrK a.parent a.last a.parent.length) (.p f e) = none → (f = 0 → goA a f e = 0 ∧ rd a.fail f = -1) ∧ (f ≠ 0 → 0 ≤ rd a.fail f ∧ rd a.fail f < f ∧ goA a (rd a.fail f) e = goA a f e)) := by
  have T := h.trie
  have hF : FailsTo (wsA a) a.fail (wsA a).length := fails_of h.n1 h.l1 h.so h.fo
  have wf : wd (wsA a) f = (wsA a).getD f [] := wd_nat _ _
  have wl := VA.len a
  rw [mget_arrK]
  constructor
  · intro t ht
    rw [← wl] at ht
    obtain ⟨s, rfl, hs, hw⟩ := Trie.found T ht
    unfold goA
    rw [wf]
    exact (stI_at T.rise hs hw).symm
  · intro hn
    rw [← wl] at hn
    obtain ⟨z1, z2⟩ := Trie.link T (h.len0 hf) hn
    constructor
    · intro h0
      have hr : (wsA a).getD 0 [] = [] := by rw [List.getD_eq_getElem?_getD, T.root]; rfl
      subst h0
      refine ⟨?_, h.f0⟩
      unfold goA
      rw [wf, ← z1 rfl]
      have := stI_at T.rise T.pos hr
      exact this
    · intro h0
      obtain ⟨g, g1, g2, g3⟩ := hF f (by omega) (h.len0 hf)
      have e1 : rd a.fail f = g := by rw [rd_getD]; exact g1
      refine ⟨by omega, by omega, ?_⟩
      unfold goA
      rw [e1, wf, wd_nat, ← z2 h0, g3]
/-- The code of impl.step. -/
def k57 : Code1 :=
  (.seq
    (.region [4] false ([]) [
      ⟨some 4, Op.box 36 (Operand.tmp 0), none⟩,
      ⟨some 8, Op.assign (Operand.const (Value.int IntKind.i64 0)), none⟩])
    (.seq
      (.seq
        (.region [] false ([]) [
          ⟨some 13, Op.move (Operand.tmp 2), none⟩,
          ⟨some 14, Op.binOp BinOp.lss 2 (Operand.tmp 13) (Operand.const (Value.int IntKind.i64 0)) 2, none⟩,
          ⟨some 15, Op.move (Operand.tmp 14), none⟩,
          ⟨some 16, Op.move (Operand.tmp 2), some (15, false)⟩,
          ⟨some 17, Op.fieldAddr 36 (Operand.tmp 4) 0, some (15, false)⟩,
          ⟨some 18, Op.load 22 (Operand.tmp 17), some (15, false)⟩,
          ⟨some 19, Op.call { callee := Callee.builtin Builtin.len, args := #[Operand.tmp 18], argTypes := #[22] }, some (15, false)⟩,
          ⟨some 20, Op.binOp BinOp.geq 2 (Operand.tmp 16) (Operand.tmp 19) 2, some (15, false)⟩,
          ⟨some 21, Op.pick (Operand.tmp 15) (Operand.const (Value.bool true)) (Operand.tmp 20), none⟩,
          ⟨some 22, Op.move (Operand.tmp 21), none⟩,
          ⟨some 23, Op.move (Operand.tmp 3), some (22, false)⟩,
          ⟨some 24, Op.binOp BinOp.lss 2 (Operand.tmp 23) (Operand.const (Value.int IntKind.i64 0)) 2, some (22, false)⟩,
          ⟨some 25, Op.pick (Operand.tmp 22) (Operand.const (Value.bool true)) (Operand.tmp 24), none⟩,
          ⟨some 26, Op.move (Operand.tmp 25), none⟩,
          ⟨some 27, Op.move (Operand.tmp 3), some (26, false)⟩,
          ⟨some 28, Op.binOp BinOp.geq 2 (Operand.tmp 27) (Operand.const (Value.int IntKind.i64 4000)) 2, some (26, false)⟩,
          ⟨some 29, Op.pick (Operand.tmp 26) (Operand.const (Value.bool true)) (Operand.tmp 28), none⟩,
          ⟨some 30, Op.move (Operand.tmp 29), none⟩,
          ⟨some 31, Op.fieldAddr 36 (Operand.tmp 4) 4, some (30, false)⟩,
          ⟨some 32, Op.load 31 (Operand.tmp 31), some (30, false)⟩,
          ⟨some 33, Op.move (Operand.tmp 2), some (30, false)⟩,
          ⟨some 34, Op.indexAddr 31 (Operand.tmp 32) (Operand.tmp 33), some (30, false)⟩,
          ⟨some 35, Op.load 4 (Operand.tmp 34), some (30, false)⟩,
          ⟨some 36, Op.pick (Operand.tmp 30) (Operand.const (Value.bool true)) (Operand.tmp 35), none⟩,
          ⟨some 37, Op.move (Operand.tmp 36), none⟩,
          ⟨some 38, Op.fieldAddr 36 (Operand.tmp 4) 3, some (37, false)⟩,
          ⟨some 39, Op.load 22 (Operand.tmp 38), some (37, false)⟩,
          ⟨some 40, Op.move (Operand.tmp 2), some (37, false)⟩,
          ⟨some 41, Op.indexAddr 22 (Operand.tmp 39) (Operand.tmp 40), some (37, false)⟩,
          ⟨some 42, Op.load 2 (Operand.tmp 41), some (37, false)⟩,
          ⟨some 43, Op.binOp BinOp.neq 2 (Operand.tmp 42) (Operand.const (Value.int IntKind.i64 (-1))) 2, some (37, false)⟩,
          ⟨some 44, Op.move (Operand.tmp 43), some (37, false)⟩,
          ⟨some 45, Op.fieldAddr 36 (Operand.tmp 4) 3, some (44, true)⟩,
          ⟨some 46, Op.load 22 (Operand.tmp 45), some (44, true)⟩,
          ⟨some 47, Op.move (Operand.tmp 2), some (44, true)⟩,
          ⟨some 48, Op.indexAddr 22 (Operand.tmp 46) (Operand.tmp 47), some (44, true)⟩,
          ⟨some 49, Op.load 2 (Operand.tmp 48), some (44, true)⟩,
          ⟨some 50, Op.move (Operand.tmp 3), some (44, true)⟩,
          ⟨some 51, Op.binOp BinOp.neq 2 (Operand.tmp 49) (Operand.tmp 50) 2, some (44, true)⟩,
          ⟨some 52, Op.pick (Operand.tmp 44) (Operand.tmp 51) (Operand.const (Value.bool false)), some (37, false)⟩,
          ⟨some 53, Op.pick (Operand.tmp 37) (Operand.const (Value.bool true)) (Operand.tmp 52), none⟩])
        (.cond (Operand.tmp 53)
          (.seq
            (.region [] false ([]) [
              ⟨some 8, Op.assign (Operand.const (Value.int IntKind.i64 (-1))), none⟩])
            .ret)
          .skip))
      (.seq
        (.region [] false ([]) [
          ⟨some 9, Op.assign (Operand.const (Value.int IntKind.i64 0)), none⟩])
        (.seq
          (.seq
            (.region [] false ([]) [
              ⟨some 54, Op.move (Operand.tmp 2), none⟩,
              ⟨some 10, Op.assign (Operand.tmp 54), none⟩])
            (.block 0
              (.loop
                (.seq
                  (.seq
                    (.region [] false ([]) [
                      ⟨some 55, Op.move (Operand.tmp 10), none⟩,
                      ⟨some 56, Op.binOp BinOp.geq 2 (Operand.tmp 55) (Operand.const (Value.int IntKind.i64 0)) 2, none⟩])
                    (.cond (Operand.tmp 56)
                      .skip
                      (.exit 0)))
                  (.seq
                    (.block 1
                      (.seq
                        (.region [] false ([]) [
                          ⟨some 63, Op.move (Operand.tmp 1), none⟩,
                          ⟨some 64, Op.move (Operand.tmp 10), none⟩,
                          ⟨some 65, Op.move (Operand.tmp 3), none⟩,
                          ⟨some 66, Op.build 109 #[(0, Operand.tmp 64), (1, Operand.tmp 65)], none⟩,
                          ⟨some 67, Op.lookup 83 (Operand.tmp 63) (Operand.tmp 66) true, none⟩,
                          ⟨some 62, Op.move (Operand.tmp 67), none⟩,
                          ⟨some 68, Op.extract (Operand.tmp 62) 0, none⟩,
                          ⟨some 69, Op.extract (Operand.tmp 62) 1, none⟩,
                          ⟨some 11, Op.assign (Operand.tmp 68), none⟩,
                          ⟨some 12, Op.assign (Operand.tmp 69), none⟩])
                        (.seq
                          (.region [] false ([]) [
                            ⟨some 70, Op.move (Operand.tmp 12), none⟩])
                          (.cond (Operand.tmp 70)
                            (.seq
                              (.region [] false ([]) [
                                ⟨some 71, Op.move (Operand.tmp 11), none⟩,
                                ⟨some 9, Op.assign (Operand.tmp 71), none⟩])
                              (.exit 0))
                            .skip))))
                    (.region [] false ([]) [
                      ⟨some 57, Op.fieldAddr 36 (Operand.tmp 4) 2, none⟩,
                      ⟨some 58, Op.load 22 (Operand.tmp 57), none⟩,
                      ⟨some 59, Op.move (Operand.tmp 10), none⟩,
                      ⟨some 60, Op.indexAddr 22 (Operand.tmp 58) (Operand.tmp 59), none⟩,
                      ⟨some 61, Op.load 2 (Operand.tmp 60), none⟩,
                      ⟨some 10, Op.assign (Operand.tmp 61), none⟩]))))))
          (.seq
            (.seq
              (.region [] false ([]) [
                ⟨some 72, Op.fieldAddr 36 (Operand.tmp 4) 4, none⟩,
                ⟨some 73, Op.load 31 (Operand.tmp 72), none⟩,
                ⟨some 74, Op.move (Operand.tmp 9), none⟩,
                ⟨some 75, Op.indexAddr 31 (Operand.tmp 73) (Operand.tmp 74), none⟩,
                ⟨some 76, Op.load 4 (Operand.tmp 75), none⟩])
              (.cond (Operand.tmp 76)
                (.seq
                  (.region [] false ([]) [
                    ⟨some 8, Op.assign (Operand.const (Value.int IntKind.i64 (-1))), none⟩])
                  .ret)
                .skip))
            (.seq
              (.region [] false ([]) [
                ⟨some 77, Op.move (Operand.tmp 9), none⟩,
                ⟨some 8, Op.assign (Operand.tmp 77), none⟩])
              .ret))))))
set_option maxHeartbeats 2000000 in
theorem stepI_c (a : Au) (h : VA a) (s e : Int) (he : -9223372036854775808 ≤ e ∧ e < 9223372036854775808) :
    CallsF Try.prog 57 [.agg (encAu a), .val (.mp 1 (vmapT (Value.int .i64) (arrK a.parent a.last a.parent.length))), .val (.v (.int .i64 s)), .val (.v (.int .i64 e))] (.t (.v (.int .i64 (stepA a s e)))) [] := by
  refine callsF_of_wp2 (fn := Try.f57) (k := k57) (fun _ => []) mixed (by kernel_rfl) rfl (by kernel_rfl) (by kernel_rfl) (by kernel_rfl) rfl (by simp [Try.f57]) (by simp [Arg.like]) ?_
  generalize hst : St.enter [.agg (encAu a), .val (.mp 1 (vmapT (Value.int .i64) (arrK a.parent a.last a.parent.length))), .val (.v (.int .i64 s)), .val (.v (.int .i64 e))] = st0
  have t0 : st0.tm 0 = .agg ((encAu a) |>.map .t) := by rw [← hst]; rfl
  have t1 : st0.tm 1 = .t (.mp 1 (vmapT (Value.int .i64) (arrK a.parent a.last a.parent.length))) := by rw [← hst]; rfl
  have t2 : st0.tm 2 = .t (.v (.int .i64 s)) := by rw [← hst]; rfl
  have t3 : st0.tm 3 = .t (.v (.int .i64 e)) := by rw [← hst]; rfl
  clear hst
  unfold k57
  simp [encAu] at t0
  have g := h.go s e
  have n2 := h.n2
  have l1 := h.l1
  have l2 := h.l2
  have l3 := h.l3
  have l4 := h.l4
  repeat' (first
    | (refine wp2_seq fun K hK => ?_)
    | (refine wp1_seq fun K hK => ?_)
    | (refine M_cons fun K hK => ?_)
    | (refine hK _ ?_; clear hK K)
    | (clear hK K; refine hK _ ?_; clear hK K)
    | (clear hK K; clear hK K; refine hK _ ?_; clear hK K)
    | (clear hK K; clear hK K; clear hK K; refine hK _ ?_; clear hK K)
    | (refine hX _ ?_; clear hX hY X Y)
    | (refine hY _ ?_; clear hX hY X Y)
    | (refine wp2_block ?_)
    | (refine wp1_block ?_)
    | (refine wp2_region ?_)
    | (refine wp1_region ?_)
    | (refine wp2_cond fun X Y hX hY => ?_)
    | (refine wp1_cond fun X Y hX hY => ?_)
    | (refine condK_of (fun c => ?_) (fun c => ?_) <;> (try simp [-List.length_eq_zero_iff] at c))
    | (refine guard1_or (fun c => ?_) (fun c => ?_) <;> (have cc := c) <;> (try simp [-List.length_eq_zero_iff] at cc) <;> (try simp (disch := omega) [t0, t1, t2, t3, c]))
    | (simp (disch := omega) [t0, t1, t2, t3]))
  all_goals try (simp [t0, t1, t2, t3, Back]; done)
  all_goals try (have hv : stepA a s e = -1 := stepA_no (by
         rintro ⟨v1, v2, v3, v4, v5, v6⟩
         simp_all only [decide_eq_true_eq, decide_eq_false_iff_not, bne_iff_ne, ne_eq, Int.not_lt, Int.not_le]
         first | omega | (rcases v6 with v6 | v6 <;> contradiction) | (simp_all; done)); simp [Back, hv]; done)
  all_goals
    simp only [decide_eq_true_eq, decide_eq_false_iff_not, bne_iff_ne, ne_eq, Int.not_lt, Int.not_le, Decidable.not_not, bne_eq_false_iff_eq] at *
    have ok : 0 ≤ s ∧ s < a.parent.length ∧ 0 ≤ e ∧ e < 4000 ∧ rdb a.bad s = false ∧ (rd a.must s = -1 ∨ rd a.must s = e) := ⟨by omega, by omega, by omega, by omega, by first | assumption | (simp_all; done), by first | omega | (simp_all; done)⟩
    obtain ⟨k1, k2, k3, k4, k5, k6⟩ := ok
    have ok := And.intro k1 (And.intro k2 (And.intro k3 (And.intro k4 (And.intro k5 k6))))
    have hJ : ∀ st, st.tm 4 = .ptr (4, 0) 0 0 → st.ob (4, 0) = objAu a → st.tm 9 = .t (.v (.int .i64 (goA a s e))) → K st := by
      intro st s4 o4 s9
      simp only [objAu] at o4
      repeat' (first
        | (refine wp2_seq fun K hK => ?_)
        | (refine wp1_seq fun K hK => ?_)
        | (refine M_cons fun K hK => ?_)
        | (refine hK _ ?_; clear hK K)
        | (clear hK K; refine hK _ ?_; clear hK K)
        | (clear hK K; clear hK K; refine hK _ ?_; clear hK K)
        | (clear hK K; clear hK K; clear hK K; refine hK _ ?_; clear hK K)
        | (refine hX _ ?_; clear hX hY X Y)
        | (refine hY _ ?_; clear hX hY X Y)
        | (refine wp2_block ?_)
        | (refine wp1_block ?_)
        | (refine wp2_region ?_)
        | (refine wp1_region ?_)
        | (refine wp2_cond fun X Y hX hY => ?_)
        | (refine wp1_cond fun X Y hX hY => ?_)
        | (refine condK_of (fun c => ?_) (fun c => ?_) <;> (try simp [-List.length_eq_zero_iff] at c))
        | (refine guard1_or (fun c => ?_) (fun c => ?_) <;> (have cc := c) <;> (try simp [-List.length_eq_zero_iff] at cc) <;> (try simp (disch := omega) [s4, o4, s9, c]))
        | (simp (disch := omega) [s4, o4, s9]))
      all_goals try (simp [s4, o4, s9, Back]; done)
      all_goals first
        | omega
        | (have hb : rdb a.bad (goA a s e) = true := by assumption
           have hv : stepA a s e = -1 := stepA_bad hb
           simp [Back, hv]; done)
        | (have hb : rdb a.bad (goA a s e) = false := by first | assumption | (simp_all; done)
           have hv : stepA a s e = goA a s e := stepA_go ok hb
           simp [Back, hv]; done)
        | skip
    clear hK
    refine wp2_loop (fun n st => ∃ f : Int, st.tm 1 = .t (.mp 1 (vmapT (Value.int .i64) (arrK a.parent a.last a.parent.length))) ∧ st.tm 3 = .t (.v (.int .i64 e)) ∧ st.tm 4 = .ptr (4, 0) 0 0 ∧ st.ob (4, 0) = objAu a ∧ st.tm 9 = .t (.v (.int .i64 0)) ∧ st.tm 10 = .t (.v (.int .i64 f)) ∧ -1 ≤ f ∧ f < a.parent.length ∧ n = (f + 1).toNat ∧ (0 ≤ f → goA a f e = goA a s e) ∧ (f = -1 → goA a s e = 0)) (s + 1).toNat ?_ ?_
    · refine ⟨s, ?_⟩
      simp [t0, t1, t3, objAu]
      omega
    · rintro n st ⟨f, s1, s3, s4, o4, s9, s10, hf1, hf2, rfl, hg1, hg2⟩ K' hK'
      simp only [objAu] at o4
      by_cases hf : 0 ≤ f
      · obtain ⟨f, rfl⟩ : ∃ m : Nat, f = m := ⟨f.toNat, by omega⟩
        obtain ⟨lk1, lk2⟩ := h.link (f := f) (by omega) (e := e)
        have hg := hg1 hf
        cases hm : mget (arrK a.parent a.last a.parent.length) (.p f e) with
        | some t =>
          have ht := lk1 t hm
          rw [hg] at ht
          subst ht
          repeat' (first
            | (refine wp2_seq fun K hK => ?_)
            | (refine wp1_seq fun K hK => ?_)
            | (refine M_cons fun K hK => ?_)
            | (refine hK _ ?_; clear hK K)
            | (clear hK K; refine hK _ ?_; clear hK K)
            | (clear hK K; clear hK K; refine hK _ ?_; clear hK K)
            | (clear hK K; clear hK K; clear hK K; refine hK _ ?_; clear hK K)
            | (refine hX _ ?_; clear hX hY X Y)
            | (refine hY _ ?_; clear hX hY X Y)
            | (refine wp2_block ?_)
            | (refine wp1_block ?_)
            | (refine wp2_region ?_)
            | (refine wp1_region ?_)
            | (refine wp2_cond fun X Y hX hY => ?_)
            | (refine wp1_cond fun X Y hX hY => ?_)
            | (refine condK_of (fun c => ?_) (fun c => ?_) <;> (try simp [-List.length_eq_zero_iff] at c))
            | (refine guard1_or (fun c => ?_) (fun c => ?_) <;> (have cc := c) <;> (try simp [-List.length_eq_zero_iff] at cc) <;> (try simp (disch := omega) [s1, s3, s4, o4, s9, s10, hm, c]))
            | (simp (disch := omega) [s1, s3, s4, o4, s9, s10, hm]))
          all_goals try (simp [s1, s3, s4, o4, s9, s10, hm, Back]; done)
          all_goals first
            | omega
            | exact hJ _ (by simp [s4]) (by simp [o4, objAu]) (by simp)
        | none =>
          obtain ⟨q1, q2⟩ := lk2 hm
          have q3 : (rd a.fail f + 1).toNat < ((f : Int) + 1).toNat := by
            by_cases hf0 : f = 0
            · have := q1 hf0
              omega
            · have := q2 hf0
              omega
          repeat' (first
            | (refine wp2_seq fun K hK => ?_)
            | (refine wp1_seq fun K hK => ?_)
            | (refine M_cons fun K hK => ?_)
            | (refine hK _ ?_; clear hK K)
            | (clear hK K; refine hK _ ?_; clear hK K)
            | (clear hK K; clear hK K; refine hK _ ?_; clear hK K)
            | (clear hK K; clear hK K; clear hK K; refine hK _ ?_; clear hK K)
            | (refine hX _ ?_; clear hX hY X Y)
            | (refine hY _ ?_; clear hX hY X Y)
            | (refine wp2_block ?_)
            | (refine wp1_block ?_)
            | (refine wp2_region ?_)
            | (refine wp1_region ?_)
            | (refine wp2_cond fun X Y hX hY => ?_)
            | (refine wp1_cond fun X Y hX hY => ?_)
            | (refine condK_of (fun c => ?_) (fun c => ?_) <;> (try simp [-List.length_eq_zero_iff] at c))
            | (refine guard1_or (fun c => ?_) (fun c => ?_) <;> (have cc := c) <;> (try simp [-List.length_eq_zero_iff] at cc) <;> (try simp (disch := omega) [s1, s3, s4, o4, s9, s10, hm, c]))
            | (simp (disch := omega) [s1, s3, s4, o4, s9, s10, hm]))
          all_goals try (simp [s1, s3, s4, o4, s9, s10, hm, Back]; done)
          all_goals first
            | omega
            | (refine hK' ((rd a.fail f + 1).toNat) _ q3 ⟨rd a.fail f, ?_⟩
               simp [s1, s3, s4, o4, objAu, s9]
               by_cases hf0 : f = 0
               · have := q1 hf0
                 rw [hg] at this
                 refine ⟨by omega, by omega, fun hc => absurd hc (by omega), fun _ => this.1⟩
               · have := q2 hf0
                 rw [hg] at this
                 refine ⟨by omega, by omega, fun _ => this.2.2, fun hc => absurd hc (by omega)⟩)
            | skip
      · repeat' (first
          | (refine wp2_seq fun K hK => ?_)
          | (refine wp1_seq fun K hK => ?_)
          | (refine M_cons fun K hK => ?_)
          | (refine hK _ ?_; clear hK K)
          | (clear hK K; refine hK _ ?_; clear hK K)
          | (clear hK K; clear hK K; refine hK _ ?_; clear hK K)
          | (clear hK K; clear hK K; clear hK K; refine hK _ ?_; clear hK K)
          | (refine hX _ ?_; clear hX hY X Y)
          | (refine hY _ ?_; clear hX hY X Y)
          | (refine wp2_block ?_)
          | (refine wp1_block ?_)
          | (refine wp2_region ?_)
          | (refine wp1_region ?_)
          | (refine wp2_cond fun X Y hX hY => ?_)
          | (refine wp1_cond fun X Y hX hY => ?_)
          | (refine condK_of (fun c => ?_) (fun c => ?_) <;> (try simp [-List.length_eq_zero_iff] at c))
          | (refine guard1_or (fun c => ?_) (fun c => ?_) <;> (have cc := c) <;> (try simp [-List.length_eq_zero_iff] at cc) <;> (try simp (disch := omega) [s1, s3, s4, o4, s9, s10, c]))
          | (simp (disch := omega) [s1, s3, s4, o4, s9, s10]))
        all_goals try (simp [s1, s3, s4, o4, s9, s10, Back]; done)
        all_goals first
          | omega
          | exact hJ _ (by simp [s4]) (by simp [o4, objAu]) (by simp [s9, hg2 (by omega)])
end Cal

set_option linter.unusedSimpArgs false
set_option linter.unusedVariables false
namespace Cal
open Go Go.Proofs Auto AC
set_option maxRecDepth 100000
def lensA (a : Au) : Prop := a.parent.length ≤ 1048576 ∧ a.last.length ≤ 1048576 ∧ a.fail.length ≤ 1048576 ∧ a.must.length ≤ 1048576 ∧ a.bad.length ≤ 1048576
noncomputable def stepAll (a : Au) (s e : Int) : Int := if VA a then stepA a s e else -1
theorem spellA_c (a : Au) (h : VA a) : CallsF Try.prog 45 [.agg (encAu a)] (.own 1 (wordRow (wsA a))) [] :=
  spell_c a (k := a.parent.length) h.n2 h.l1 (Nat.le_refl _) h.so (fun hh => absurd hh (by omega))
theorem arrowsA_c (a : Au) (h : VA a) : CallsF Try.prog 58 [.val (ints a.parent), .val (ints a.last)] (.map 1 (vmapT (Value.int .i64) (arrK a.parent a.last a.parent.length))) [] := by
  have n2 := h.n2
  have l1 := h.l1
  have S := small_of h.so h.n1 rfl n2
  exact arrows_c _ _ (by omega) (by omega) (Trie.i64p h.trie S) (Trie.i64l h.trie S)
@[simp] theorem take_wordsA (a : Au) : (wordRow (wsA a)).take a.parent.length = wordRow (wsA a) := by
  have := take_wordRow (wsA a)
  rwa [VA.len] at this
/-- The code of spec.StepAuto. -/
def k32 : Code1 :=
  (.seq
    (.region [3] false ([]) [
      ⟨some 3, Op.box 36 (Operand.tmp 0), none⟩,
      ⟨some 6, Op.assign (Operand.const (Value.int IntKind.i64 0)), none⟩])
    (.seq
      (.seq
        (.region [8] false ([]) [
          ⟨some 7, Op.load 36 (Operand.tmp 3), none⟩,
          ⟨some 8, Op.call { callee := Callee.value (Operand.func 17), args := #[Operand.tmp 7], argTypes := #[36] }, none⟩,
          ⟨some 9, Op.unOp UnOp.not 4 (Operand.tmp 8), none⟩])
        (.cond (Operand.tmp 9)
          (.seq
            (.region [] false ([]) [
              ⟨some 6, Op.assign (Operand.const (Value.int IntKind.i64 (-1))), none⟩])
            .ret)
          .skip))
      (.seq
        (.region [12, 15] true ([]) [
          ⟨some 10, Op.load 36 (Operand.tmp 3), none⟩,
          ⟨some 11, Op.load 36 (Operand.tmp 3), none⟩,
          ⟨some 12, Op.call { callee := Callee.value (Operand.func 45), args := #[Operand.tmp 11], argTypes := #[36] }, none⟩,
          ⟨some 13, Op.move (Operand.tmp 1), none⟩,
          ⟨some 14, Op.move (Operand.tmp 2), none⟩,
          ⟨some 15, Op.call { callee := Callee.value (Operand.func 56), args := #[Operand.tmp 10, Operand.tmp 12, Operand.tmp 13, Operand.tmp 14], argTypes := #[36, 68, 2, 2] }, none⟩,
          ⟨some 6, Op.assign (Operand.tmp 15), none⟩])
        .ret)))
set_option maxHeartbeats 2000000 in
theorem sstep_c (a : Au) (hl : lensA a) (s e : Int) (he : -9223372036854775808 ≤ e ∧ e < 9223372036854775808) :
    CallsF Try.prog 32 [.agg (encAu a), .val (.v (.int .i64 s)), .val (.v (.int .i64 e))] (.t (.v (.int .i64 (stepAll a s e)))) [] := by
  obtain ⟨b1, b2, b3, b4, b5⟩ := hl
  refine callsF_of_wp2 (fn := Try.f32) (k := k32) (fun _ => []) mixed (by kernel_rfl) rfl (by kernel_rfl) (by kernel_rfl) (by kernel_rfl) rfl (by simp [Try.f32]) (by simp [Arg.like]) ?_
  generalize hst : St.enter [.agg (encAu a), .val (.v (.int .i64 s)), .val (.v (.int .i64 e))] = st0
  have t0 : st0.tm 0 = .agg ((encAu a) |>.map .t) := by rw [← hst]; rfl
  have t1 : st0.tm 1 = .t (.v (.int .i64 s)) := by rw [← hst]; rfl
  have t2 : st0.tm 2 = .t (.v (.int .i64 e)) := by rw [← hst]; rfl
  clear hst
  unfold k32
  simp [encAu] at t0
  have wl := VA.len a
  by_cases h : VA a
  · have n2 := h.n2
    have hv : stepAll a s e = stepA a s e := if_pos h
    repeat' (first
      | (refine wp2_seq fun K hK => ?_)
      | (refine wp1_seq fun K hK => ?_)
      | (refine M_cons fun K hK => ?_)
      | (refine hK _ ?_; clear hK K)
      | (clear hK K; refine hK _ ?_; clear hK K)
      | (clear hK K; clear hK K; refine hK _ ?_; clear hK K)
      | (clear hK K; clear hK K; clear hK K; refine hK _ ?_; clear hK K)
      | (refine hX _ ?_; clear hX hY X Y)
      | (refine hY _ ?_; clear hX hY X Y)
      | (refine wp2_block ?_)
      | (refine wp1_block ?_)
      | (refine wp2_region ?_)
      | (refine wp1_region ?_)
      | (refine wp2_cond fun X Y hX hY => ?_)
      | (refine wp1_cond fun X Y hX hY => ?_)
      | (refine condK_of (fun c => ?_) (fun c => ?_) <;> (try simp [-List.length_eq_zero_iff] at c))
      | (refine guard1_or (fun c => ?_) (fun c => ?_) <;> (have cc := c) <;> (try simp [-List.length_eq_zero_iff] at cc) <;> (try simp (disch := omega) [t0, t1, t2, encAu, h, hv, wl, c]))
      | (refine callT_fl (vaS a b1 b2 b3 b4 b5) (by simp [St.args, St.arg, t0, t1, t2, encAu, h, hv, wl] <;> first | rfl | ((repeat' first | rfl | apply And.intro); done)) (by first | (simp [RV.flat, RV.flats, T.flat]; done) | ((repeat' first | exact flat_intRow _ | exact flat_boolRow _ | exact trivial | constructor | unfold RV.flat | unfold RV.flats); done)) (by simp [mutsOf]) ?_)
      | (refine callT_gen false (spellA_c a h) (by simp) (by simp [St.args, St.arg, t0, t1, t2, encAu, h, hv, wl] <;> first | rfl | ((repeat' first | rfl | apply And.intro); done)) (by simp [apartArgs, mutsOf, noRow]) (by simp [callFrz, valsOf, outEff]) ?_)
      | (refine callT_fl (stepS_c a h s e he) (by simp [St.args, St.arg, t0, t1, t2, encAu, h, hv, wl] <;> first | rfl | ((repeat' first | rfl | apply And.intro); done)) (by first | (simp [RV.flat, RV.flats, T.flat]; done) | ((repeat' first | exact flat_intRow _ | exact flat_boolRow _ | exact trivial | constructor | unfold RV.flat | unfold RV.flats); done)) (by simp [mutsOf]) ?_)
      | (simp (disch := omega) [t0, t1, t2, encAu, h, hv, wl]))
    all_goals try (simp [t0, t1, t2, encAu, h, hv, wl, Back]; done)
  · have hv : stepAll a s e = -1 := if_neg h
    repeat' (first
      | (refine wp2_seq fun K hK => ?_)
      | (refine wp1_seq fun K hK => ?_)
      | (refine M_cons fun K hK => ?_)
      | (refine hK _ ?_; clear hK K)
      | (clear hK K; refine hK _ ?_; clear hK K)
      | (clear hK K; clear hK K; refine hK _ ?_; clear hK K)
      | (clear hK K; clear hK K; clear hK K; refine hK _ ?_; clear hK K)
      | (refine hX _ ?_; clear hX hY X Y)
      | (refine hY _ ?_; clear hX hY X Y)
      | (refine wp2_block ?_)
      | (refine wp1_block ?_)
      | (refine wp2_region ?_)
      | (refine wp1_region ?_)
      | (refine wp2_cond fun X Y hX hY => ?_)
      | (refine wp1_cond fun X Y hX hY => ?_)
      | (refine condK_of (fun c => ?_) (fun c => ?_) <;> (try simp [-List.length_eq_zero_iff] at c))
      | (refine guard1_or (fun c => ?_) (fun c => ?_) <;> (have cc := c) <;> (try simp [-List.length_eq_zero_iff] at cc) <;> (try simp (disch := omega) [t0, t1, t2, encAu, h, hv, c]))
      | (refine callT_fl (vaS a b1 b2 b3 b4 b5) (by simp [St.args, St.arg, t0, t1, t2, encAu, h, hv] <;> first | rfl | ((repeat' first | rfl | apply And.intro); done)) (by first | (simp [RV.flat, RV.flats, T.flat]; done) | ((repeat' first | exact flat_intRow _ | exact flat_boolRow _ | exact trivial | constructor | unfold RV.flat | unfold RV.flats); done)) (by simp [mutsOf]) ?_)
      | (simp (disch := omega) [t0, t1, t2, encAu, h, hv]))
    all_goals try (simp [t0, t1, t2, encAu, h, hv, Back]; done)
/-- The code of impl.StepAuto. -/
def k33 : Code1 :=
  (.seq
    (.region [3] false ([]) [
      ⟨some 3, Op.box 36 (Operand.tmp 0), none⟩,
      ⟨some 6, Op.assign (Operand.const (Value.int IntKind.i64 0)), none⟩])
    (.seq
      (.seq
        (.region [8] false ([]) [
          ⟨some 7, Op.load 36 (Operand.tmp 3), none⟩,
          ⟨some 8, Op.call { callee := Callee.value (Operand.func 19), args := #[Operand.tmp 7], argTypes := #[36] }, none⟩,
          ⟨some 9, Op.unOp UnOp.not 4 (Operand.tmp 8), none⟩])
        (.cond (Operand.tmp 9)
          (.seq
            (.region [] false ([]) [
              ⟨some 6, Op.assign (Operand.const (Value.int IntKind.i64 (-1))), none⟩])
            .ret)
          .skip))
      (.seq
        (.region [15, 18] true ([]) [
          ⟨some 10, Op.load 36 (Operand.tmp 3), none⟩,
          ⟨some 11, Op.fieldAddr 36 (Operand.tmp 3) 0, none⟩,
          ⟨some 12, Op.load 22 (Operand.tmp 11), none⟩,
          ⟨some 13, Op.fieldAddr 36 (Operand.tmp 3) 1, none⟩,
          ⟨some 14, Op.load 22 (Operand.tmp 13), none⟩,
          ⟨some 15, Op.call { callee := Callee.value (Operand.func 58), args := #[Operand.tmp 12, Operand.tmp 14], argTypes := #[22, 22] }, none⟩,
          ⟨some 16, Op.move (Operand.tmp 1), none⟩,
          ⟨some 17, Op.move (Operand.tmp 2), none⟩,
          ⟨some 18, Op.call { callee := Callee.value (Operand.func 57), args := #[Operand.tmp 10, Operand.tmp 15, Operand.tmp 16, Operand.tmp 17], argTypes := #[36, 83, 2, 2] }, none⟩,
          ⟨some 6, Op.assign (Operand.tmp 18), none⟩])
        .ret)))
set_option maxHeartbeats 2000000 in
theorem istep_c (a : Au) (hl : lensA a) (s e : Int) (he : -9223372036854775808 ≤ e ∧ e < 9223372036854775808) :
    CallsF Try.prog 33 [.agg (encAu a), .val (.v (.int .i64 s)), .val (.v (.int .i64 e))] (.t (.v (.int .i64 (stepAll a s e)))) [] := by
  obtain ⟨b1, b2, b3, b4, b5⟩ := hl
  refine callsF_of_wp2 (fn := Try.f33) (k := k33) (fun _ => []) mixed (by kernel_rfl) rfl (by kernel_rfl) (by kernel_rfl) (by kernel_rfl) rfl (by simp [Try.f33]) (by simp [Arg.like]) ?_
  generalize hst : St.enter [.agg (encAu a), .val (.v (.int .i64 s)), .val (.v (.int .i64 e))] = st0
  have t0 : st0.tm 0 = .agg ((encAu a) |>.map .t) := by rw [← hst]; rfl
  have t1 : st0.tm 1 = .t (.v (.int .i64 s)) := by rw [← hst]; rfl
  have t2 : st0.tm 2 = .t (.v (.int .i64 e)) := by rw [← hst]; rfl
  clear hst
  unfold k33
  simp [encAu] at t0
  by_cases h : VA a
  · have n2 := h.n2
    have hv : stepAll a s e = stepA a s e := if_pos h
    repeat' (first
      | (refine wp2_seq fun K hK => ?_)
      | (refine wp1_seq fun K hK => ?_)
      | (refine M_cons fun K hK => ?_)
      | (refine hK _ ?_; clear hK K)
      | (clear hK K; refine hK _ ?_; clear hK K)
      | (clear hK K; clear hK K; refine hK _ ?_; clear hK K)
      | (clear hK K; clear hK K; clear hK K; refine hK _ ?_; clear hK K)
      | (refine hX _ ?_; clear hX hY X Y)
      | (refine hY _ ?_; clear hX hY X Y)
      | (refine wp2_block ?_)
      | (refine wp1_block ?_)
      | (refine wp2_region ?_)
      | (refine wp1_region ?_)
      | (refine wp2_cond fun X Y hX hY => ?_)
      | (refine wp1_cond fun X Y hX hY => ?_)
      | (refine condK_of (fun c => ?_) (fun c => ?_) <;> (try simp [-List.length_eq_zero_iff] at c))
      | (refine guard1_or (fun c => ?_) (fun c => ?_) <;> (have cc := c) <;> (try simp [-List.length_eq_zero_iff] at cc) <;> (try simp (disch := omega) [t0, t1, t2, encAu, h, hv, c]))
      | (refine callT_fl (vaI a b1 b2 b3 b4 b5) (by simp [St.args, St.arg, t0, t1, t2, encAu, h, hv] <;> first | rfl | ((repeat' first | rfl | apply And.intro); done)) (by first | (simp [RV.flat, RV.flats, T.flat]; done) | ((repeat' first | exact flat_intRow _ | exact flat_boolRow _ | exact trivial | constructor | unfold RV.flat | unfold RV.flats); done)) (by simp [mutsOf]) ?_)
      | (refine callT_fl (arrowsA_c a h) (by simp [St.args, St.arg, t0, t1, t2, encAu, h, hv] <;> first | rfl | ((repeat' first | rfl | apply And.intro); done)) (by first | (simp [RV.flat, RV.flats, T.flat]; done) | ((repeat' first | exact flat_intRow _ | exact flat_boolRow _ | exact trivial | constructor | unfold RV.flat | unfold RV.flats); done)) (by simp [mutsOf]) ?_)
      | (refine callT_fl (stepI_c a h s e he) (by simp [St.args, St.arg, t0, t1, t2, encAu, h, hv] <;> first | rfl | ((repeat' first | rfl | apply And.intro); done)) (by first | (simp [RV.flat, RV.flats, T.flat]; done) | ((repeat' first | exact flat_intRow _ | exact flat_boolRow _ | exact trivial | constructor | unfold RV.flat | unfold RV.flats); done)) (by simp [mutsOf]) ?_)
      | (simp (disch := omega) [t0, t1, t2, encAu, h, hv]))
    all_goals try (simp [t0, t1, t2, encAu, h, hv, Back]; done)
  · have hv : stepAll a s e = -1 := if_neg h
    repeat' (first
      | (refine wp2_seq fun K hK => ?_)
      | (refine wp1_seq fun K hK => ?_)
      | (refine M_cons fun K hK => ?_)
      | (refine hK _ ?_; clear hK K)
      | (clear hK K; refine hK _ ?_; clear hK K)
      | (clear hK K; clear hK K; refine hK _ ?_; clear hK K)
      | (clear hK K; clear hK K; clear hK K; refine hK _ ?_; clear hK K)
      | (refine hX _ ?_; clear hX hY X Y)
      | (refine hY _ ?_; clear hX hY X Y)
      | (refine wp2_block ?_)
      | (refine wp1_block ?_)
      | (refine wp2_region ?_)
      | (refine wp1_region ?_)
      | (refine wp2_cond fun X Y hX hY => ?_)
      | (refine wp1_cond fun X Y hX hY => ?_)
      | (refine condK_of (fun c => ?_) (fun c => ?_) <;> (try simp [-List.length_eq_zero_iff] at c))
      | (refine guard1_or (fun c => ?_) (fun c => ?_) <;> (have cc := c) <;> (try simp [-List.length_eq_zero_iff] at cc) <;> (try simp (disch := omega) [t0, t1, t2, encAu, h, hv, c]))
      | (refine callT_fl (vaI a b1 b2 b3 b4 b5) (by simp [St.args, St.arg, t0, t1, t2, encAu, h, hv] <;> first | rfl | ((repeat' first | rfl | apply And.intro); done)) (by first | (simp [RV.flat, RV.flats, T.flat]; done) | ((repeat' first | exact flat_intRow _ | exact flat_boolRow _ | exact trivial | constructor | unfold RV.flat | unfold RV.flats); done)) (by simp [mutsOf]) ?_)
      | (simp (disch := omega) [t0, t1, t2, encAu, h, hv]))
    all_goals try (simp [t0, t1, t2, encAu, h, hv, Back]; done)
end Cal

set_option linter.unusedSimpArgs false
set_option linter.unusedVariables false
namespace Cal
open Go Go.Proofs Auto AC
set_option maxRecDepth 100000
def runA (a : Au) (s : Int) : List Int → Int
  | [] => s
  | e :: l => if stepA a s e < 0 then -1 else runA a (stepA a s e) l
noncomputable def runAll (a : Au) (l : List Int) : Int := if VA a ∧ l.length ≤ 10000 then runA a 0 l else -1
theorem runA_drop {a : Au} {s : Int} {l : List Int} {k : Nat} (h : k < l.length) : runA a s (l.drop k) = if stepA a s (rd l k) < 0 then -1 else runA a (stepA a s (rd l k)) (l.drop (k + 1)) := by
  rw [List.drop_eq_getElem_cons h, runA]
  have : rd l k = l[k] := by rw [rd_getD, List.getD_eq_getElem?_getD, List.getElem?_eq_getElem h]; rfl
  rw [this]
theorem stepA_range {a : Au} (h : VA a) (s e : Int) : -1 ≤ stepA a s e ∧ stepA a s e < 2000 := by
  have := h.go s e
  have := h.n2
  unfold stepA
  split
  · split <;> omega
  · omega
/-- The code of spec.RunAuto. -/
def k34 : Code1 :=
  (.seq
    (.region [2] false ([]) [
      ⟨some 2, Op.box 36 (Operand.tmp 0), none⟩,
      ⟨some 4, Op.assign (Operand.const (Value.int IntKind.i64 0)), none⟩])
    (.seq
      (.seq
        (.region [9] false ([]) [
          ⟨some 8, Op.load 36 (Operand.tmp 2), none⟩,
          ⟨some 9, Op.call { callee := Callee.value (Operand.func 17), args := #[Operand.tmp 8], argTypes := #[36] }, none⟩,
          ⟨some 10, Op.unOp UnOp.not 4 (Operand.tmp 9), none⟩,
          ⟨some 11, Op.move (Operand.tmp 10), none⟩,
          ⟨some 12, Op.move (Operand.tmp 1), some (11, false)⟩,
          ⟨some 13, Op.call { callee := Callee.builtin Builtin.len, args := #[Operand.tmp 12], argTypes := #[22] }, some (11, false)⟩,
          ⟨some 14, Op.binOp BinOp.gtr 3 (Operand.tmp 13) (Operand.const (Value.int IntKind.i64 10000)) 3, some (11, false)⟩,
          ⟨some 15, Op.pick (Operand.tmp 11) (Operand.const (Value.bool true)) (Operand.tmp 14), none⟩])
        (.cond (Operand.tmp 15)
          (.seq
            (.region [] false ([]) [
              ⟨some 4, Op.assign (Operand.const (Value.int IntKind.i64 (-1))), none⟩])
            .ret)
          .skip))
      (.seq
        (.region [17] false ([]) [
          ⟨some 16, Op.load 36 (Operand.tmp 2), none⟩,
          ⟨some 17, Op.call { callee := Callee.value (Operand.func 45), args := #[Operand.tmp 16], argTypes := #[36] }, none⟩,
          ⟨some 5, Op.assign (Operand.tmp 17), none⟩])
        (.seq
          (.region [] false ([]) [
            ⟨some 6, Op.assign (Operand.const (Value.int IntKind.i64 0)), none⟩])
          (.seq
            (.seq
              (.region [] false ([]) [
                ⟨some 7, Op.assign (Operand.const (Value.int IntKind.i64 0)), none⟩])
              (.block 0
                (.loop
                  (.seq
                    (.seq
                      (.region [] false ([]) [
                        ⟨some 18, Op.move (Operand.tmp 7), none⟩,
                        ⟨some 19, Op.move (Operand.tmp 1), none⟩,
                        ⟨some 20, Op.call { callee := Callee.builtin Builtin.len, args := #[Operand.tmp 19], argTypes := #[22] }, none⟩,
                        ⟨some 21, Op.binOp BinOp.lss 3 (Operand.tmp 18) (Operand.tmp 20) 3, none⟩])
                      (.cond (Operand.tmp 21)
                        .skip
                        (.exit 0)))
                    (.seq
                      (.block 1
                        (.seq
                          (.region [31] true ([]) [
                            ⟨some 24, Op.load 36 (Operand.tmp 2), none⟩,
                            ⟨some 25, Op.move (Operand.tmp 5), none⟩,
                            ⟨some 26, Op.move (Operand.tmp 6), none⟩,
                            ⟨some 27, Op.move (Operand.tmp 1), none⟩,
                            ⟨some 28, Op.move (Operand.tmp 7), none⟩,
                            ⟨some 29, Op.indexAddr 22 (Operand.tmp 27) (Operand.tmp 28), none⟩,
                            ⟨some 30, Op.load 2 (Operand.tmp 29), none⟩,
                            ⟨some 31, Op.call { callee := Callee.value (Operand.func 56), args := #[Operand.tmp 24, Operand.tmp 25, Operand.tmp 26, Operand.tmp 30], argTypes := #[36, 68, 2, 2] }, none⟩,
                            ⟨some 6, Op.assign (Operand.tmp 31), none⟩])
                          (.seq
                            (.region [] false ([]) [
                              ⟨some 32, Op.move (Operand.tmp 6), none⟩,
                              ⟨some 33, Op.binOp BinOp.lss 2 (Operand.tmp 32) (Operand.const (Value.int IntKind.i64 0)) 2, none⟩])
                            (.cond (Operand.tmp 33)
                              (.seq
                                (.region [] false ([]) [
                                  ⟨some 4, Op.assign (Operand.const (Value.int IntKind.i64 (-1))), none⟩])
                                .ret)
                              .skip))))
                      (.region [] false ([]) [
                        ⟨some 22, Op.move (Operand.tmp 7), none⟩,
                        ⟨some 23, Op.binOp BinOp.add 3 (Operand.tmp 22) (Operand.const (Value.int IntKind.i64 1)) 3, none⟩,
                        ⟨some 7, Op.assign (Operand.tmp 23), none⟩]))))))
            (.seq
              (.region [] false ([]) [
                ⟨some 34, Op.move (Operand.tmp 6), none⟩,
                ⟨some 4, Op.assign (Operand.tmp 34), none⟩])
              .ret))))))
set_option maxHeartbeats 2000000 in
theorem srun_c (a : Au) (hl : lensA a) (l : List Int) (hl2 : l.length ≤ 1048576) (he : I64 l) :
    CallsF Try.prog 34 [.agg (encAu a), .val (ints l)] (.t (.v (.int .i64 (runAll a l)))) [] := by
  obtain ⟨b1, b2, b3, b4, b5⟩ := hl
  refine callsF_of_wp2 (fn := Try.f34) (k := k34) (fun _ => []) mixed (by kernel_rfl) rfl (by kernel_rfl) (by kernel_rfl) (by kernel_rfl) rfl (by simp [Try.f34]) (by simp [Arg.like]) ?_
  generalize hst : St.enter [.agg (encAu a), .val (ints l)] = st0
  have t0 : st0.tm 0 = .agg ((encAu a) |>.map .t) := by rw [← hst]; rfl
  have t1 : st0.tm 1 = .t (ints l) := by rw [← hst]; rfl
  clear hst
  unfold k34
  simp [encAu] at t0
  have wl := VA.len a
  by_cases h : VA a ∧ l.length ≤ 10000
  · obtain ⟨h, hl3⟩ := h
    have n2 := h.n2
    have hv : runAll a l = runA a 0 l := if_pos ⟨h, hl3⟩
    repeat' (first
      | (refine wp2_seq fun K hK => ?_)
      | (refine wp1_seq fun K hK => ?_)
      | (refine M_cons fun K hK => ?_)
      | (refine hK _ ?_; clear hK K)
      | (clear hK K; refine hK _ ?_; clear hK K)
      | (clear hK K; clear hK K; refine hK _ ?_; clear hK K)
      | (clear hK K; clear hK K; clear hK K; refine hK _ ?_; clear hK K)
      | (refine hX _ ?_; clear hX hY X Y)
      | (refine hY _ ?_; clear hX hY X Y)
      | (refine wp2_block ?_)
      | (refine wp1_block ?_)
      | (refine wp2_region ?_)
      | (refine wp1_region ?_)
      | (refine wp2_cond fun X Y hX hY => ?_)
      | (refine wp1_cond fun X Y hX hY => ?_)
      | (refine condK_of (fun c => ?_) (fun c => ?_) <;> (try simp [-List.length_eq_zero_iff] at c))
      | (refine guard1_or (fun c => ?_) (fun c => ?_) <;> (have cc := c) <;> (try simp [-List.length_eq_zero_iff] at cc) <;> (try simp (disch := omega) [t0, t1, encAu, h, wl, c]))
      | (refine callT_fl (vaS a b1 b2 b3 b4 b5) (by simp [St.args, St.arg, t0, t1, encAu, h, wl] <;> first | rfl | ((repeat' first | rfl | apply And.intro); done)) (by first | (simp [RV.flat, RV.flats, T.flat]; done) | ((repeat' first | exact flat_intRow _ | exact flat_boolRow _ | exact trivial | constructor | unfold RV.flat | unfold RV.flats); done)) (by simp [mutsOf]) ?_)
      | (refine callT_gen false (spellA_c a h) (by simp) (by simp [St.args, St.arg, t0, t1, encAu, h, wl] <;> first | rfl | ((repeat' first | rfl | apply And.intro); done)) (by simp [apartArgs, mutsOf, noRow]) (by simp [callFrz, valsOf, outEff]) ?_)
      | (simp (disch := omega) [t0, t1, encAu, h, wl]))
    all_goals try (simp [t0, t1, encAu, h, wl, Back]; done)
    all_goals first | omega | skip
    have hJ : ∀ st, st.tm 6 = .t (.v (.int .i64 (runA a 0 l))) → K st := by
      intro st s6
      repeat' (first
        | (refine wp2_seq fun K hK => ?_)
        | (refine wp1_seq fun K hK => ?_)
        | (refine M_cons fun K hK => ?_)
        | (refine hK _ ?_; clear hK K)
        | (clear hK K; refine hK _ ?_; clear hK K)
        | (clear hK K; clear hK K; refine hK _ ?_; clear hK K)
        | (clear hK K; clear hK K; clear hK K; refine hK _ ?_; clear hK K)
        | (refine hX _ ?_; clear hX hY X Y)
        | (refine hY _ ?_; clear hX hY X Y)
        | (refine wp2_block ?_)
        | (refine wp1_block ?_)
        | (refine wp2_region ?_)
        | (refine wp1_region ?_)
        | (refine wp2_cond fun X Y hX hY => ?_)
        | (refine wp1_cond fun X Y hX hY => ?_)
        | (refine condK_of (fun c => ?_) (fun c => ?_) <;> (try simp [-List.length_eq_zero_iff] at c))
        | (refine guard1_or (fun c => ?_) (fun c => ?_) <;> (have cc := c) <;> (try simp [-List.length_eq_zero_iff] at cc) <;> (try simp (disch := omega) [s6, hv, c]))
        | (simp (disch := omega) [s6, hv]))
      all_goals try (simp [s6, hv, Back]; done)
    clear hK
    refine wp2_loop (fun n st => ∃ (k : Nat) (s : Int), st.tm 1 = .t (ints l) ∧ st.tm 2 = .ptr (2, 0) 0 0 ∧ st.ob (2, 0) = objAu a ∧ st.tm 5 = .row (17, 0) 1 0 a.parent.length ∧ st.ob (17, 0) = some (.row 1 (wordRow (wsA a))) ∧ st.tm 6 = .t (.v (.int .i64 s)) ∧ st.tm 7 = .t (.v (.int .i64 k)) ∧ k ≤ l.length ∧ n = l.length - k ∧ runA a s (l.drop k) = runA a 0 l) l.length ?_ ?_
    · refine ⟨0, 0, ?_⟩
      simp [t0, t1, objAu, wl]
    · rintro n st ⟨k, s, s1, s2, o2, s5, o5, s6, s7, hk, rfl, hr⟩ K' hK'
      simp only [objAu] at o2
      by_cases hlt : k < l.length
      · have r1 := runA_drop (a := a) (s := s) hlt
        have r2 := stepA_range h s (rd l k)
        repeat' (first
          | (refine wp2_seq fun K hK => ?_)
          | (refine wp1_seq fun K hK => ?_)
          | (refine M_cons fun K hK => ?_)
          | (refine hK _ ?_; clear hK K)
          | (clear hK K; refine hK _ ?_; clear hK K)
          | (clear hK K; clear hK K; refine hK _ ?_; clear hK K)
          | (clear hK K; clear hK K; clear hK K; refine hK _ ?_; clear hK K)
          | (refine hX _ ?_; clear hX hY X Y)
          | (refine hY _ ?_; clear hX hY X Y)
          | (refine wp2_block ?_)
          | (refine wp1_block ?_)
          | (refine wp2_region ?_)
          | (refine wp1_region ?_)
          | (refine wp2_cond fun X Y hX hY => ?_)
          | (refine wp1_cond fun X Y hX hY => ?_)
          | (refine condK_of (fun c => ?_) (fun c => ?_) <;> (try simp [-List.length_eq_zero_iff] at c))
          | (refine guard1_or (fun c => ?_) (fun c => ?_) <;> (have cc := c) <;> (try simp [-List.length_eq_zero_iff] at cc) <;> (try simp (disch := omega) [s1, s2, o2, s5, o5, s6, s7, encAu, c]))
          | (refine callT_fl (stepS_c a h s (rd l k) (he k (by omega) (by omega))) (by simp [St.args, St.arg, s1, s2, o2, s5, o5, s6, s7, encAu] <;> first | rfl | ((repeat' first | rfl | apply And.intro); done)) (by first | (simp [RV.flat, RV.flats, T.flat]; done) | ((repeat' first | exact flat_intRow _ | exact flat_boolRow _ | exact trivial | constructor | unfold RV.flat | unfold RV.flats); done)) (by simp [mutsOf]) ?_)
          | (simp (disch := omega) [s1, s2, o2, s5, o5, s6, s7, encAu]))
        all_goals try (simp [s1, s2, o2, s5, o5, s6, s7, encAu, Back]; done)
        all_goals first
          | omega
          | (have hc : stepA a s (rd l k) < 0 := by assumption
             rw [if_pos hc] at r1
             have hv2 : runAll a l = -1 := by rw [hv, ← hr, r1]
             simp [Back, hv2]; done)
          | (have hc : ¬ stepA a s (rd l k) < 0 := by omega
             rw [if_neg hc] at r1
             refine hK' (l.length - (k + 1)) _ (by omega) ⟨k + 1, stepA a s (rd l k), ?_⟩
             simp [s1, s2, o2, objAu, s5, o5]
             refine ⟨by omega, ?_⟩
             rw [← hr, r1])
          | skip
      · have hkl : k = l.length := by omega
        subst hkl
        rw [List.drop_length] at hr
        have hr2 : s = runA a 0 l := hr
        repeat' (first
          | (refine wp2_seq fun K hK => ?_)
          | (refine wp1_seq fun K hK => ?_)
          | (refine M_cons fun K hK => ?_)
          | (refine hK _ ?_; clear hK K)
          | (clear hK K; refine hK _ ?_; clear hK K)
          | (clear hK K; clear hK K; refine hK _ ?_; clear hK K)
          | (clear hK K; clear hK K; clear hK K; refine hK _ ?_; clear hK K)
          | (refine hX _ ?_; clear hX hY X Y)
          | (refine hY _ ?_; clear hX hY X Y)
          | (refine wp2_block ?_)
          | (refine wp1_block ?_)
          | (refine wp2_region ?_)
          | (refine wp1_region ?_)
          | (refine wp2_cond fun X Y hX hY => ?_)
          | (refine wp1_cond fun X Y hX hY => ?_)
          | (refine condK_of (fun c => ?_) (fun c => ?_) <;> (try simp [-List.length_eq_zero_iff] at c))
          | (refine guard1_or (fun c => ?_) (fun c => ?_) <;> (have cc := c) <;> (try simp [-List.length_eq_zero_iff] at cc) <;> (try simp (disch := omega) [s1, s2, o2, s5, o5, s6, s7, c]))
          | (simp (disch := omega) [s1, s2, o2, s5, o5, s6, s7]))
        all_goals try (simp [s1, s2, o2, s5, o5, s6, s7, Back]; done)
        all_goals first
          | omega
          | exact hJ _ (by simp [s6, hr2])
  · have hv : runAll a l = -1 := if_neg h
    by_cases hva : VA a
    · have hlen : 10000 < l.length := by
        rcases Nat.lt_or_ge 10000 l.length with h1 | h1
        · exact h1
        · exact absurd ⟨hva, h1⟩ h
      repeat' (first
        | (refine wp2_seq fun K hK => ?_)
        | (refine wp1_seq fun K hK => ?_)
        | (refine M_cons fun K hK => ?_)
        | (refine hK _ ?_; clear hK K)
        | (clear hK K; refine hK _ ?_; clear hK K)
        | (clear hK K; clear hK K; refine hK _ ?_; clear hK K)
        | (clear hK K; clear hK K; clear hK K; refine hK _ ?_; clear hK K)
        | (refine hX _ ?_; clear hX hY X Y)
        | (refine hY _ ?_; clear hX hY X Y)
        | (refine wp2_block ?_)
        | (refine wp1_block ?_)
        | (refine wp2_region ?_)
        | (refine wp1_region ?_)
        | (refine wp2_cond fun X Y hX hY => ?_)
        | (refine wp1_cond fun X Y hX hY => ?_)
        | (refine condK_of (fun c => ?_) (fun c => ?_) <;> (try simp [-List.length_eq_zero_iff] at c))
        | (refine guard1_or (fun c => ?_) (fun c => ?_) <;> (have cc := c) <;> (try simp [-List.length_eq_zero_iff] at cc) <;> (try simp (disch := omega) [t0, t1, encAu, hv, hva, c]))
        | (refine callT_fl (vaS a b1 b2 b3 b4 b5) (by simp [St.args, St.arg, t0, t1, encAu, hv, hva] <;> first | rfl | ((repeat' first | rfl | apply And.intro); done)) (by first | (simp [RV.flat, RV.flats, T.flat]; done) | ((repeat' first | exact flat_intRow _ | exact flat_boolRow _ | exact trivial | constructor | unfold RV.flat | unfold RV.flats); done)) (by simp [mutsOf]) ?_)
        | (simp (disch := omega) [t0, t1, encAu, hv, hva]))
      all_goals try (simp [t0, t1, encAu, hv, hva, Back]; done)
      all_goals first
        | omega
        | (simp [Back, hv]; done)
        | skip
    · repeat' (first
        | (refine wp2_seq fun K hK => ?_)
        | (refine wp1_seq fun K hK => ?_)
        | (refine M_cons fun K hK => ?_)
        | (refine hK _ ?_; clear hK K)
        | (clear hK K; refine hK _ ?_; clear hK K)
        | (clear hK K; clear hK K; refine hK _ ?_; clear hK K)
        | (clear hK K; clear hK K; clear hK K; refine hK _ ?_; clear hK K)
        | (refine hX _ ?_; clear hX hY X Y)
        | (refine hY _ ?_; clear hX hY X Y)
        | (refine wp2_block ?_)
        | (refine wp1_block ?_)
        | (refine wp2_region ?_)
        | (refine wp1_region ?_)
        | (refine wp2_cond fun X Y hX hY => ?_)
        | (refine wp1_cond fun X Y hX hY => ?_)
        | (refine condK_of (fun c => ?_) (fun c => ?_) <;> (try simp [-List.length_eq_zero_iff] at c))
        | (refine guard1_or (fun c => ?_) (fun c => ?_) <;> (have cc := c) <;> (try simp [-List.length_eq_zero_iff] at cc) <;> (try simp (disch := omega) [t0, t1, encAu, hv, hva, c]))
        | (refine callT_fl (vaS a b1 b2 b3 b4 b5) (by simp [St.args, St.arg, t0, t1, encAu, hv, hva] <;> first | rfl | ((repeat' first | rfl | apply And.intro); done)) (by first | (simp [RV.flat, RV.flats, T.flat]; done) | ((repeat' first | exact flat_intRow _ | exact flat_boolRow _ | exact trivial | constructor | unfold RV.flat | unfold RV.flats); done)) (by simp [mutsOf]) ?_)
        | (simp (disch := omega) [t0, t1, encAu, hv, hva]))
      all_goals try (simp [t0, t1, encAu, hv, hva, Back]; done)
      all_goals first
        | omega
        | (simp [Back, hv]; done)
        | skip
/-- The code of impl.RunAuto. -/
def k35 : Code1 :=
  (.seq
    (.region [2] false ([]) [
      ⟨some 2, Op.box 36 (Operand.tmp 0), none⟩,
      ⟨some 4, Op.assign (Operand.const (Value.int IntKind.i64 0)), none⟩])
    (.seq
      (.seq
        (.region [10] false ([]) [
          ⟨some 9, Op.load 36 (Operand.tmp 2), none⟩,
          ⟨some 10, Op.call { callee := Callee.value (Operand.func 19), args := #[Operand.tmp 9], argTypes := #[36] }, none⟩,
          ⟨some 11, Op.unOp UnOp.not 4 (Operand.tmp 10), none⟩,
          ⟨some 12, Op.move (Operand.tmp 11), none⟩,
          ⟨some 13, Op.move (Operand.tmp 1), some (12, false)⟩,
          ⟨some 14, Op.call { callee := Callee.builtin Builtin.len, args := #[Operand.tmp 13], argTypes := #[22] }, some (12, false)⟩,
          ⟨some 15, Op.binOp BinOp.gtr 3 (Operand.tmp 14) (Operand.const (Value.int IntKind.i64 10000)) 3, some (12, false)⟩,
          ⟨some 16, Op.pick (Operand.tmp 12) (Operand.const (Value.bool true)) (Operand.tmp 15), none⟩])
        (.cond (Operand.tmp 16)
          (.seq
            (.region [] false ([]) [
              ⟨some 4, Op.assign (Operand.const (Value.int IntKind.i64 (-1))), none⟩])
            .ret)
          .skip))
      (.seq
        (.region [21] false ([]) [
          ⟨some 17, Op.fieldAddr 36 (Operand.tmp 2) 0, none⟩,
          ⟨some 18, Op.load 22 (Operand.tmp 17), none⟩,
          ⟨some 19, Op.fieldAddr 36 (Operand.tmp 2) 1, none⟩,
          ⟨some 20, Op.load 22 (Operand.tmp 19), none⟩,
          ⟨some 21, Op.call { callee := Callee.value (Operand.func 58), args := #[Operand.tmp 18, Operand.tmp 20], argTypes := #[22, 22] }, none⟩,
          ⟨some 5, Op.assign (Operand.tmp 21), none⟩])
        (.seq
          (.region [] false ([]) [
            ⟨some 6, Op.assign (Operand.const (Value.int IntKind.i64 0)), none⟩])
          (.seq
            (.seq
              (.region [] false ([]) [
                ⟨some 22, Op.move (Operand.tmp 1), none⟩,
                ⟨some 23, Op.call { callee := Callee.builtin Builtin.len, args := #[Operand.tmp 22], argTypes := #[22] }, none⟩,
                ⟨some 24, Op.move (Operand.const (Value.int IntKind.i64 0)), none⟩])
              (.block 0
                (.loop
                  (.seq
                    (.region [] false ([]) [
                      ⟨some 25, Op.binOp BinOp.lss 3 (Operand.tmp 24) (Operand.tmp 23) 3, none⟩])
                    (.seq
                      (.cond (Operand.tmp 25)
                        .skip
                        (.exit 0))
                      (.seq
                        (.block 1
                          (.seq
                            (.region [] false ([]) [
                              ⟨some 26, Op.indexAddr 22 (Operand.tmp 22) (Operand.tmp 24), none⟩,
                              ⟨some 27, Op.load 2 (Operand.tmp 26), none⟩,
                              ⟨some 8, Op.assign (Operand.tmp 27), none⟩])
                            (.seq
                              (.region [32] false ([]) [
                                ⟨some 28, Op.load 36 (Operand.tmp 2), none⟩,
                                ⟨some 29, Op.move (Operand.tmp 5), none⟩,
                                ⟨some 30, Op.move (Operand.tmp 6), none⟩,
                                ⟨some 31, Op.move (Operand.tmp 8), none⟩,
                                ⟨some 32, Op.call { callee := Callee.value (Operand.func 57), args := #[Operand.tmp 28, Operand.tmp 29, Operand.tmp 30, Operand.tmp 31], argTypes := #[36, 83, 2, 2] }, none⟩,
                                ⟨some 6, Op.assign (Operand.tmp 32), none⟩])
                              (.seq
                                (.region [] false ([]) [
                                  ⟨some 33, Op.move (Operand.tmp 6), none⟩,
                                  ⟨some 34, Op.binOp BinOp.lss 2 (Operand.tmp 33) (Operand.const (Value.int IntKind.i64 0)) 2, none⟩])
                                (.cond (Operand.tmp 34)
                                  (.seq
                                    (.region [] false ([]) [
                                      ⟨some 4, Op.assign (Operand.const (Value.int IntKind.i64 (-1))), none⟩])
                                    .ret)
                                  .skip)))))
                        (.region [] false ([]) [
                          ⟨some 35, Op.binOp BinOp.add 3 (Operand.tmp 24) (Operand.const (Value.int IntKind.i64 1)) 3, none⟩,
                          ⟨some 24, Op.move (Operand.tmp 35), none⟩])))))))
            (.seq
              (.region [] false ([]) [
                ⟨some 36, Op.move (Operand.tmp 6), none⟩,
                ⟨some 4, Op.assign (Operand.tmp 36), none⟩])
              .ret))))))
set_option maxHeartbeats 2000000 in
theorem irun_c (a : Au) (hl : lensA a) (l : List Int) (hl2 : l.length ≤ 1048576) (he : I64 l) :
    CallsF Try.prog 35 [.agg (encAu a), .val (ints l)] (.t (.v (.int .i64 (runAll a l)))) [] := by
  obtain ⟨b1, b2, b3, b4, b5⟩ := hl
  refine callsF_of_wp2 (fn := Try.f35) (k := k35) (fun _ => []) mixed (by kernel_rfl) rfl (by kernel_rfl) (by kernel_rfl) (by kernel_rfl) rfl (by simp [Try.f35]) (by simp [Arg.like]) ?_
  generalize hst : St.enter [.agg (encAu a), .val (ints l)] = st0
  have t0 : st0.tm 0 = .agg ((encAu a) |>.map .t) := by rw [← hst]; rfl
  have t1 : st0.tm 1 = .t (ints l) := by rw [← hst]; rfl
  clear hst
  unfold k35
  simp [encAu] at t0
  have wl := VA.len a
  by_cases h : VA a ∧ l.length ≤ 10000
  · obtain ⟨h, hl3⟩ := h
    have n2 := h.n2
    have hv : runAll a l = runA a 0 l := if_pos ⟨h, hl3⟩
    repeat' (first
      | (refine wp2_seq fun K hK => ?_)
      | (refine wp1_seq fun K hK => ?_)
      | (refine M_cons fun K hK => ?_)
      | (refine hK _ ?_; clear hK K)
      | (clear hK K; refine hK _ ?_; clear hK K)
      | (clear hK K; clear hK K; refine hK _ ?_; clear hK K)
      | (clear hK K; clear hK K; clear hK K; refine hK _ ?_; clear hK K)
      | (refine hX _ ?_; clear hX hY X Y)
      | (refine hY _ ?_; clear hX hY X Y)
      | (refine wp2_block ?_)
      | (refine wp1_block ?_)
      | (refine wp2_region ?_)
      | (refine wp1_region ?_)
      | (refine wp2_cond fun X Y hX hY => ?_)
      | (refine wp1_cond fun X Y hX hY => ?_)
      | (refine condK_of (fun c => ?_) (fun c => ?_) <;> (try simp [-List.length_eq_zero_iff] at c))
      | (refine guard1_or (fun c => ?_) (fun c => ?_) <;> (have cc := c) <;> (try simp [-List.length_eq_zero_iff] at cc) <;> (try simp (disch := omega) [t0, t1, encAu, h, wl, c]))
      | (refine callT_fl (vaI a b1 b2 b3 b4 b5) (by simp [St.args, St.arg, t0, t1, encAu, h, wl] <;> first | rfl | ((repeat' first | rfl | apply And.intro); done)) (by first | (simp [RV.flat, RV.flats, T.flat]; done) | ((repeat' first | exact flat_intRow _ | exact flat_boolRow _ | exact trivial | constructor | unfold RV.flat | unfold RV.flats); done)) (by simp [mutsOf]) ?_)
      | (refine callT_fl (arrowsA_c a h) (by simp [St.args, St.arg, t0, t1, encAu, h, wl] <;> first | rfl | ((repeat' first | rfl | apply And.intro); done)) (by first | (simp [RV.flat, RV.flats, T.flat]; done) | ((repeat' first | exact flat_intRow _ | exact flat_boolRow _ | exact trivial | constructor | unfold RV.flat | unfold RV.flats); done)) (by simp [mutsOf]) ?_)
      | (simp (disch := omega) [t0, t1, encAu, h, wl]))
    all_goals try (simp [t0, t1, encAu, h, wl, Back]; done)
    all_goals first | omega | skip
    have hJ : ∀ st, st.tm 6 = .t (.v (.int .i64 (runA a 0 l))) → K st := by
      intro st s6
      repeat' (first
        | (refine wp2_seq fun K hK => ?_)
        | (refine wp1_seq fun K hK => ?_)
        | (refine M_cons fun K hK => ?_)
        | (refine hK _ ?_; clear hK K)
        | (clear hK K; refine hK _ ?_; clear hK K)
        | (clear hK K; clear hK K; refine hK _ ?_; clear hK K)
        | (clear hK K; clear hK K; clear hK K; refine hK _ ?_; clear hK K)
        | (refine hX _ ?_; clear hX hY X Y)
        | (refine hY _ ?_; clear hX hY X Y)
        | (refine wp2_block ?_)
        | (refine wp1_block ?_)
        | (refine wp2_region ?_)
        | (refine wp1_region ?_)
        | (refine wp2_cond fun X Y hX hY => ?_)
        | (refine wp1_cond fun X Y hX hY => ?_)
        | (refine condK_of (fun c => ?_) (fun c => ?_) <;> (try simp [-List.length_eq_zero_iff] at c))
        | (refine guard1_or (fun c => ?_) (fun c => ?_) <;> (have cc := c) <;> (try simp [-List.length_eq_zero_iff] at cc) <;> (try simp (disch := omega) [s6, hv, c]))
        | (simp (disch := omega) [s6, hv]))
      all_goals try (simp [s6, hv, Back]; done)
    clear hK
    refine wp2_loop (fun n st => ∃ (k : Nat) (s : Int), st.tm 22 = .t (ints l) ∧ st.tm 23 = .t (.v (.int .i64 l.length)) ∧ st.tm 2 = .ptr (2, 0) 0 0 ∧ st.ob (2, 0) = objAu a ∧ st.tm 5 = .mp (21, 0) ∧ st.ob (21, 0) = some (.map 1 (vmap (Value.int .i64) (arrK a.parent a.last a.parent.length))) ∧ st.tm 6 = .t (.v (.int .i64 s)) ∧ st.tm 24 = .t (.v (.int .i64 k)) ∧ k ≤ l.length ∧ n = l.length - k ∧ runA a s (l.drop k) = runA a 0 l) l.length ?_ ?_
    · refine ⟨0, 0, ?_⟩
      simp [t0, t1, objAu, wl]
    · rintro n st ⟨k, s, s1, sl, s2, o2, s5, o5, s6, s7, hk, rfl, hr⟩ K' hK'
      simp only [objAu] at o2
      by_cases hlt : k < l.length
      · have r1 := runA_drop (a := a) (s := s) hlt
        have r2 := stepA_range h s (rd l k)
        repeat' (first
          | (refine wp2_seq fun K hK => ?_)
          | (refine wp1_seq fun K hK => ?_)
          | (refine M_cons fun K hK => ?_)
          | (refine hK _ ?_; clear hK K)
          | (clear hK K; refine hK _ ?_; clear hK K)
          | (clear hK K; clear hK K; refine hK _ ?_; clear hK K)
          | (clear hK K; clear hK K; clear hK K; refine hK _ ?_; clear hK K)
          | (refine hX _ ?_; clear hX hY X Y)
          | (refine hY _ ?_; clear hX hY X Y)
          | (refine wp2_block ?_)
          | (refine wp1_block ?_)
          | (refine wp2_region ?_)
          | (refine wp1_region ?_)
          | (refine wp2_cond fun X Y hX hY => ?_)
          | (refine wp1_cond fun X Y hX hY => ?_)
          | (refine condK_of (fun c => ?_) (fun c => ?_) <;> (try simp [-List.length_eq_zero_iff] at c))
          | (refine guard1_or (fun c => ?_) (fun c => ?_) <;> (have cc := c) <;> (try simp [-List.length_eq_zero_iff] at cc) <;> (try simp (disch := omega) [s1, sl, s2, o2, s5, o5, s6, s7, encAu, c]))
          | (refine callT_fl (stepI_c a h s (rd l k) (he k (by omega) (by omega))) (by simp [St.args, St.arg, s1, sl, s2, o2, s5, o5, s6, s7, encAu] <;> first | rfl | ((repeat' first | rfl | apply And.intro); done)) (by first | (simp [RV.flat, RV.flats, T.flat]; done) | ((repeat' first | exact flat_intRow _ | exact flat_boolRow _ | exact trivial | constructor | unfold RV.flat | unfold RV.flats); done)) (by simp [mutsOf]) ?_)
          | (simp (disch := omega) [s1, sl, s2, o2, s5, o5, s6, s7, encAu]))
        all_goals try (simp [s1, sl, s2, o2, s5, o5, s6, s7, encAu, Back]; done)
        all_goals first
          | omega
          | (have hc : stepA a s (rd l k) < 0 := by assumption
             rw [if_pos hc] at r1
             have hv2 : runAll a l = -1 := by rw [hv, ← hr, r1]
             simp [Back, hv2]; done)
          | (have hc : ¬ stepA a s (rd l k) < 0 := by omega
             rw [if_neg hc] at r1
             refine hK' (l.length - (k + 1)) _ (by omega) ⟨k + 1, stepA a s (rd l k), ?_⟩
             simp [s1, sl, s2, o2, objAu, s5, o5]
             refine ⟨by omega, ?_⟩
             rw [← hr, r1])
          | skip
      · have hkl : k = l.length := by omega
        subst hkl
        rw [List.drop_length] at hr
        have hr2 : s = runA a 0 l := hr
        repeat' (first
          | (refine wp2_seq fun K hK => ?_)
          | (refine wp1_seq fun K hK => ?_)
          | (refine M_cons fun K hK => ?_)
          | (refine hK _ ?_; clear hK K)
          | (clear hK K; refine hK _ ?_; clear hK K)
          | (clear hK K; clear hK K; refine hK _ ?_; clear hK K)
          | (clear hK K; clear hK K; clear hK K; refine hK _ ?_; clear hK K)
          | (refine hX _ ?_; clear hX hY X Y)
          | (refine hY _ ?_; clear hX hY X Y)
          | (refine wp2_block ?_)
          | (refine wp1_block ?_)
          | (refine wp2_region ?_)
          | (refine wp1_region ?_)
          | (refine wp2_cond fun X Y hX hY => ?_)
          | (refine wp1_cond fun X Y hX hY => ?_)
          | (refine condK_of (fun c => ?_) (fun c => ?_) <;> (try simp [-List.length_eq_zero_iff] at c))
          | (refine guard1_or (fun c => ?_) (fun c => ?_) <;> (have cc := c) <;> (try simp [-List.length_eq_zero_iff] at cc) <;> (try simp (disch := omega) [s1, sl, s2, o2, s5, o5, s6, s7, c]))
          | (simp (disch := omega) [s1, sl, s2, o2, s5, o5, s6, s7]))
        all_goals try (simp [s1, sl, s2, o2, s5, o5, s6, s7, Back]; done)
        all_goals first
          | omega
          | exact hJ _ (by simp [s6, hr2])
  · have hv : runAll a l = -1 := if_neg h
    by_cases hva : VA a
    · have hlen : 10000 < l.length := by
        rcases Nat.lt_or_ge 10000 l.length with h1 | h1
        · exact h1
        · exact absurd ⟨hva, h1⟩ h
      repeat' (first
        | (refine wp2_seq fun K hK => ?_)
        | (refine wp1_seq fun K hK => ?_)
        | (refine M_cons fun K hK => ?_)
        | (refine hK _ ?_; clear hK K)
        | (clear hK K; refine hK _ ?_; clear hK K)
        | (clear hK K; clear hK K; refine hK _ ?_; clear hK K)
        | (clear hK K; clear hK K; clear hK K; refine hK _ ?_; clear hK K)
        | (refine hX _ ?_; clear hX hY X Y)
        | (refine hY _ ?_; clear hX hY X Y)
        | (refine wp2_block ?_)
        | (refine wp1_block ?_)
        | (refine wp2_region ?_)
        | (refine wp1_region ?_)
        | (refine wp2_cond fun X Y hX hY => ?_)
        | (refine wp1_cond fun X Y hX hY => ?_)
        | (refine condK_of (fun c => ?_) (fun c => ?_) <;> (try simp [-List.length_eq_zero_iff] at c))
        | (refine guard1_or (fun c => ?_) (fun c => ?_) <;> (have cc := c) <;> (try simp [-List.length_eq_zero_iff] at cc) <;> (try simp (disch := omega) [t0, t1, encAu, hv, hva, c]))
        | (refine callT_fl (vaI a b1 b2 b3 b4 b5) (by simp [St.args, St.arg, t0, t1, encAu, hv, hva] <;> first | rfl | ((repeat' first | rfl | apply And.intro); done)) (by first | (simp [RV.flat, RV.flats, T.flat]; done) | ((repeat' first | exact flat_intRow _ | exact flat_boolRow _ | exact trivial | constructor | unfold RV.flat | unfold RV.flats); done)) (by simp [mutsOf]) ?_)
        | (simp (disch := omega) [t0, t1, encAu, hv, hva]))
      all_goals try (simp [t0, t1, encAu, hv, hva, Back]; done)
      all_goals first
        | omega
        | (simp [Back, hv]; done)
        | skip
    · repeat' (first
        | (refine wp2_seq fun K hK => ?_)
        | (refine wp1_seq fun K hK => ?_)
        | (refine M_cons fun K hK => ?_)
        | (refine hK _ ?_; clear hK K)
        | (clear hK K; refine hK _ ?_; clear hK K)
        | (clear hK K; clear hK K; refine hK _ ?_; clear hK K)
        | (clear hK K; clear hK K; clear hK K; refine hK _ ?_; clear hK K)
        | (refine hX _ ?_; clear hX hY X Y)
        | (refine hY _ ?_; clear hX hY X Y)
        | (refine wp2_block ?_)
        | (refine wp1_block ?_)
        | (refine wp2_region ?_)
        | (refine wp1_region ?_)
        | (refine wp2_cond fun X Y hX hY => ?_)
        | (refine wp1_cond fun X Y hX hY => ?_)
        | (refine condK_of (fun c => ?_) (fun c => ?_) <;> (try simp [-List.length_eq_zero_iff] at c))
        | (refine guard1_or (fun c => ?_) (fun c => ?_) <;> (have cc := c) <;> (try simp [-List.length_eq_zero_iff] at cc) <;> (try simp (disch := omega) [t0, t1, encAu, hv, hva, c]))
        | (refine callT_fl (vaI a b1 b2 b3 b4 b5) (by simp [St.args, St.arg, t0, t1, encAu, hv, hva] <;> first | rfl | ((repeat' first | rfl | apply And.intro); done)) (by first | (simp [RV.flat, RV.flats, T.flat]; done) | ((repeat' first | exact flat_intRow _ | exact flat_boolRow _ | exact trivial | constructor | unfold RV.flat | unfold RV.flats); done)) (by simp [mutsOf]) ?_)
        | (simp (disch := omega) [t0, t1, encAu, hv, hva]))
      all_goals try (simp [t0, t1, encAu, hv, hva, Back]; done)
      all_goals first
        | omega
        | (simp [Back, hv]; done)
        | skip
end Cal

set_option linter.unusedSimpArgs false
set_option linter.unusedVariables false
namespace Cal
open Go Go.Proofs Auto AC
set_option maxRecDepth 100000
/-- The code of laws.szBoolS. -/
def k44 : Code1 :=
  (.seq
    (.region [] false ([]) [
      ⟨some 4, Op.assign (Operand.const (Value.int IntKind.i64 0)), none⟩])
    (.seq
      (.region [] false ([]) [
        ⟨some 5, Op.move (Operand.tmp 1), none⟩,
        ⟨some 6, Op.move (Operand.tmp 0), none⟩,
        ⟨some 7, Op.call { callee := Callee.builtin Builtin.len, args := #[Operand.tmp 6], argTypes := #[31] }, none⟩,
        ⟨some 8, Op.binOp BinOp.sub 3 (Operand.tmp 5) (Operand.tmp 7) 3, none⟩,
        ⟨some 1, Op.assign (Operand.tmp 8), none⟩])
      (.seq
        (.seq
          (.region [] false ([]) [
            ⟨some 9, Op.move (Operand.tmp 1), none⟩,
            ⟨some 10, Op.binOp BinOp.lss 3 (Operand.tmp 9) (Operand.const (Value.int IntKind.i64 0)) 3, none⟩])
          (.cond (Operand.tmp 10)
            (.seq
              (.region [] false ([]) [
                ⟨some 4, Op.assign (Operand.const (Value.int IntKind.i64 (-1))), none⟩])
              .ret)
            .skip))
        (.seq
          (.region [] false ([]) [
            ⟨some 11, Op.move (Operand.tmp 1), none⟩,
            ⟨some 4, Op.assign (Operand.tmp 11), none⟩])
          .ret))))
theorem szB_ok (l : List Bool) (left : Int) (hl : l.length ≤ left) (h1 : 0 ≤ left) (h2 : left < 1152921504606846976) :
    CallsF Try.prog 44 [.val (bools l), .val (.v (.int .i64 left))] (.t (.v (.int .i64 (left - l.length)))) [] := by
  refine callsF_of_wp1 (fn := Try.f44) (k := k44) (fun _ => []) mixed (by kernel_rfl) rfl (by kernel_rfl) (by kernel_rfl) (by kernel_rfl) rfl (by simp [Try.f44]) (by simp [Arg.like]) ?_
  generalize hst : St.enter [.val (bools l), .val (.v (.int .i64 left))] = st0
  have t0 : st0.tm 0 = .t (bools l) := by rw [← hst]; rfl
  have t1 : st0.tm 1 = .t (.v (.int .i64 left)) := by rw [← hst]; rfl
  clear hst
  unfold k44
  repeat' (first
    | (refine wp2_seq fun K hK => ?_)
    | (refine wp1_seq fun K hK => ?_)
    | (refine M_cons fun K hK => ?_)
    | (refine hK _ ?_; clear hK K)
    | (clear hK K; refine hK _ ?_; clear hK K)
    | (clear hK K; clear hK K; refine hK _ ?_; clear hK K)
    | (clear hK K; clear hK K; clear hK K; refine hK _ ?_; clear hK K)
    | (refine hX _ ?_; clear hX hY X Y)
    | (refine hY _ ?_; clear hX hY X Y)
    | (refine wp2_block ?_)
    | (refine wp1_block ?_)
    | (refine wp2_region ?_)
    | (refine wp1_region ?_)
    | (refine wp2_cond fun X Y hX hY => ?_)
    | (refine wp1_cond fun X Y hX hY => ?_)
    | (refine condK_of (fun c => ?_) (fun c => ?_) <;> (try simp [-List.length_eq_zero_iff] at c))
    | (refine guard1_or (fun c => ?_) (fun c => ?_) <;> (have cc := c) <;> (try simp [-List.length_eq_zero_iff] at cc) <;> (try simp (disch := omega) [t0, t1, c]))
    | (simp (disch := omega) [t0, t1]))
  all_goals try (simp [t0, t1, Back]; done)
  · omega
theorem szB_no (l : List Bool) (left : Int) (hl : left < l.length) (h1 : 0 ≤ left) (h2 : l.length ≤ 9223372036854775807) :
    CallsF Try.prog 44 [.val (bools l), .val (.v (.int .i64 left))] (.t (.v (.int .i64 (-1)))) [] := by
  refine callsF_of_wp1 (fn := Try.f44) (k := k44) (fun _ => []) mixed (by kernel_rfl) rfl (by kernel_rfl) (by kernel_rfl) (by kernel_rfl) rfl (by simp [Try.f44]) (by simp [Arg.like]) ?_
  generalize hst : St.enter [.val (bools l), .val (.v (.int .i64 left))] = st0
  have t0 : st0.tm 0 = .t (bools l) := by rw [← hst]; rfl
  have t1 : st0.tm 1 = .t (.v (.int .i64 left)) := by rw [← hst]; rfl
  clear hst
  unfold k44
  repeat' (first
    | (refine wp2_seq fun K hK => ?_)
    | (refine wp1_seq fun K hK => ?_)
    | (refine M_cons fun K hK => ?_)
    | (refine hK _ ?_; clear hK K)
    | (clear hK K; refine hK _ ?_; clear hK K)
    | (clear hK K; clear hK K; refine hK _ ?_; clear hK K)
    | (clear hK K; clear hK K; clear hK K; refine hK _ ?_; clear hK K)
    | (refine hX _ ?_; clear hX hY X Y)
    | (refine hY _ ?_; clear hX hY X Y)
    | (refine wp2_block ?_)
    | (refine wp1_block ?_)
    | (refine wp2_region ?_)
    | (refine wp1_region ?_)
    | (refine wp2_cond fun X Y hX hY => ?_)
    | (refine wp1_cond fun X Y hX hY => ?_)
    | (refine condK_of (fun c => ?_) (fun c => ?_) <;> (try simp [-List.length_eq_zero_iff] at c))
    | (refine guard1_or (fun c => ?_) (fun c => ?_) <;> (have cc := c) <;> (try simp [-List.length_eq_zero_iff] at cc) <;> (try simp (disch := omega) [t0, t1, c]))
    | (simp (disch := omega) [t0, t1]))
  all_goals try (simp [t0, t1, Back]; done)
  · omega
/-- The code of laws.toBoolS. -/
def k47 : Code1 :=
  (.seq
    (.region [] false ([]) [
      ⟨some 2, Op.assign (Operand.const (Value.slice none 0 0)), none⟩])
    (.seq
      (.region [7] false ([]) [
        ⟨some 5, Op.move (Operand.tmp 0), none⟩,
        ⟨some 6, Op.call { callee := Callee.builtin Builtin.len, args := #[Operand.tmp 5], argTypes := #[31] }, none⟩,
        ⟨some 7, Op.makeSlice 31 (Operand.tmp 6) (Operand.tmp 6), none⟩,
        ⟨some 3, Op.assign (Operand.tmp 7), none⟩])
      (.seq
        (.seq
          (.region [] false ([]) [
            ⟨some 4, Op.assign (Operand.const (Value.int IntKind.i64 0)), none⟩])
          (.block 0
            (.loop
              (.seq
                (.seq
                  (.region [] false ([]) [
                    ⟨some 8, Op.move (Operand.tmp 4), none⟩,
                    ⟨some 9, Op.move (Operand.tmp 0), none⟩,
                    ⟨some 10, Op.call { callee := Callee.builtin Builtin.len, args := #[Operand.tmp 9], argTypes := #[31] }, none⟩,
                    ⟨some 11, Op.binOp BinOp.lss 3 (Operand.tmp 8) (Operand.tmp 10) 3, none⟩])
                  (.cond (Operand.tmp 11)
                    .skip
                    (.exit 0)))
                (.seq
                  (.block 1
                    (.region [] false ([]) [
                      ⟨some 14, Op.move (Operand.tmp 3), none⟩,
                      ⟨some 15, Op.move (Operand.tmp 4), none⟩,
                      ⟨some 16, Op.move (Operand.tmp 0), none⟩,
                      ⟨some 17, Op.move (Operand.tmp 4), none⟩,
                      ⟨some 18, Op.indexAddr 31 (Operand.tmp 16) (Operand.tmp 17), none⟩,
                      ⟨some 19, Op.load 4 (Operand.tmp 18), none⟩,
                      ⟨some 20, Op.indexAddr 31 (Operand.tmp 14) (Operand.tmp 15), none⟩,
                      ⟨none, Op.store 4 (Operand.tmp 20) (Operand.tmp 19), none⟩]))
                  (.region [] false ([]) [
                    ⟨some 12, Op.move (Operand.tmp 4), none⟩,
                    ⟨some 13, Op.binOp BinOp.add 3 (Operand.tmp 12) (Operand.const (Value.int IntKind.i64 1)) 3, none⟩,
                    ⟨some 4, Op.assign (Operand.tmp 13), none⟩]))))))
        (.seq
          (.region [] false ([]) [
            ⟨some 21, Op.move (Operand.tmp 3), none⟩,
            ⟨some 2, Op.assign (Operand.tmp 21), none⟩])
          .ret))))
theorem toB (l : List Bool) (hl : l.length ≤ 1048576) :
    CallsF Try.prog 47 [.val (bools l)] (.own 1 (boolRow l)) [] := by
  refine callsF_of_wp1 (fn := Try.f47) (k := k47) (fun _ => []) mixed (by kernel_rfl) rfl (by kernel_rfl) (by kernel_rfl) (by kernel_rfl) rfl (by simp [Try.f47]) (by simp [Arg.like]) ?_
  generalize hst : St.enter [.val (bools l)] = st0
  have t0 : st0.tm 0 = .t (bools l) := by rw [← hst]; rfl
  clear hst
  unfold k47
  repeat' (first
    | (refine wp2_seq fun K hK => ?_)
    | (refine wp1_seq fun K hK => ?_)
    | (refine M_cons fun K hK => ?_)
    | (refine hK _ ?_; clear hK K)
    | (clear hK K; refine hK _ ?_; clear hK K)
    | (clear hK K; clear hK K; refine hK _ ?_; clear hK K)
    | (clear hK K; clear hK K; clear hK K; refine hK _ ?_; clear hK K)
    | (refine hX _ ?_; clear hX hY X Y)
    | (refine hY _ ?_; clear hX hY X Y)
    | (refine wp2_block ?_)
    | (refine wp1_block ?_)
    | (refine wp2_region ?_)
    | (refine wp1_region ?_)
    | (refine wp2_cond fun X Y hX hY => ?_)
    | (refine wp1_cond fun X Y hX hY => ?_)
    | (refine condK_of (fun c => ?_) (fun c => ?_) <;> (try simp [-List.length_eq_zero_iff] at c))
    | (refine guard1_or (fun c => ?_) (fun c => ?_) <;> (have cc := c) <;> (try simp [-List.length_eq_zero_iff] at cc) <;> (try simp (disch := omega) [t0, c]))
    | (simp (disch := omega) [t0]))
  all_goals try (simp [t0, Back]; done)
  have hJ : ∀ s : St, s.tm 3 = .row (7, 0) 1 0 l.length → s.ob (7, 0) = some (.row 1 (boolRow l)) → K s := by
    intro s s3 o
    repeat' (first
      | (refine wp2_seq fun K hK => ?_)
      | (refine wp1_seq fun K hK => ?_)
      | (refine M_cons fun K hK => ?_)
      | (refine hK _ ?_; clear hK K)
      | (clear hK K; refine hK _ ?_; clear hK K)
      | (clear hK K; clear hK K; refine hK _ ?_; clear hK K)
      | (clear hK K; clear hK K; clear hK K; refine hK _ ?_; clear hK K)
      | (refine hX _ ?_; clear hX hY X Y)
      | (refine hY _ ?_; clear hX hY X Y)
      | (refine wp2_block ?_)
      | (refine wp1_block ?_)
      | (refine wp2_region ?_)
      | (refine wp1_region ?_)
      | (refine wp2_cond fun X Y hX hY => ?_)
      | (refine wp1_cond fun X Y hX hY => ?_)
      | (refine condK_of (fun c => ?_) (fun c => ?_) <;> (try simp [-List.length_eq_zero_iff] at c))
      | (refine guard1_or (fun c => ?_) (fun c => ?_) <;> (have cc := c) <;> (try simp [-List.length_eq_zero_iff] at cc) <;> (try simp (disch := omega) [s3, o, c]))
      | (simp (disch := omega) [s3, o]))
    all_goals try (simp [s3, o, Back]; done)
  clear hK
  refine wp1_loop (fun n s => ∃ (k : Nat) (xs : List Bool), s.tm 0 = .t (bools l) ∧ s.tm 3 = .row (7, 0) 1 0 l.length ∧ s.tm 4 = .t (.v (.int .i64 k)) ∧ s.ob (7, 0) = some (.row 1 (boolRow xs)) ∧ xs.length = l.length ∧ k ≤ l.length ∧ n = l.length - k ∧ ∀ i < k, rdb xs i = rdb l i) l.length ?_ ?_
  · refine ⟨0, List.replicate l.length false, ?_⟩
    simp [t0]
  · rintro n s ⟨k, xs, s0, s3, s4, o, hc, hk, rfl, heq⟩ K' hK'
    repeat' (first
      | (refine wp2_seq fun K hK => ?_)
      | (refine wp1_seq fun K hK => ?_)
      | (refine M_cons fun K hK => ?_)
      | (refine hK _ ?_; clear hK K)
      | (clear hK K; refine hK _ ?_; clear hK K)
      | (clear hK K; clear hK K; refine hK _ ?_; clear hK K)
      | (clear hK K; clear hK K; clear hK K; refine hK _ ?_; clear hK K)
      | (refine hX _ ?_; clear hX hY X Y)
      | (refine hY _ ?_; clear hX hY X Y)
      | (refine wp2_block ?_)
      | (refine wp1_block ?_)
      | (refine wp2_region ?_)
      | (refine wp1_region ?_)
      | (refine wp2_cond fun X Y hX hY => ?_)
      | (refine wp1_cond fun X Y hX hY => ?_)
      | (refine condK_of (fun c => ?_) (fun c => ?_) <;> (try simp [-List.length_eq_zero_iff] at c))
      | (refine guard1_or (fun c => ?_) (fun c => ?_) <;> (have cc := c) <;> (try simp [-List.length_eq_zero_iff] at cc) <;> (try simp (disch := omega) [s0, s3, s4, o, hc, c]))
      | (simp (disch := omega) [s0, s3, s4, o, hc]))
    all_goals try (simp [s0, s3, s4, o, hc, Back]; done)
    · refine hK' (l.length - (k + 1)) _ (by omega) ⟨k + 1, xs.set k (rdb l k), ?_⟩
      simp [s0, s3, s4, hc]
      exact ⟨by omega, below_succ (p := fun i : Nat => rdb (xs.set k (rdb l k)) i = rdb l i) (fun i hi => by rw [rdb_set_ne (by omega)]; exact heq i hi) (rdb_set_eq (by omega))⟩
    · refine hJ _ (by simp [s3]) ?_
      simp [o]
      rw [eq_of_rdb hc fun i hi => heq i (by omega)]
/-- The code of laws.eqBoolS. -/
def k50 : Code1 :=
  (.seq
    (.region [] false ([]) [
      ⟨some 4, Op.assign (Operand.const (Value.bool false)), none⟩])
    (.seq
      (.seq
        (.region [] false ([]) [
          ⟨some 6, Op.move (Operand.tmp 0), none⟩,
          ⟨some 7, Op.call { callee := Callee.builtin Builtin.len, args := #[Operand.tmp 6], argTypes := #[31] }, none⟩,
          ⟨some 8, Op.move (Operand.tmp 1), none⟩,
          ⟨some 9, Op.call { callee := Callee.builtin Builtin.len, args := #[Operand.tmp 8], argTypes := #[31] }, none⟩,
          ⟨some 10, Op.binOp BinOp.neq 3 (Operand.tmp 7) (Operand.tmp 9) 3, none⟩])
        (.cond (Operand.tmp 10)
          (.seq
            (.region [] false ([]) [
              ⟨some 4, Op.assign (Operand.const (Value.bool false)), none⟩])
            .ret)
          .skip))
      (.seq
        (.seq
          (.region [] false ([]) [
            ⟨some 5, Op.assign (Operand.const (Value.int IntKind.i64 0)), none⟩])
          (.block 0
            (.loop
              (.seq
                (.seq
                  (.region [] false ([]) [
                    ⟨some 11, Op.move (Operand.tmp 5), none⟩,
                    ⟨some 12, Op.move (Operand.tmp 0), none⟩,
                    ⟨some 13, Op.call { callee := Callee.builtin Builtin.len, args := #[Operand.tmp 12], argTypes := #[31] }, none⟩,
                    ⟨some 14, Op.binOp BinOp.lss 3 (Operand.tmp 11) (Operand.tmp 13) 3, none⟩])
                  (.cond (Operand.tmp 14)
                    .skip
                    (.exit 0)))
                (.seq
                  (.block 1
                    (.seq
                      (.region [] true ([]) [
                        ⟨some 17, Op.move (Operand.tmp 0), none⟩,
                        ⟨some 18, Op.move (Operand.tmp 5), none⟩,
                        ⟨some 19, Op.indexAddr 31 (Operand.tmp 17) (Operand.tmp 18), none⟩,
                        ⟨some 20, Op.load 4 (Operand.tmp 19), none⟩,
                        ⟨some 21, Op.move (Operand.tmp 1), none⟩,
                        ⟨some 22, Op.move (Operand.tmp 5), none⟩,
                        ⟨some 23, Op.indexAddr 31 (Operand.tmp 21) (Operand.tmp 22), none⟩,
                        ⟨some 24, Op.load 4 (Operand.tmp 23), none⟩,
                        ⟨some 25, Op.binOp BinOp.neq 4 (Operand.tmp 20) (Operand.tmp 24) 4, none⟩])
                      (.cond (Operand.tmp 25)
                        (.seq
                          (.region [] false ([]) [
                            ⟨some 4, Op.assign (Operand.const (Value.bool false)), none⟩])
                          .ret)
                        .skip)))
                  (.region [] false ([]) [
                    ⟨some 15, Op.move (Operand.tmp 5), none⟩,
                    ⟨some 16, Op.binOp BinOp.add 3 (Operand.tmp 15) (Operand.const (Value.int IntKind.i64 1)) 3, none⟩,
                    ⟨some 5, Op.assign (Operand.tmp 16), none⟩]))))))
        (.seq
          (.region [] false ([]) [
            ⟨some 4, Op.assign (Operand.const (Value.bool true)), none⟩])
          .ret))))
theorem eqB (a b : List Bool) (ha : a.length ≤ 1048576) (hb : b.length ≤ 1048576) :
    CallsF Try.prog 50 [.val (bools a), .val (bools b)] (.t (.v (.bool (decide (a = b))))) [] := by
  refine callsF_of_wp1 (fn := Try.f50) (k := k50) (fun _ => []) mixed (by kernel_rfl) rfl (by kernel_rfl) (by kernel_rfl) (by kernel_rfl) rfl (by simp [Try.f50]) (by simp [Arg.like]) ?_
  generalize hst : St.enter [.val (bools a), .val (bools b)] = st0
  have t0 : st0.tm 0 = .t (bools a) := by rw [← hst]; rfl
  have t1 : st0.tm 1 = .t (bools b) := by rw [← hst]; rfl
  clear hst
  unfold k50
  repeat' (first
    | (refine wp2_seq fun K hK => ?_)
    | (refine wp1_seq fun K hK => ?_)
    | (refine M_cons fun K hK => ?_)
    | (refine hK _ ?_; clear hK K)
    | (clear hK K; refine hK _ ?_; clear hK K)
    | (clear hK K; clear hK K; refine hK _ ?_; clear hK K)
    | (clear hK K; clear hK K; clear hK K; refine hK _ ?_; clear hK K)
    | (refine hX _ ?_; clear hX hY X Y)
    | (refine hY _ ?_; clear hX hY X Y)
    | (refine wp2_block ?_)
    | (refine wp1_block ?_)
    | (refine wp2_region ?_)
    | (refine wp1_region ?_)
    | (refine wp2_cond fun X Y hX hY => ?_)
    | (refine wp1_cond fun X Y hX hY => ?_)
    | (refine condK_of (fun c => ?_) (fun c => ?_) <;> (try simp [-List.length_eq_zero_iff] at c))
    | (refine guard1_or (fun c => ?_) (fun c => ?_) <;> (have cc := c) <;> (try simp [-List.length_eq_zero_iff] at cc) <;> (try simp (disch := omega) [t0, t1, c]))
    | (simp (disch := omega) [t0, t1]))
  all_goals try (simp [t0, t1, Back]; done)
  · have : ¬ a = b := fun e => c (by rw [e])
    simp [Back, this]
  have hJ : a = b → ∀ s, K s := by
    rintro rfl s
    repeat' (first
      | (refine wp2_seq fun K hK => ?_)
      | (refine wp1_seq fun K hK => ?_)
      | (refine M_cons fun K hK => ?_)
      | (refine hK _ ?_; clear hK K)
      | (clear hK K; refine hK _ ?_; clear hK K)
      | (clear hK K; clear hK K; refine hK _ ?_; clear hK K)
      | (clear hK K; clear hK K; clear hK K; refine hK _ ?_; clear hK K)
      | (refine hX _ ?_; clear hX hY X Y)
      | (refine hY _ ?_; clear hX hY X Y)
      | (refine wp2_block ?_)
      | (refine wp1_block ?_)
      | (refine wp2_region ?_)
      | (refine wp1_region ?_)
      | (refine wp2_cond fun X Y hX hY => ?_)
      | (refine wp1_cond fun X Y hX hY => ?_)
      | (refine condK_of (fun c => ?_) (fun c => ?_) <;> (try simp [-List.length_eq_zero_iff] at c))
      | (refine guard1_or (fun c => ?_) (fun c => ?_) <;> (have cc := c) <;> (try simp [-List.length_eq_zero_iff] at cc) <;> (try simp (disch := omega) [c]))
      | (simp (disch := omega) []))
    all_goals try (simp [Back]; done)
  clear hK
  refine wp1_loop (fun n s => ∃ k : Nat, s.tm 0 = .t (bools a) ∧ s.tm 1 = .t (bools b) ∧ s.tm 5 = .t (.v (.int .i64 k)) ∧ k ≤ a.length ∧ n = a.length - k ∧ ∀ i < k, rdb a i = rdb b i) a.length ?_ ?_
  · exact ⟨0, by simp [t0, t1]⟩
  · rintro n s ⟨k, s0, s1, s5, hk, rfl, heq⟩ K' hK'
    repeat' (first
      | (refine wp2_seq fun K hK => ?_)
      | (refine wp1_seq fun K hK => ?_)
      | (refine M_cons fun K hK => ?_)
      | (refine hK _ ?_; clear hK K)
      | (clear hK K; refine hK _ ?_; clear hK K)
      | (clear hK K; clear hK K; refine hK _ ?_; clear hK K)
      | (clear hK K; clear hK K; clear hK K; refine hK _ ?_; clear hK K)
      | (refine hX _ ?_; clear hX hY X Y)
      | (refine hY _ ?_; clear hX hY X Y)
      | (refine wp2_block ?_)
      | (refine wp1_block ?_)
      | (refine wp2_region ?_)
      | (refine wp1_region ?_)
      | (refine wp2_cond fun X Y hX hY => ?_)
      | (refine wp1_cond fun X Y hX hY => ?_)
      | (refine condK_of (fun c => ?_) (fun c => ?_) <;> (try simp [-List.length_eq_zero_iff] at c))
      | (refine guard1_or (fun c => ?_) (fun c => ?_) <;> (have cc := c) <;> (try simp [-List.length_eq_zero_iff] at cc) <;> (try simp (disch := omega) [s0, s1, s5, c]))
      | (simp (disch := omega) [s0, s1, s5]))
    all_goals try (simp [s0, s1, s5, Back]; done)
    · have : ¬ a = b := fun e => c (by rw [e])
      simp [Back, this]
    · refine hK' (a.length - (k + 1)) _ (by omega) ⟨k + 1, ?_⟩
      simp [s0, s1, s5]
      exact ⟨by omega, below_succ heq c⟩
    · exact hJ (eq_of_rdb (by omega) fun i hi => heq i (by omega)) _
end Cal

set_option linter.unusedSimpArgs false
set_option linter.unusedVariables false
namespace Cal
open Go Go.Proofs Auto AC
set_option maxRecDepth 100000
theorem flat_boolRow (l : List Bool) : ∀ e ∈ boolRow l, ∀ x ∈ e, T.flat x := by
  intro e he x hx
  simp only [boolRow, List.mem_map] at he
  obtain ⟨b, _, rfl⟩ := he
  simp at hx
  subst hx
  trivial
def smallA (a : Au) : Prop := a.parent.length ≤ 9223372036854775807 ∧ a.last.length ≤ 9223372036854775807 ∧ a.fail.length ≤ 9223372036854775807 ∧ a.must.length ≤ 9223372036854775807 ∧ a.bad.length ≤ 9223372036854775807
def sumA (a : Au) : Int := a.parent.length + a.last.length + a.fail.length + a.must.length + a.bad.length
/-- The code of laws.szAuto. -/
def k16 : Code1 :=
  (.seq
    (.region [2] false ([]) [
      ⟨some 2, Op.box 33 (Operand.tmp 0), none⟩,
      ⟨some 4, Op.assign (Operand.const (Value.int IntKind.i64 0)), none⟩])
    (.seq
      (.region [8] false ([]) [
        ⟨some 5, Op.fieldAddr 33 (Operand.tmp 2) 0, none⟩,
        ⟨some 6, Op.load 22 (Operand.tmp 5), none⟩,
        ⟨some 7, Op.move (Operand.tmp 1), none⟩,
        ⟨some 8, Op.call { callee := Callee.value (Operand.func 41), args := #[Operand.tmp 6, Operand.tmp 7], argTypes := #[22, 3] }, none⟩,
        ⟨some 1, Op.assign (Operand.tmp 8), none⟩])
      (.seq
        (.seq
          (.region [] false ([]) [
            ⟨some 9, Op.move (Operand.tmp 1), none⟩,
            ⟨some 10, Op.binOp BinOp.lss 3 (Operand.tmp 9) (Operand.const (Value.int IntKind.i64 0)) 3, none⟩])
          (.cond (Operand.tmp 10)
            (.seq
              (.region [] false ([]) [
                ⟨some 4, Op.assign (Operand.const (Value.int IntKind.i64 (-1))), none⟩])
              .ret)
            .skip))
        (.seq
          (.region [14] false ([]) [
            ⟨some 11, Op.fieldAddr 33 (Operand.tmp 2) 1, none⟩,
            ⟨some 12, Op.load 22 (Operand.tmp 11), none⟩,
            ⟨some 13, Op.move (Operand.tmp 1), none⟩,
            ⟨some 14, Op.call { callee := Callee.value (Operand.func 41), args := #[Operand.tmp 12, Operand.tmp 13], argTypes := #[22, 3] }, none⟩,
            ⟨some 1, Op.assign (Operand.tmp 14), none⟩])
          (.seq
            (.seq
              (.region [] false ([]) [
                ⟨some 15, Op.move (Operand.tmp 1), none⟩,
                ⟨some 16, Op.binOp BinOp.lss 3 (Operand.tmp 15) (Operand.const (Value.int IntKind.i64 0)) 3, none⟩])
              (.cond (Operand.tmp 16)
                (.seq
                  (.region [] false ([]) [
                    ⟨some 4, Op.assign (Operand.const (Value.int IntKind.i64 (-1))), none⟩])
                  .ret)
                .skip))
            (.seq
              (.region [20] false ([]) [
                ⟨some 17, Op.fieldAddr 33 (Operand.tmp 2) 2, none⟩,
                ⟨some 18, Op.load 22 (Operand.tmp 17), none⟩,
                ⟨some 19, Op.move (Operand.tmp 1), none⟩,
                ⟨some 20, Op.call { callee := Callee.value (Operand.func 41), args := #[Operand.tmp 18, Operand.tmp 19], argTypes := #[22, 3] }, none⟩,
                ⟨some 1, Op.assign (Operand.tmp 20), none⟩])
              (.seq
                (.seq
                  (.region [] false ([]) [
                    ⟨some 21, Op.move (Operand.tmp 1), none⟩,
                    ⟨some 22, Op.binOp BinOp.lss 3 (Operand.tmp 21) (Operand.const (Value.int IntKind.i64 0)) 3, none⟩])
                  (.cond (Operand.tmp 22)
                    (.seq
                      (.region [] false ([]) [
                        ⟨some 4, Op.assign (Operand.const (Value.int IntKind.i64 (-1))), none⟩])
                      .ret)
                    .skip))
                (.seq
                  (.region [26] false ([]) [
                    ⟨some 23, Op.fieldAddr 33 (Operand.tmp 2) 3, none⟩,
                    ⟨some 24, Op.load 22 (Operand.tmp 23), none⟩,
                    ⟨some 25, Op.move (Operand.tmp 1), none⟩,
                    ⟨some 26, Op.call { callee := Callee.value (Operand.func 41), args := #[Operand.tmp 24, Operand.tmp 25], argTypes := #[22, 3] }, none⟩,
                    ⟨some 1, Op.assign (Operand.tmp 26), none⟩])
                  (.seq
                    (.seq
                      (.region [] false ([]) [
                        ⟨some 27, Op.move (Operand.tmp 1), none⟩,
                        ⟨some 28, Op.binOp BinOp.lss 3 (Operand.tmp 27) (Operand.const (Value.int IntKind.i64 0)) 3, none⟩])
                      (.cond (Operand.tmp 28)
                        (.seq
                          (.region [] false ([]) [
                            ⟨some 4, Op.assign (Operand.const (Value.int IntKind.i64 (-1))), none⟩])
                          .ret)
                        .skip))
                    (.seq
                      (.region [32] false ([]) [
                        ⟨some 29, Op.fieldAddr 33 (Operand.tmp 2) 4, none⟩,
                        ⟨some 30, Op.load 31 (Operand.tmp 29), none⟩,
                        ⟨some 31, Op.move (Operand.tmp 1), none⟩,
                        ⟨some 32, Op.call { callee := Callee.value (Operand.func 44), args := #[Operand.tmp 30, Operand.tmp 31], argTypes := #[31, 3] }, none⟩,
                        ⟨some 1, Op.assign (Operand.tmp 32), none⟩])
                      (.seq
                        (.seq
                          (.region [] false ([]) [
                            ⟨some 33, Op.move (Operand.tmp 1), none⟩,
                            ⟨some 34, Op.binOp BinOp.lss 3 (Operand.tmp 33) (Operand.const (Value.int IntKind.i64 0)) 3, none⟩])
                          (.cond (Operand.tmp 34)
                            (.seq
                              (.region [] false ([]) [
                                ⟨some 4, Op.assign (Operand.const (Value.int IntKind.i64 (-1))), none⟩])
                              .ret)
                            .skip))
                        (.seq
                          (.region [] false ([]) [
                            ⟨some 35, Op.move (Operand.tmp 1), none⟩,
                            ⟨some 4, Op.assign (Operand.tmp 35), none⟩])
                          .ret))))))))))))
set_option maxHeartbeats 0 in
theorem szA (a : Au) (left : Int) (hg : smallA a) (h1 : 0 ≤ left) (h2 : left < 1152921504606846976) :
    CallsF Try.prog 16 [.agg (encAu a), .val (.v (.int .i64 left))] (.t (.v (.int .i64 (if left < sumA a then -1 else left - sumA a)))) [] := by
  obtain ⟨g1, g2, g3, g4, g5⟩ := hg
  refine callsF_of_wp1 (fn := Try.f16) (k := k16) (fun _ => []) mixed (by kernel_rfl) rfl (by kernel_rfl) (by kernel_rfl) (by kernel_rfl) rfl (by simp [Try.f16]) (by simp [Arg.like]) ?_
  generalize hst : St.enter [.agg (encAu a), .val (.v (.int .i64 left))] = st0
  have t0 : st0.tm 0 = .agg ((encAu a) |>.map .t) := by rw [← hst]; rfl
  have t1 : st0.tm 1 = .t (.v (.int .i64 left)) := by rw [← hst]; rfl
  clear hst
  unfold k16
  simp [encAu] at t0
  have hd : ((0 : Int) ≤ left ∧ left < (0 : Int) + a.parent.length) ∨ ((0 : Int) + a.parent.length ≤ left ∧ left < (0 : Int) + a.parent.length + a.last.length) ∨ ((0 : Int) + a.parent.length + a.last.length ≤ left ∧ left < (0 : Int) + a.parent.length + a.last.length + a.fail.length) ∨ ((0 : Int) + a.parent.length + a.last.length + a.fail.length ≤ left ∧ left < (0 : Int) + a.parent.length + a.last.length + a.fail.length + a.must.length) ∨ ((0 : Int) + a.parent.length + a.last.length + a.fail.length + a.must.length ≤ left ∧ left < (0 : Int) + a.parent.length + a.last.length + a.fail.length + a.must.length + a.bad.length) ∨ ((0 : Int) + a.parent.length + a.last.length + a.fail.length + a.must.length + a.bad.length ≤ left) := by omega
  rcases hd with e | e | e | e | e | e
  all_goals
    repeat' (first
      | (refine wp2_seq fun K hK => ?_)
      | (refine wp1_seq fun K hK => ?_)
      | (refine M_cons fun K hK => ?_)
      | (refine hK _ ?_; clear hK K)
      | (clear hK K; refine hK _ ?_; clear hK K)
      | (clear hK K; clear hK K; refine hK _ ?_; clear hK K)
      | (clear hK K; clear hK K; clear hK K; refine hK _ ?_; clear hK K)
      | (refine hX _ ?_; clear hX hY X Y)
      | (refine hY _ ?_; clear hX hY X Y)
      | (refine wp2_block ?_)
      | (refine wp1_block ?_)
      | (refine wp2_region ?_)
      | (refine wp1_region ?_)
      | (refine wp2_cond fun X Y hX hY => ?_)
      | (refine wp1_cond fun X Y hX hY => ?_)
      | (refine condK_of (fun c => ?_) (fun c => ?_) <;> (try simp [-List.length_eq_zero_iff] at c))
      | (refine guard1_or (fun c => ?_) (fun c => ?_) <;> (have cc := c) <;> (try simp [-List.length_eq_zero_iff] at cc) <;> (try simp (disch := omega) [t0, t1, c]))
      | (refine callT_fl (szI_ok _ _ ?_ ?_ ?_) (by simp [St.args, St.arg, t0, t1] <;> first | rfl | ((repeat' first | rfl | apply And.intro); done)) (by first | (simp [RV.flat, RV.flats, T.flat]; done) | ((repeat' first | exact flat_intRow _ | exact flat_boolRow _ | exact trivial | constructor | unfold RV.flat | unfold RV.flats); done)) (by simp [mutsOf]) ?_; omega; omega; omega)
      | (refine callT_fl (szI_no _ _ ?_ ?_ ?_) (by simp [St.args, St.arg, t0, t1] <;> first | rfl | ((repeat' first | rfl | apply And.intro); done)) (by first | (simp [RV.flat, RV.flats, T.flat]; done) | ((repeat' first | exact flat_intRow _ | exact flat_boolRow _ | exact trivial | constructor | unfold RV.flat | unfold RV.flats); done)) (by simp [mutsOf]) ?_; omega; omega; omega)
      | (refine callT_fl (szB_ok _ _ ?_ ?_ ?_) (by simp [St.args, St.arg, t0, t1] <;> first | rfl | ((repeat' first | rfl | apply And.intro); done)) (by first | (simp [RV.flat, RV.flats, T.flat]; done) | ((repeat' first | exact flat_intRow _ | exact flat_boolRow _ | exact trivial | constructor | unfold RV.flat | unfold RV.flats); done)) (by simp [mutsOf]) ?_; omega; omega; omega)
      | (refine callT_fl (szB_no _ _ ?_ ?_ ?_) (by simp [St.args, St.arg, t0, t1] <;> first | rfl | ((repeat' first | rfl | apply And.intro); done)) (by first | (simp [RV.flat, RV.flats, T.flat]; done) | ((repeat' first | exact flat_intRow _ | exact flat_boolRow _ | exact trivial | constructor | unfold RV.flat | unfold RV.flats); done)) (by simp [mutsOf]) ?_; omega; omega; omega)
      | (simp (disch := omega) [t0, t1]))
    all_goals try (simp [t0, t1, Back]; done)
  all_goals first
    | (have hs : left < sumA a := by (unfold sumA; omega)
       simp [Back, hs]; done)
    | (have hs : ¬ left < sumA a := by (unfold sumA; omega)
       simp [Back, hs]
       unfold sumA
       omega)
def rvA (a : Au) : List RV := [.own 1 (intRow a.parent), .own 1 (intRow a.last), .own 1 (intRow a.fail), .own 1 (intRow a.must), .own 1 (boolRow a.bad)]
/-- The code of laws.toAuto. -/
def k18 : Code1 :=
  (.seq
    (.region [1, 2] false ([]) [
      ⟨some 1, Op.box 33 (Operand.tmp 0), none⟩,
      ⟨some 2, Op.alloc 36, none⟩])
    (.seq
      (.region [3] false ([]) [
        ⟨some 3, Op.alloc 36, none⟩])
      (.seq
        (.region [6] false ([]) [
          ⟨some 4, Op.fieldAddr 33 (Operand.tmp 1) 0, none⟩,
          ⟨some 5, Op.load 22 (Operand.tmp 4), none⟩,
          ⟨some 6, Op.call { callee := Callee.value (Operand.func 22), args := #[Operand.tmp 5], argTypes := #[22] }, none⟩,
          ⟨some 7, Op.fieldAddr 36 (Operand.tmp 3) 0, none⟩,
          ⟨none, Op.store 22 (Operand.tmp 7) (Operand.tmp 6), none⟩])
        (.seq
          (.region [10] false ([]) [
            ⟨some 8, Op.fieldAddr 33 (Operand.tmp 1) 1, none⟩,
            ⟨some 9, Op.load 22 (Operand.tmp 8), none⟩,
            ⟨some 10, Op.call { callee := Callee.value (Operand.func 22), args := #[Operand.tmp 9], argTypes := #[22] }, none⟩,
            ⟨some 11, Op.fieldAddr 36 (Operand.tmp 3) 1, none⟩,
            ⟨none, Op.store 22 (Operand.tmp 11) (Operand.tmp 10), none⟩])
          (.seq
            (.region [14] false ([]) [
              ⟨some 12, Op.fieldAddr 33 (Operand.tmp 1) 2, none⟩,
              ⟨some 13, Op.load 22 (Operand.tmp 12), none⟩,
              ⟨some 14, Op.call { callee := Callee.value (Operand.func 22), args := #[Operand.tmp 13], argTypes := #[22] }, none⟩,
              ⟨some 15, Op.fieldAddr 36 (Operand.tmp 3) 2, none⟩,
              ⟨none, Op.store 22 (Operand.tmp 15) (Operand.tmp 14), none⟩])
            (.seq
              (.region [18] false ([]) [
                ⟨some 16, Op.fieldAddr 33 (Operand.tmp 1) 3, none⟩,
                ⟨some 17, Op.load 22 (Operand.tmp 16), none⟩,
                ⟨some 18, Op.call { callee := Callee.value (Operand.func 22), args := #[Operand.tmp 17], argTypes := #[22] }, none⟩,
                ⟨some 19, Op.fieldAddr 36 (Operand.tmp 3) 3, none⟩,
                ⟨none, Op.store 22 (Operand.tmp 19) (Operand.tmp 18), none⟩])
              (.seq
                (.region [22] false ([]) [
                  ⟨some 20, Op.fieldAddr 33 (Operand.tmp 1) 4, none⟩,
                  ⟨some 21, Op.load 31 (Operand.tmp 20), none⟩,
                  ⟨some 22, Op.call { callee := Callee.value (Operand.func 47), args := #[Operand.tmp 21], argTypes := #[31] }, none⟩,
                  ⟨some 23, Op.fieldAddr 36 (Operand.tmp 3) 4, none⟩,
                  ⟨none, Op.store 31 (Operand.tmp 23) (Operand.tmp 22), none⟩])
                (.seq
                  (.region [] false ([]) [
                    ⟨some 24, Op.load 36 (Operand.tmp 3), none⟩,
                    ⟨none, Op.store 36 (Operand.tmp 2) (Operand.tmp 24), none⟩])
                  .ret))))))))
set_option maxHeartbeats 0 in
theorem toA (a : Au) (h : sumA a ≤ 1048576) : CallsF Try.prog 18 [.agg (encAu a)] (.agg (rvA a)) [] := by
  unfold sumA at h
  refine callsF_of_wp1 (fn := Try.f18) (k := k18) (fun _ => []) mixed (by kernel_rfl) rfl (by kernel_rfl) (by kernel_rfl) (by kernel_rfl) rfl (by simp [Try.f18]) (by simp [Arg.like]) ?_
  generalize hst : St.enter [.agg (encAu a)] = st0
  have t0 : st0.tm 0 = .agg ((encAu a) |>.map .t) := by rw [← hst]; rfl
  clear hst
  unfold k18
  simp [encAu] at t0
  repeat' (first
    | (refine wp2_seq fun K hK => ?_)
    | (refine wp1_seq fun K hK => ?_)
    | (refine M_cons fun K hK => ?_)
    | (refine hK _ ?_; clear hK K)
    | (clear hK K; refine hK _ ?_; clear hK K)
    | (clear hK K; clear hK K; refine hK _ ?_; clear hK K)
    | (clear hK K; clear hK K; clear hK K; refine hK _ ?_; clear hK K)
    | (refine hX _ ?_; clear hX hY X Y)
    | (refine hY _ ?_; clear hX hY X Y)
    | (refine wp2_block ?_)
    | (refine wp1_block ?_)
    | (refine wp2_region ?_)
    | (refine wp1_region ?_)
    | (refine wp2_cond fun X Y hX hY => ?_)
    | (refine wp1_cond fun X Y hX hY => ?_)
    | (refine condK_of (fun c => ?_) (fun c => ?_) <;> (try simp [-List.length_eq_zero_iff] at c))
    | (refine guard1_or (fun c => ?_) (fun c => ?_) <;> (have cc := c) <;> (try simp [-List.length_eq_zero_iff] at cc) <;> (try simp (disch := omega) [t0, c]))
    | (refine callT_fl (toI _ ?_) (by simp [St.args, St.arg, t0] <;> first | rfl | ((repeat' first | rfl | apply And.intro); done)) (by first | (simp [RV.flat, RV.flats, T.flat]; done) | ((repeat' first | exact flat_intRow _ | exact flat_boolRow _ | exact trivial | constructor | unfold RV.flat | unfold RV.flats); done)) (by simp [mutsOf]) ?_; omega)
    | (refine callT_fl (toB _ ?_) (by simp [St.args, St.arg, t0] <;> first | rfl | ((repeat' first | rfl | apply And.intro); done)) (by first | (simp [RV.flat, RV.flats, T.flat]; done) | ((repeat' first | exact flat_intRow _ | exact flat_boolRow _ | exact trivial | constructor | unfold RV.flat | unfold RV.flats); done)) (by simp [mutsOf]) ?_; omega)
    | (simp (disch := omega) [t0]))
  all_goals try (simp [t0, Back]; done)
  simp [Back, rvA]
/-- The code of laws.eqAuto. -/
def k20 : Code1 :=
  (.seq
    (.region [2, 3] false ([]) [
      ⟨some 2, Op.box 36 (Operand.tmp 0), none⟩,
      ⟨some 3, Op.box 36 (Operand.tmp 1), none⟩,
      ⟨some 4, Op.assign (Operand.const (Value.bool false)), none⟩])
    (.seq
      (.seq
        (.region [9] false ([]) [
          ⟨some 5, Op.fieldAddr 36 (Operand.tmp 2) 0, none⟩,
          ⟨some 6, Op.load 22 (Operand.tmp 5), none⟩,
          ⟨some 7, Op.fieldAddr 36 (Operand.tmp 3) 0, none⟩,
          ⟨some 8, Op.load 22 (Operand.tmp 7), none⟩,
          ⟨some 9, Op.call { callee := Callee.value (Operand.func 24), args := #[Operand.tmp 6, Operand.tmp 8], argTypes := #[22, 22] }, none⟩,
          ⟨some 10, Op.unOp UnOp.not 4 (Operand.tmp 9), none⟩])
        (.cond (Operand.tmp 10)
          (.seq
            (.region [] false ([]) [
              ⟨some 4, Op.assign (Operand.const (Value.bool false)), none⟩])
            .ret)
          .skip))
      (.seq
        (.seq
          (.region [15] false ([]) [
            ⟨some 11, Op.fieldAddr 36 (Operand.tmp 2) 1, none⟩,
            ⟨some 12, Op.load 22 (Operand.tmp 11), none⟩,
            ⟨some 13, Op.fieldAddr 36 (Operand.tmp 3) 1, none⟩,
            ⟨some 14, Op.load 22 (Operand.tmp 13), none⟩,
            ⟨some 15, Op.call { callee := Callee.value (Operand.func 24), args := #[Operand.tmp 12, Operand.tmp 14], argTypes := #[22, 22] }, none⟩,
            ⟨some 16, Op.unOp UnOp.not 4 (Operand.tmp 15), none⟩])
          (.cond (Operand.tmp 16)
            (.seq
              (.region [] false ([]) [
                ⟨some 4, Op.assign (Operand.const (Value.bool false)), none⟩])
              .ret)
            .skip))
        (.seq
          (.seq
            (.region [21] false ([]) [
              ⟨some 17, Op.fieldAddr 36 (Operand.tmp 2) 2, none⟩,
              ⟨some 18, Op.load 22 (Operand.tmp 17), none⟩,
              ⟨some 19, Op.fieldAddr 36 (Operand.tmp 3) 2, none⟩,
              ⟨some 20, Op.load 22 (Operand.tmp 19), none⟩,
              ⟨some 21, Op.call { callee := Callee.value (Operand.func 24), args := #[Operand.tmp 18, Operand.tmp 20], argTypes := #[22, 22] }, none⟩,
              ⟨some 22, Op.unOp UnOp.not 4 (Operand.tmp 21), none⟩])
            (.cond (Operand.tmp 22)
              (.seq
                (.region [] false ([]) [
                  ⟨some 4, Op.assign (Operand.const (Value.bool false)), none⟩])
                .ret)
              .skip))
          (.seq
            (.seq
              (.region [27] false ([]) [
                ⟨some 23, Op.fieldAddr 36 (Operand.tmp 2) 3, none⟩,
                ⟨some 24, Op.load 22 (Operand.tmp 23), none⟩,
                ⟨some 25, Op.fieldAddr 36 (Operand.tmp 3) 3, none⟩,
                ⟨some 26, Op.load 22 (Operand.tmp 25), none⟩,
                ⟨some 27, Op.call { callee := Callee.value (Operand.func 24), args := #[Operand.tmp 24, Operand.tmp 26], argTypes := #[22, 22] }, none⟩,
                ⟨some 28, Op.unOp UnOp.not 4 (Operand.tmp 27), none⟩])
              (.cond (Operand.tmp 28)
                (.seq
                  (.region [] false ([]) [
                    ⟨some 4, Op.assign (Operand.const (Value.bool false)), none⟩])
                  .ret)
                .skip))
            (.seq
              (.seq
                (.region [33] false ([]) [
                  ⟨some 29, Op.fieldAddr 36 (Operand.tmp 2) 4, none⟩,
                  ⟨some 30, Op.load 31 (Operand.tmp 29), none⟩,
                  ⟨some 31, Op.fieldAddr 36 (Operand.tmp 3) 4, none⟩,
                  ⟨some 32, Op.load 31 (Operand.tmp 31), none⟩,
                  ⟨some 33, Op.call { callee := Callee.value (Operand.func 50), args := #[Operand.tmp 30, Operand.tmp 32], argTypes := #[31, 31] }, none⟩,
                  ⟨some 34, Op.unOp UnOp.not 4 (Operand.tmp 33), none⟩])
                (.cond (Operand.tmp 34)
                  (.seq
                    (.region [] false ([]) [
                      ⟨some 4, Op.assign (Operand.const (Value.bool false)), none⟩])
                    .ret)
                  .skip))
              (.seq
                (.region [] false ([]) [
                  ⟨some 4, Op.assign (Operand.const (Value.bool true)), none⟩])
                .ret)))))))
set_option maxHeartbeats 0 in
theorem eqA (a : Au) (h : sumA a ≤ 1048576) : CallsF Try.prog 20 [.agg (encAu a), .agg (encAu a)] (.t (.v (.bool true))) [] := by
  unfold sumA at h
  refine callsF_of_wp1 (fn := Try.f20) (k := k20) (fun _ => []) mixed (by kernel_rfl) rfl (by kernel_rfl) (by kernel_rfl) (by kernel_rfl) rfl (by simp [Try.f20]) (by simp [Arg.like]) ?_
  generalize hst : St.enter [.agg (encAu a), .agg (encAu a)] = st0
  have t0 : st0.tm 0 = .agg ((encAu a) |>.map .t) := by rw [← hst]; rfl
  have t1 : st0.tm 1 = .agg ((encAu a) |>.map .t) := by rw [← hst]; rfl
  clear hst
  unfold k20
  simp [encAu] at t0 t1
  repeat' (first
    | (refine wp2_seq fun K hK => ?_)
    | (refine wp1_seq fun K hK => ?_)
    | (refine M_cons fun K hK => ?_)
    | (refine hK _ ?_; clear hK K)
    | (clear hK K; refine hK _ ?_; clear hK K)
    | (clear hK K; clear hK K; refine hK _ ?_; clear hK K)
    | (clear hK K; clear hK K; clear hK K; refine hK _ ?_; clear hK K)
    | (refine hX _ ?_; clear hX hY X Y)
    | (refine hY _ ?_; clear hX hY X Y)
    | (refine wp2_block ?_)
    | (refine wp1_block ?_)
    | (refine wp2_region ?_)
    | (refine wp1_region ?_)
    | (refine wp2_cond fun X Y hX hY => ?_)
    | (refine wp1_cond fun X Y hX hY => ?_)
    | (refine condK_of (fun c => ?_) (fun c => ?_) <;> (try simp [-List.length_eq_zero_iff] at c))
    | (refine guard1_or (fun c => ?_) (fun c => ?_) <;> (have cc := c) <;> (try simp [-List.length_eq_zero_iff] at cc) <;> (try simp (disch := omega) [t0, t1, c]))
    | (refine callT_fl (eqI _ _ ?_ ?_) (by simp [St.args, St.arg, t0, t1] <;> first | rfl | ((repeat' first | rfl | apply And.intro); done)) (by first | (simp [RV.flat, RV.flats, T.flat]; done) | ((repeat' first | exact flat_intRow _ | exact flat_boolRow _ | exact trivial | constructor | unfold RV.flat | unfold RV.flats); done)) (by simp [mutsOf]) ?_; omega; omega)
    | (refine callT_fl (eqB _ _ ?_ ?_) (by simp [St.args, St.arg, t0, t1] <;> first | rfl | ((repeat' first | rfl | apply And.intro); done)) (by first | (simp [RV.flat, RV.flats, T.flat]; done) | ((repeat' first | exact flat_intRow _ | exact flat_boolRow _ | exact trivial | constructor | unfold RV.flat | unfold RV.flats); done)) (by simp [mutsOf]) ?_; omega; omega)
    | (simp (disch := omega) [t0, t1]))
  all_goals try (simp [t0, t1, Back]; done)
end Cal

set_option linter.unusedSimpArgs false
set_option linter.unusedVariables false
namespace Cal
open Go Go.Proofs Auto AC
set_option maxRecDepth 100000
@[simp] theorem bools_sl (l : List Bool) : T.sl (boolRow l) = bools l := rfl
theorem i64_wf {n : Int} (h : (Lit.int .i64 n).wf = true) : -9223372036854775808 ≤ n ∧ n < 9223372036854775808 := by
  simp [Lit.wf, IntKind.min, IntKind.max, IntKind.signed, IntKind.bits] at h
  omega
/-- The code of laws.FnExactStepAuto. -/
def k8 : Code1 :=
  (.seq
    (.region [3] false ([]) [
      ⟨some 3, Op.box 33 (Operand.tmp 0), none⟩,
      ⟨some 6, Op.assign (Operand.const (Value.bool false)), none⟩])
    (.seq
      (.region [] false ([]) [
        ⟨some 7, Op.assign (Operand.const (Value.int IntKind.i64 1048576)), none⟩])
      (.seq
        (.region [13] false ([]) [
          ⟨some 11, Op.load 33 (Operand.tmp 3), none⟩,
          ⟨some 12, Op.move (Operand.tmp 7), none⟩,
          ⟨some 13, Op.call { callee := Callee.value (Operand.func 16), args := #[Operand.tmp 11, Operand.tmp 12], argTypes := #[33, 3] }, none⟩,
          ⟨some 7, Op.assign (Operand.tmp 13), none⟩])
        (.seq
          (.seq
            (.region [] false ([]) [
              ⟨some 14, Op.move (Operand.tmp 7), none⟩,
              ⟨some 15, Op.binOp BinOp.lss 3 (Operand.tmp 14) (Operand.const (Value.int IntKind.i64 0)) 3, none⟩])
            (.cond (Operand.tmp 15)
              (.seq
                (.region [] false ([]) [
                  ⟨some 6, Op.assign (Operand.const (Value.bool true)), none⟩])
                .ret)
              .skip))
          (.seq
            (.region [17, 20] false ([]) [
              ⟨some 16, Op.load 33 (Operand.tmp 3), none⟩,
              ⟨some 17, Op.call { callee := Callee.value (Operand.func 18), args := #[Operand.tmp 16], argTypes := #[33] }, none⟩,
              ⟨some 18, Op.move (Operand.tmp 1), none⟩,
              ⟨some 19, Op.move (Operand.tmp 2), none⟩,
              ⟨some 20, Op.call { callee := Callee.value (Operand.func 32), args := #[Operand.tmp 17, Operand.tmp 18, Operand.tmp 19], argTypes := #[36, 2, 2] }, none⟩,
              ⟨some 8, Op.assign (Operand.tmp 20), none⟩])
            (.seq
              (.region [22, 9] false ([]) [
                ⟨some 21, Op.load 33 (Operand.tmp 3), none⟩,
                ⟨some 22, Op.call { callee := Callee.value (Operand.func 18), args := #[Operand.tmp 21], argTypes := #[33] }, none⟩,
                ⟨some 9, Op.alloc 36, none⟩,
                ⟨none, Op.store 36 (Operand.tmp 9) (Operand.tmp 22), none⟩])
              (.seq
                (.region [26] false ([]) [
                  ⟨some 23, Op.load 36 (Operand.tmp 9), none⟩,
                  ⟨some 24, Op.move (Operand.tmp 1), none⟩,
                  ⟨some 25, Op.move (Operand.tmp 2), none⟩,
                  ⟨some 26, Op.call { callee := Callee.value (Operand.func 33), args := #[Operand.tmp 23, Operand.tmp 24, Operand.tmp 25], argTypes := #[36, 2, 2] }, none⟩,
                  ⟨some 10, Op.assign (Operand.tmp 26), none⟩])
                (.seq
                  (.seq
                    (.region [] false ([]) [
                      ⟨some 27, Op.move (Operand.tmp 10), none⟩,
                      ⟨some 28, Op.move (Operand.tmp 8), none⟩,
                      ⟨some 29, Op.binOp BinOp.neq 2 (Operand.tmp 27) (Operand.tmp 28) 2, none⟩])
                    (.cond (Operand.tmp 29)
                      (.seq
                        (.region [] false ([]) [
                          ⟨some 6, Op.assign (Operand.const (Value.bool false)), none⟩])
                        .ret)
                      .skip))
                  (.seq
                    (.seq
                      (.region [32, 33] true ([]) [
                        ⟨some 30, Op.load 36 (Operand.tmp 9), none⟩,
                        ⟨some 31, Op.load 33 (Operand.tmp 3), none⟩,
                        ⟨some 32, Op.call { callee := Callee.value (Operand.func 18), args := #[Operand.tmp 31], argTypes := #[33] }, none⟩,
                        ⟨some 33, Op.call { callee := Callee.value (Operand.func 20), args := #[Operand.tmp 30, Operand.tmp 32], argTypes := #[36, 36] }, none⟩,
                        ⟨some 34, Op.unOp UnOp.not 4 (Operand.tmp 33), none⟩])
                      (.cond (Operand.tmp 34)
                        (.seq
                          (.region [] false ([]) [
                            ⟨some 6, Op.assign (Operand.const (Value.bool false)), none⟩])
                          .ret)
                        .skip))
                    (.seq
                      (.region [] false ([]) [
                        ⟨some 6, Op.assign (Operand.const (Value.bool true)), none⟩])
                      .ret))))))))))
set_option maxHeartbeats 0 in
theorem lawSA (a : Au) (s e : Int) (hg : smallA a) (hs0 : (Lit.int .i64 s).wf = true) (he0 : (Lit.int .i64 e).wf = true) : CallsF Try.prog 8 [.agg (encAu a), .val (.v (.int .i64 s)), .val (.v (.int .i64 e))] (.t (.v (.bool true))) [] := by
  have he := i64_wf he0
  refine callsF_of_wp1 (fn := Try.f8) (k := k8) (fun _ => []) mixed (by kernel_rfl) rfl (by kernel_rfl) (by kernel_rfl) (by kernel_rfl) rfl (by simp [Try.f8]) (by simp [Arg.like]) ?_
  generalize hst : St.enter [.agg (encAu a), .val (.v (.int .i64 s)), .val (.v (.int .i64 e))] = st0
  have t0 : st0.tm 0 = .agg ((encAu a) |>.map .t) := by rw [← hst]; rfl
  have t1 : st0.tm 1 = .t (.v (.int .i64 s)) := by rw [← hst]; rfl
  have t2 : st0.tm 2 = .t (.v (.int .i64 e)) := by rw [← hst]; rfl
  clear hst
  unfold k8
  simp [encAu] at t0
  by_cases hs : 1048576 < sumA a
  · repeat' (first
      | (refine wp2_seq fun K hK => ?_)
      | (refine wp1_seq fun K hK => ?_)
      | (refine M_cons fun K hK => ?_)
      | (refine hK _ ?_; clear hK K)
      | (clear hK K; refine hK _ ?_; clear hK K)
      | (clear hK K; clear hK K; refine hK _ ?_; clear hK K)
      | (clear hK K; clear hK K; clear hK K; refine hK _ ?_; clear hK K)
      | (refine hX _ ?_; clear hX hY X Y)
      | (refine hY _ ?_; clear hX hY X Y)
      | (refine wp2_block ?_)
      | (refine wp1_block ?_)
      | (refine wp2_region ?_)
      | (refine wp1_region ?_)
      | (refine wp2_cond fun X Y hX hY => ?_)
      | (refine wp1_cond fun X Y hX hY => ?_)
      | (refine condK_of (fun c => ?_) (fun c => ?_) <;> (try simp [-List.length_eq_zero_iff] at c))
      | (refine guard1_or (fun c => ?_) (fun c => ?_) <;> (have cc := c) <;> (try simp [-List.length_eq_zero_iff] at cc) <;> (try simp (disch := omega) [t0, t1, t2, hs, encAu, c]))
      | (refine callT_fl (szA a _ hg ?_ ?_) (by simp [St.args, St.arg, t0, t1, t2, hs, encAu] <;> first | rfl | ((repeat' first | rfl | apply And.intro); done)) (by first | (simp [RV.flat, RV.flats, T.flat]; done) | ((repeat' first | exact flat_intRow _ | exact flat_boolRow _ | exact trivial | constructor | unfold RV.flat | unfold RV.flats); done)) (by simp [mutsOf]) ?_; omega; omega)
      | (simp (disch := omega) [t0, t1, t2, hs, encAu]))
    all_goals try (simp [t0, t1, t2, hs, encAu, Back]; done)
  · have hs2 : sumA a ≤ 1048576 := by omega
    have hq := hs2
    unfold sumA at hq
    have hs3 : 0 ≤ 1048576 - sumA a := by omega
    have hl : lensA a := ⟨by omega, by omega, by omega, by omega, by omega⟩
    repeat' (first
      | (refine wp2_seq fun K hK => ?_)
      | (refine wp1_seq fun K hK => ?_)
      | (refine M_cons fun K hK => ?_)
      | (refine hK _ ?_; clear hK K)
      | (clear hK K; refine hK _ ?_; clear hK K)
      | (clear hK K; clear hK K; refine hK _ ?_; clear hK K)
      | (clear hK K; clear hK K; clear hK K; refine hK _ ?_; clear hK K)
      | (refine hX _ ?_; clear hX hY X Y)
      | (refine hY _ ?_; clear hX hY X Y)
      | (refine wp2_block ?_)
      | (refine wp1_block ?_)
      | (refine wp2_region ?_)
      | (refine wp1_region ?_)
      | (refine wp2_cond fun X Y hX hY => ?_)
      | (refine wp1_cond fun X Y hX hY => ?_)
      | (refine condK_of (fun c => ?_) (fun c => ?_) <;> (try simp [-List.length_eq_zero_iff] at c))
      | (refine guard1_or (fun c => ?_) (fun c => ?_) <;> (have cc := c) <;> (try simp [-List.length_eq_zero_iff] at cc) <;> (try simp (disch := omega) [t0, t1, t2, hs, encAu, rvA, c]))
      | (refine callT_fl (szA a _ hg ?_ ?_) (by simp [St.args, St.arg, t0, t1, t2, hs, encAu, rvA] <;> first | rfl | ((repeat' first | rfl | apply And.intro); done)) (by first | (simp [RV.flat, RV.flats, T.flat]; done) | ((repeat' first | exact flat_intRow _ | exact flat_boolRow _ | exact trivial | constructor | unfold RV.flat | unfold RV.flats); done)) (by simp [mutsOf]) ?_; omega; omega)
      | (refine callT_fl (toA a ?_) (by simp [St.args, St.arg, t0, t1, t2, hs, encAu, rvA] <;> first | rfl | ((repeat' first | rfl | apply And.intro); done)) (by first | (simp [RV.flat, RV.flats, T.flat]; done) | ((repeat' first | exact flat_intRow _ | exact flat_boolRow _ | exact trivial | constructor | unfold RV.flat | unfold RV.flats); done)) (by simp [mutsOf]) ?_; omega)
      | (refine callT_fl (sstep_c a hl s e he) (by simp [St.args, St.arg, t0, t1, t2, hs, encAu, rvA] <;> first | rfl | ((repeat' first | rfl | apply And.intro); done)) (by first | (simp [RV.flat, RV.flats, T.flat]; done) | ((repeat' first | exact flat_intRow _ | exact flat_boolRow _ | exact trivial | constructor | unfold RV.flat | unfold RV.flats); done)) (by simp [mutsOf]) ?_)
      | (refine callT_fl (istep_c a hl s e he) (by simp [St.args, St.arg, t0, t1, t2, hs, encAu, rvA] <;> first | rfl | ((repeat' first | rfl | apply And.intro); done)) (by first | (simp [RV.flat, RV.flats, T.flat]; done) | ((repeat' first | exact flat_intRow _ | exact flat_boolRow _ | exact trivial | constructor | unfold RV.flat | unfold RV.flats); done)) (by simp [mutsOf]) ?_)
      | (refine callT_fl (eqA a ?_) (by simp [St.args, St.arg, t0, t1, t2, hs, encAu, rvA] <;> first | rfl | ((repeat' first | rfl | apply And.intro); done)) (by first | (simp [RV.flat, RV.flats, T.flat]; done) | ((repeat' first | exact flat_intRow _ | exact flat_boolRow _ | exact trivial | constructor | unfold RV.flat | unfold RV.flats); done)) (by simp [mutsOf]) ?_; omega)
      | (simp (disch := omega) [t0, t1, t2, hs, encAu, rvA]))
    all_goals try (simp [t0, t1, t2, hs, encAu, rvA, Back]; done)
end Cal

set_option linter.unusedSimpArgs false
set_option linter.unusedVariables false
namespace Cal
open Go Go.Proofs Auto AC
set_option maxRecDepth 100000
theorem I64_wf {l : List Int} (h : ∀ n ∈ l, (Lit.int .i64 n).wf = true) : I64 l := I64_of fun s hs => by
  rw [List.getD_eq_getElem?_getD, List.getElem?_eq_getElem hs]
  exact i64_wf (h _ (List.getElem_mem hs))
/-- The code of laws.FnExactRunAuto. -/
def k9 : Code1 :=
  (.seq
    (.region [2] false ([]) [
      ⟨some 2, Op.box 33 (Operand.tmp 0), none⟩,
      ⟨some 4, Op.assign (Operand.const (Value.bool false)), none⟩])
    (.seq
      (.seq
        (.region [] false ([]) [
          ⟨some 10, Op.move (Operand.tmp 1), none⟩,
          ⟨some 11, Op.call { callee := Callee.builtin Builtin.len, args := #[Operand.tmp 10], argTypes := #[22] }, none⟩,
          ⟨some 12, Op.binOp BinOp.gtr 3 (Operand.tmp 11) (Operand.const (Value.int IntKind.i64 1048576)) 3, none⟩])
        (.cond (Operand.tmp 12)
          (.seq
            (.region [] false ([]) [
              ⟨some 4, Op.assign (Operand.const (Value.bool true)), none⟩])
            .ret)
          .skip))
      (.seq
        (.region [] false ([]) [
          ⟨some 5, Op.assign (Operand.const (Value.int IntKind.i64 1048576)), none⟩])
        (.seq
          (.region [15] false ([]) [
            ⟨some 13, Op.load 33 (Operand.tmp 2), none⟩,
            ⟨some 14, Op.move (Operand.tmp 5), none⟩,
            ⟨some 15, Op.call { callee := Callee.value (Operand.func 16), args := #[Operand.tmp 13, Operand.tmp 14], argTypes := #[33, 3] }, none⟩,
            ⟨some 5, Op.assign (Operand.tmp 15), none⟩])
          (.seq
            (.seq
              (.region [] false ([]) [
                ⟨some 16, Op.move (Operand.tmp 5), none⟩,
                ⟨some 17, Op.binOp BinOp.lss 3 (Operand.tmp 16) (Operand.const (Value.int IntKind.i64 0)) 3, none⟩])
              (.cond (Operand.tmp 17)
                (.seq
                  (.region [] false ([]) [
                    ⟨some 4, Op.assign (Operand.const (Value.bool true)), none⟩])
                  .ret)
                .skip))
            (.seq
              (.region [19, 21, 22] false ([]) [
                ⟨some 18, Op.load 33 (Operand.tmp 2), none⟩,
                ⟨some 19, Op.call { callee := Callee.value (Operand.func 18), args := #[Operand.tmp 18], argTypes := #[33] }, none⟩,
                ⟨some 20, Op.move (Operand.tmp 1), none⟩,
                ⟨some 21, Op.call { callee := Callee.value (Operand.func 22), args := #[Operand.tmp 20], argTypes := #[22] }, none⟩,
                ⟨some 22, Op.call { callee := Callee.value (Operand.func 34), args := #[Operand.tmp 19, Operand.tmp 21], argTypes := #[36, 22] }, none⟩,
                ⟨some 6, Op.assign (Operand.tmp 22), none⟩])
              (.seq
                (.region [24, 7] false ([]) [
                  ⟨some 23, Op.load 33 (Operand.tmp 2), none⟩,
                  ⟨some 24, Op.call { callee := Callee.value (Operand.func 18), args := #[Operand.tmp 23], argTypes := #[33] }, none⟩,
                  ⟨some 7, Op.alloc 36, none⟩,
                  ⟨none, Op.store 36 (Operand.tmp 7) (Operand.tmp 24), none⟩])
                (.seq
                  (.region [26] false ([]) [
                    ⟨some 25, Op.move (Operand.tmp 1), none⟩,
                    ⟨some 26, Op.call { callee := Callee.value (Operand.func 22), args := #[Operand.tmp 25], argTypes := #[22] }, none⟩,
                    ⟨some 8, Op.assign (Operand.tmp 26), none⟩])
                  (.seq
                    (.region [29] false ([]) [
                      ⟨some 27, Op.load 36 (Operand.tmp 7), none⟩,
                      ⟨some 28, Op.move (Operand.tmp 8), none⟩,
                      ⟨some 29, Op.call { callee := Callee.value (Operand.func 35), args := #[Operand.tmp 27, Operand.tmp 28], argTypes := #[36, 22] }, none⟩,
                      ⟨some 9, Op.assign (Operand.tmp 29), none⟩])
                    (.seq
                      (.seq
                        (.region [] false ([]) [
                          ⟨some 30, Op.move (Operand.tmp 9), none⟩,
                          ⟨some 31, Op.move (Operand.tmp 6), none⟩,
                          ⟨some 32, Op.binOp BinOp.neq 2 (Operand.tmp 30) (Operand.tmp 31) 2, none⟩])
                        (.cond (Operand.tmp 32)
                          (.seq
                            (.region [] false ([]) [
                              ⟨some 4, Op.assign (Operand.const (Value.bool false)), none⟩])
                            .ret)
                          .skip))
                      (.seq
                        (.seq
                          (.region [35, 36] true ([]) [
                            ⟨some 33, Op.load 36 (Operand.tmp 7), none⟩,
                            ⟨some 34, Op.load 33 (Operand.tmp 2), none⟩,
                            ⟨some 35, Op.call { callee := Callee.value (Operand.func 18), args := #[Operand.tmp 34], argTypes := #[33] }, none⟩,
                            ⟨some 36, Op.call { callee := Callee.value (Operand.func 20), args := #[Operand.tmp 33, Operand.tmp 35], argTypes := #[36, 36] }, none⟩,
                            ⟨some 37, Op.unOp UnOp.not 4 (Operand.tmp 36), none⟩])
                          (.cond (Operand.tmp 37)
                            (.seq
                              (.region [] false ([]) [
                                ⟨some 4, Op.assign (Operand.const (Value.bool false)), none⟩])
                              .ret)
                            .skip))
                        (.seq
                          (.seq
                            (.region [40, 41] false ([]) [
                              ⟨some 38, Op.move (Operand.tmp 8), none⟩,
                              ⟨some 39, Op.move (Operand.tmp 1), none⟩,
                              ⟨some 40, Op.call { callee := Callee.value (Operand.func 22), args := #[Operand.tmp 39], argTypes := #[22] }, none⟩,
                              ⟨some 41, Op.call { callee := Callee.value (Operand.func 24), args := #[Operand.tmp 38, Operand.tmp 40], argTypes := #[22, 22] }, none⟩,
                              ⟨some 42, Op.unOp UnOp.not 4 (Operand.tmp 41), none⟩])
                            (.cond (Operand.tmp 42)
                              (.seq
                                (.region [] false ([]) [
                                  ⟨some 4, Op.assign (Operand.const (Value.bool false)), none⟩])
                                .ret)
                              .skip))
                          (.seq
                            (.region [] false ([]) [
                              ⟨some 4, Op.assign (Operand.const (Value.bool true)), none⟩])
                            .ret)))))))))))))
set_option maxHeartbeats 0 in
theorem lawRA (a : Au) (l : List Int) (hg : smallA a) (hz : ∀ n ∈ l, (Lit.int .i64 n).wf = true) : CallsF Try.prog 9 [.agg (encAu a), .val (ints l)] (.t (.v (.bool true))) [] := by
  have he := I64_wf hz
  refine callsF_of_wp1 (fn := Try.f9) (k := k9) (fun _ => []) mixed (by kernel_rfl) rfl (by kernel_rfl) (by kernel_rfl) (by kernel_rfl) rfl (by simp [Try.f9]) (by simp [Arg.like]) ?_
  generalize hst : St.enter [.agg (encAu a), .val (ints l)] = st0
  have t0 : st0.tm 0 = .agg ((encAu a) |>.map .t) := by rw [← hst]; rfl
  have t1 : st0.tm 1 = .t (ints l) := by rw [← hst]; rfl
  clear hst
  unfold k9
  simp [encAu] at t0
  by_cases hp : 1048576 < l.length
  · repeat' (first
      | (refine wp2_seq fun K hK => ?_)
      | (refine wp1_seq fun K hK => ?_)
      | (refine M_cons fun K hK => ?_)
      | (refine hK _ ?_; clear hK K)
      | (clear hK K; refine hK _ ?_; clear hK K)
      | (clear hK K; clear hK K; refine hK _ ?_; clear hK K)
      | (clear hK K; clear hK K; clear hK K; refine hK _ ?_; clear hK K)
      | (refine hX _ ?_; clear hX hY X Y)
      | (refine hY _ ?_; clear hX hY X Y)
      | (refine wp2_block ?_)
      | (refine wp1_block ?_)
      | (refine wp2_region ?_)
      | (refine wp1_region ?_)
      | (refine wp2_cond fun X Y hX hY => ?_)
      | (refine wp1_cond fun X Y hX hY => ?_)
      | (refine condK_of (fun c => ?_) (fun c => ?_) <;> (try simp [-List.length_eq_zero_iff] at c))
      | (refine guard1_or (fun c => ?_) (fun c => ?_) <;> (have cc := c) <;> (try simp [-List.length_eq_zero_iff] at cc) <;> (try simp (disch := omega) [t0, t1, hp, c]))
      | (simp (disch := omega) [t0, t1, hp]))
    all_goals try (simp [t0, t1, hp, Back]; done)
    all_goals first | omega | skip
  · have hp2 : l.length ≤ 1048576 := by omega
    by_cases hs : 1048576 < sumA a
    · repeat' (first
        | (refine wp2_seq fun K hK => ?_)
        | (refine wp1_seq fun K hK => ?_)
        | (refine M_cons fun K hK => ?_)
        | (refine hK _ ?_; clear hK K)
        | (clear hK K; refine hK _ ?_; clear hK K)
        | (clear hK K; clear hK K; refine hK _ ?_; clear hK K)
        | (clear hK K; clear hK K; clear hK K; refine hK _ ?_; clear hK K)
        | (refine hX _ ?_; clear hX hY X Y)
        | (refine hY _ ?_; clear hX hY X Y)
        | (refine wp2_block ?_)
        | (refine wp1_block ?_)
        | (refine wp2_region ?_)
        | (refine wp1_region ?_)
        | (refine wp2_cond fun X Y hX hY => ?_)
        | (refine wp1_cond fun X Y hX hY => ?_)
        | (refine condK_of (fun c => ?_) (fun c => ?_) <;> (try simp [-List.length_eq_zero_iff] at c))
        | (refine guard1_or (fun c => ?_) (fun c => ?_) <;> (have cc := c) <;> (try simp [-List.length_eq_zero_iff] at cc) <;> (try simp (disch := omega) [t0, t1, hs, encAu, c]))
        | (refine callT_fl (szA a _ hg ?_ ?_) (by simp [St.args, St.arg, t0, t1, hs, encAu] <;> first | rfl | ((repeat' first | rfl | apply And.intro); done)) (by first | (simp [RV.flat, RV.flats, T.flat]; done) | ((repeat' first | exact flat_intRow _ | exact flat_boolRow _ | exact trivial | constructor | unfold RV.flat | unfold RV.flats); done)) (by simp [mutsOf]) ?_; omega; omega)
        | (simp (disch := omega) [t0, t1, hs, encAu]))
      all_goals try (simp [t0, t1, hs, encAu, Back]; done)
      all_goals first | omega | skip
    · have hs2 : sumA a ≤ 1048576 := by omega
      have hq := hs2
      unfold sumA at hq
      have hs3 : 0 ≤ 1048576 - sumA a := by omega
      have hl : lensA a := ⟨by omega, by omega, by omega, by omega, by omega⟩
      repeat' (first
        | (refine wp2_seq fun K hK => ?_)
        | (refine wp1_seq fun K hK => ?_)
        | (refine M_cons fun K hK => ?_)
        | (refine hK _ ?_; clear hK K)
        | (clear hK K; refine hK _ ?_; clear hK K)
        | (clear hK K; clear hK K; refine hK _ ?_; clear hK K)
        | (clear hK K; clear hK K; clear hK K; refine hK _ ?_; clear hK K)
        | (refine hX _ ?_; clear hX hY X Y)
        | (refine hY _ ?_; clear hX hY X Y)
        | (refine wp2_block ?_)
        | (refine wp1_block ?_)
        | (refine wp2_region ?_)
        | (refine wp1_region ?_)
        | (refine wp2_cond fun X Y hX hY => ?_)
        | (refine wp1_cond fun X Y hX hY => ?_)
        | (refine condK_of (fun c => ?_) (fun c => ?_) <;> (try simp [-List.length_eq_zero_iff] at c))
        | (refine guard1_or (fun c => ?_) (fun c => ?_) <;> (have cc := c) <;> (try simp [-List.length_eq_zero_iff] at cc) <;> (try simp (disch := omega) [t0, t1, hs, encAu, rvA, c]))
        | (refine callT_fl (szA a _ hg ?_ ?_) (by simp [St.args, St.arg, t0, t1, hs, encAu, rvA] <;> first | rfl | ((repeat' first | rfl | apply And.intro); done)) (by first | (simp [RV.flat, RV.flats, T.flat]; done) | ((repeat' first | exact flat_intRow _ | exact flat_boolRow _ | exact trivial | constructor | unfold RV.flat | unfold RV.flats); done)) (by simp [mutsOf]) ?_; omega; omega)
        | (refine callT_fl (toA a ?_) (by simp [St.args, St.arg, t0, t1, hs, encAu, rvA] <;> first | rfl | ((repeat' first | rfl | apply And.intro); done)) (by first | (simp [RV.flat, RV.flats, T.flat]; done) | ((repeat' first | exact flat_intRow _ | exact flat_boolRow _ | exact trivial | constructor | unfold RV.flat | unfold RV.flats); done)) (by simp [mutsOf]) ?_; omega)
        | (refine callT_fl (toI _ ?_) (by simp [St.args, St.arg, t0, t1, hs, encAu, rvA] <;> first | rfl | ((repeat' first | rfl | apply And.intro); done)) (by first | (simp [RV.flat, RV.flats, T.flat]; done) | ((repeat' first | exact flat_intRow _ | exact flat_boolRow _ | exact trivial | constructor | unfold RV.flat | unfold RV.flats); done)) (by simp [mutsOf]) ?_; omega)
        | (refine callT_fl (srun_c a hl l hp2 he) (by simp [St.args, St.arg, t0, t1, hs, encAu, rvA] <;> first | rfl | ((repeat' first | rfl | apply And.intro); done)) (by first | (simp [RV.flat, RV.flats, T.flat]; done) | ((repeat' first | exact flat_intRow _ | exact flat_boolRow _ | exact trivial | constructor | unfold RV.flat | unfold RV.flats); done)) (by simp [mutsOf]) ?_)
        | (refine callT_fl (irun_c a hl l hp2 he) (by simp [St.args, St.arg, t0, t1, hs, encAu, rvA] <;> first | rfl | ((repeat' first | rfl | apply And.intro); done)) (by first | (simp [RV.flat, RV.flats, T.flat]; done) | ((repeat' first | exact flat_intRow _ | exact flat_boolRow _ | exact trivial | constructor | unfold RV.flat | unfold RV.flats); done)) (by simp [mutsOf]) ?_)
        | (refine callT_fl (eqA a ?_) (by simp [St.args, St.arg, t0, t1, hs, encAu, rvA] <;> first | rfl | ((repeat' first | rfl | apply And.intro); done)) (by first | (simp [RV.flat, RV.flats, T.flat]; done) | ((repeat' first | exact flat_intRow _ | exact flat_boolRow _ | exact trivial | constructor | unfold RV.flat | unfold RV.flats); done)) (by simp [mutsOf]) ?_; omega)
        | (refine callT_fl (eqI _ _ ?_ ?_) (by simp [St.args, St.arg, t0, t1, hs, encAu, rvA] <;> first | rfl | ((repeat' first | rfl | apply And.intro); done)) (by first | (simp [RV.flat, RV.flats, T.flat]; done) | ((repeat' first | exact flat_intRow _ | exact flat_boolRow _ | exact trivial | constructor | unfold RV.flat | unfold RV.flats); done)) (by simp [mutsOf]) ?_; omega; omega)
        | (simp (disch := omega) [t0, t1, hs, encAu, rvA]))
      all_goals try (simp [t0, t1, hs, encAu, rvA, Back]; done)
      all_goals first | omega | skip
end Cal
