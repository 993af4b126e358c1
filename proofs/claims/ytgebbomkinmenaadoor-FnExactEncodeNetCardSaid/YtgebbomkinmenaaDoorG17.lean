/- A part of the proof: a calculus of our own over the model's code, and contracts of the program's functions. -/
import Derived.Test.YtgebbomkinmenaaDoorG2
import Derived.Test.YtgebbomkinmenaaDoorG5
import Derived.Test.YtgebbomkinmenaaDoorG7
import Derived.Test.YtgebbomkinmenaaDoorG11
import Derived.Test.YtgebbomkinmenaaDoorG13
import Derived.Test.YtgebbomkinmenaaDoorG14
/- strconv.AppendInt to base ten, as a contract of the calculus. -/
set_option linter.unusedSimpArgs false
set_option linter.unusedVariables false
namespace Cal
open Go Go.Proofs Go.RowKit
set_option maxRecDepth 100000

theorem byteR_holds {w : World} {S : Nat → Prop} {b : Nat} : ∀ {l : List UInt8} {off : Nat}, Ereps w S b off 1 (byteR l) → Holds w b off (Lib.byteCells l)
  | [], off, _ => fun j u hj => by simp [Lib.byteCells] at hj
  | c :: l, off, h => fun j u hj => by
    rw [byteR_cons] at h
    unfold Ereps at h
    obtain ⟨_, h1, h2⟩ := h
    cases j with
    | zero =>
      unfold Creps at h1
      obtain ⟨⟨u', g1, g2⟩, _⟩ := h1
      unfold Trep at g2
      simp [Lib.byteCells] at hj
      show w.cell? ⟨b, off, none⟩ = _
      rw [g1, g2.1, ← hj]
    | succ j =>
      have := byteR_holds h2 j u (by simpa [Lib.byteCells] using hj)
      rw [← this]
      congr 2
      omega
theorem cells_byteR {w : World} {S : Nat → Prop} {b : Nat} : ∀ {l : List UInt8} {off : Nat}, Holds w b off (Lib.byteCells l) → Ereps w S b off 1 (byteR l) := fun {l off} h => strE_reps w S b l off h

theorem fixed_tab {P : Program} (hg : P.globalNamed "internal/strconv.uint64pow10" = some 0) {w : World} {bl : List Nat} (h : Fixed bl w) {b : Nat} (hb : b ∈ bl) : TabAside P (some b) w "internal/strconv.uint64pow10" .u64 Lib.pow10Tab := by
  intro w' hgr
  obtain ⟨⟨t, z, h1⟩, h2⟩ := h _ (List.mem_singleton.2 rfl)
  have hlt : 0 < w.heap.size := (Array.getElem?_eq_some_iff.1 h1).1
  unfold Lib.TabIs World.var?
  rw [hg]
  simp only [Option.bind_some]
  rw [hgr.block 0 hlt (fun e => h2 (by cases e; exact hb)), h1]
  simp [Lib.pow10Tab]

theorem appendInt_c (l : List UInt8) (n : Nat) (hn : n ≤ 1000000000) (hl : l.length ≤ 1000000000000) : CallsF Tryd.prog 62 [.mrow 1 (byteR l), .val (.v (.int .i64 n)), .val (.v (.int .i64 10))] (.own 1 (byteR (l ++ Lib.decDigits n))) [none] := by
  refine ⟨⟨Tryd.f62, by kernel_rfl, by kernel_rfl, rfl⟩, by simp [Arg.like], fun w S us usF ab hS hfl harg hnd hlt hfx => ?_⟩
  obtain rfl := flatU_nones _ _ _ hfl
  unfold ArgsRep at harg
  obtain ⟨u1, us1, a1, c1, rfl, rfl, h1, harg⟩ := harg
  unfold ArgsRep at harg
  obtain ⟨u2, us2, a2, c2, rfl, rfl, h2, harg⟩ := harg
  unfold ArgsRep at harg
  obtain ⟨u3, us3, a3, c3, rfl, rfl, h3, harg⟩ := harg
  unfold ArgsRep at harg
  obtain ⟨rfl, rfl⟩ := harg
  unfold ArgRep at h1 h2 h3
  obtain ⟨b, cap, rfl, rfl, ⟨⟨arr, ty, k1, k2⟩, k3, k4, k5⟩, k6⟩ := h1
  obtain ⟨rfl, h2⟩ := h2
  obtain ⟨rfl, h3⟩ := h3
  unfold Trep at h2 h3
  obtain ⟨rfl, _⟩ := h2
  obtain ⟨rfl, _⟩ := h3
  rw [byteR_len] at k3 ⊢
  rw [Nat.mul_one] at k2
  have hH := byteR_holds k5
  have hbl : (Lib.byteCells l).length = l.length := Lib.byteCells_length l
  have hown : OwnsB w (.slice (some ⟨b, 0, none⟩) l.length cap) l.length (Lib.byteCells l) := by
    refine ⟨hbl, b, cap, arr, ty, rfl, k1, k3, k4, k2, ?_⟩
    apply List.ext_getElem?
    intro j
    rw [List.getElem?_take]
    by_cases hj : j < l.length
    · rw [if_pos hj, Array.getElem?_toList]
      have := hH j _ (List.getElem?_eq_getElem (by omega))
      unfold World.cell? at this
      simp only [k1, Nat.zero_add] at this
      rw [List.getElem?_eq_getElem (by omega), ← this]
      simp
    · rw [if_neg hj, List.getElem?_eq_none (by omega)]
  have hlt' : b < w.heap.size := (Array.getElem?_eq_some_iff.1 k1).1
  refine Calls.mono (Any.appendInt Tryd.laysAI l.length (n : Int) (by omega) (by omega) (.slice (some ⟨b, 0, none⟩) l.length cap) (Lib.byteCells l) w hown (by omega) (fixed_tab (by kernel_rfl) hfx (by simp))) fun e w' he => ?_
  simp only [Lib.itoa_nonneg] at he
  obtain ⟨v', rfl, ⟨o1, g, cp, cur, ty', rfl, o2, o3, o4, o5, o6⟩, hgr, hat⟩ := he
  have hold : ∀ k, k < w.heap.size → k ≠ b → w'.heap[k]? = w.heap[k]? := fun k hk hne => hgr.block k hk (by simp [Value.ownBlock]; exact hne)
  have hg : g = b ∨ w.heap.size ≤ g := by
    rcases hat g rfl with h | h
    · simp [Value.ownBlock] at h; exact .inl h
    · exact .inr h
  have hSg : ¬ S g := fun hs => by
    rcases hg with rfl | hg
    · exact k6 hs
    · have := hS g hs; omega
  have hw : g < w'.heap.size := (Array.getElem?_eq_some_iff.1 o2).1
  have hcells : Lib.byteCells l ++ Lib.byteCells (Lib.decDigits n) = Lib.byteCells (l ++ Lib.decDigits n) := by simp [Lib.byteCells]
  refine ⟨_, S, [g], rfl, ⟨hfx, hgr.os, hgr.tape, hgr.output, hgr.size, fun k hk hne => hold k hk (by simpa using hne)⟩, fun _ h => h, fun k hk => ⟨Nat.lt_of_lt_of_le (hS k hk) hgr.size, .inl hk⟩, ?_, by simp [liveOuts], fun k hk => ?_, by simp [OutReps, OutRep]⟩
  · unfold RVrep
    refine ⟨g, cp, rfl, by simp, ⟨cur, ty', o2, by rw [Nat.mul_one]; exact o5⟩, by simpa using o3, o4, cells_byteR ?_⟩
    rw [← hcells]
    exact holds_take o2 o6
  · simp at hk
    subst hk
    exact ⟨hSg, hw, by rcases hg with h | h; exact .inr (by simp [h]); exact .inl h⟩
end Cal

/- spec.l1Dec: a number in digits. -/
set_option linter.unusedSimpArgs false
set_option linter.unusedVariables false
namespace Cal
open Go Go.Proofs
set_option maxRecDepth 100000
theorem dec_lo {n : Nat} (h : n < 10) : Lib.decDigits n = [UInt8.ofNat (48 + n)] := by rw [Lib.decDigits, dif_pos h]
theorem dec_hi {n : Nat} (h : ¬ n < 10) : Lib.decDigits n = Lib.decDigits (n / 10) ++ [UInt8.ofNat (48 + n % 10)] := by rw [Lib.decDigits, dif_neg h]
theorem dec_len {n : Nat} (h : n ≤ 10000000000) : (Lib.decDigits n).length ≤ 20 := by
  rw [Lib.decDigits_length]
  rcases Nat.eq_zero_or_pos n with rfl | h1
  · rw [Lib.nDigits_small (by omega)]; omega
  · have := Lib.numDigits_eq n h1 (by omega)
    split at this <;> omega
/-- The code of spec.l1Dec. -/
def k26 : Code1 :=
 (.seq
 (.region [] false ([]) [
 ⟨some 2,Op.assign (Operand.const (Value.string {data:=#[]})),none⟩])
 (.seq
 (.seq
 (.region [] false ([]) [
 ⟨some 3,Op.move (Operand.tmp 0),none⟩,
 ⟨some 4,Op.binOp BinOp.lss 2 (Operand.tmp 3) (Operand.const (Value.int IntKind.i64 10)) 2,none⟩])
 (.cond (Operand.tmp 4)
 (.seq
 (.region [8] false ([]) [
 ⟨some 5,Op.move (Operand.tmp 0),none⟩,
 ⟨some 6,Op.binOp BinOp.add 2 (Operand.const (Value.int IntKind.i64 48)) (Operand.tmp 5) 2,none⟩,
 ⟨some 7,Op.convert 2 5 (Operand.tmp 6),none⟩,
 ⟨some 8,Op.buildSlice 29 1 #[(0,Operand.tmp 7)],none⟩,
 ⟨some 9,Op.convert 29 9 (Operand.tmp 8),none⟩,
 ⟨some 2,Op.assign (Operand.tmp 9),none⟩])
 .ret)
 .skip))
 (.seq
 (.region [12,17] true ([]) [
 ⟨some 10,Op.move (Operand.tmp 0),none⟩,
 ⟨some 11,Op.binOp BinOp.quo 2 (Operand.tmp 10) (Operand.const (Value.int IntKind.i64 10)) 2,none⟩,
 ⟨some 12,Op.call {callee:=Callee.value (Operand.func 26),args:=#[Operand.tmp 11],argTypes:=#[2]},none⟩,
 ⟨some 13,Op.move (Operand.tmp 0),none⟩,
 ⟨some 14,Op.binOp BinOp.rem 2 (Operand.tmp 13) (Operand.const (Value.int IntKind.i64 10)) 2,none⟩,
 ⟨some 15,Op.binOp BinOp.add 2 (Operand.const (Value.int IntKind.i64 48)) (Operand.tmp 14) 2,none⟩,
 ⟨some 16,Op.convert 2 5 (Operand.tmp 15),none⟩,
 ⟨some 17,Op.buildSlice 29 1 #[(0,Operand.tmp 16)],none⟩,
 ⟨some 18,Op.convert 29 9 (Operand.tmp 17),none⟩,
 ⟨some 19,Op.binOp BinOp.add 9 (Operand.tmp 12) (Operand.tmp 18) 9,none⟩,
 ⟨some 2,Op.assign (Operand.tmp 19),none⟩])
 .ret)))
set_option maxHeartbeats 0 in
theorem dec_c : ∀ n : Nat, n ≤ 1000000000 → CallsF Tryd.prog 26 [.val (.v (.int .i64 n))] (.t (.v (.string (bs (Lib.decDigits n))))) [] := by
  intro n
  induction n using Nat.strongRecOn with
  | _ n ih =>
  intro hn
  have hd := dec_len (n := n / 10) (by omega)
  by_cases h10 : n < 10
  · skip
    refine callsF_of_wp2 (fn := Tryd.f26) (k := k26) (fun _ => []) mixed (by kernel_rfl) rfl (by kernel_rfl) (by kernel_rfl) (by kernel_rfl) rfl (by simp [Tryd.f26]) (by simp [Arg.like]) ?_
    generalize hst : St.enter [.val (.v (.int .i64 n))] = st0
    have t0 : st0.tm 0 = .t (.v (.int .i64 n)) := by rw [← hst]; rfl
    clear hst
    unfold k26
    have e1 : bs (Lib.decDigits n) = bs [UInt8.ofNat (48 + (n : Int)).toNat] := by
      rw [dec_lo h10]
      congr 3
    repeat' (first
     | refine wp2_seq fun K hK => ?_
     | refine M_cons fun K hK => ?_
     | (refine hK _ ?_; clear hK K)
     | (refine hX _ ?_; clear hX hY X Y)
     | (refine hY _ ?_; clear hX hY X Y)
     | refine wp2_region ?_
     | refine wp2_cond fun X Y hX hY => ?_
     | (refine condK_of (fun c => ?_) (fun c => ?_) <;> (try simp [-List.length_eq_zero_iff] at c))
     | simp (maxSteps := 4000000) (disch := omega) [t0, e1])
    all_goals try (simp [t0, e1, Back]; done)
    all_goals omega
  · have c1 := ih (n / 10) (by omega) (by omega)
    refine callsF_of_wp2 (fn := Tryd.f26) (k := k26) (fun _ => []) mixed (by kernel_rfl) rfl (by kernel_rfl) (by kernel_rfl) (by kernel_rfl) rfl (by simp [Tryd.f26]) (by simp [Arg.like]) ?_
    generalize hst : St.enter [.val (.v (.int .i64 n))] = st0
    have t0 : st0.tm 0 = .t (.v (.int .i64 n)) := by rw [← hst]; rfl
    clear hst
    unfold k26
    have e1 : bs (Lib.decDigits n) = bs (Lib.decDigits (n / 10) ++ [UInt8.ofNat (48 + (n : Int) % 10).toNat]) := by
      rw [dec_hi h10]
      congr 4
    have l1 : [UInt8.ofNat (48 + (n : Int) % 10).toNat].length = 1 := rfl
    repeat' (first
     | refine wp2_seq fun K hK => ?_
     | refine M_cons fun K hK => ?_
     | (refine hK _ ?_; clear hK K)
     | (refine hX _ ?_; clear hX hY X Y)
     | (refine hY _ ?_; clear hX hY X Y)
     | refine wp2_region ?_
     | refine wp2_cond fun X Y hX hY => ?_
     | (refine condK_of (fun c => ?_) (fun c => ?_) <;> (try simp [-List.length_eq_zero_iff] at c))
     | (refine callT_fl (c1) (by simp [St.args, St.arg, t0, e1] <;> first | rfl | ((repeat' first | rfl | apply And.intro); first | done | fail)) ?_)
     | simp (maxSteps := 4000000) (disch := omega) [t0, e1])
    all_goals try (simp [t0, e1, Back]; done)
    all_goals omega
theorem dec_cI (x : Int) (h0 : 0 ≤ x) (h1 : x ≤ 1000000000) : CallsF Tryd.prog 26 [.val (.v (.int .i64 x))] (.t (.v (.string (bs (Lib.decDigits x.toNat))))) [] := by
  have := dec_c x.toNat (by omega)
  rwa [Int.toNat_of_nonneg h0] at this
theorem dec_lenI {x : Int} (h : x ≤ 1000000000) : (Lib.decDigits x.toNat).length ≤ 20 := dec_len (by omega)
end Cal

/- spec.l1Put, spec.l1PutLine: bytes put behind bytes. -/
set_option linter.unusedSimpArgs false
set_option linter.unusedVariables false
namespace Cal
open Go Go.Proofs
set_option maxRecDepth 100000
/-- The code of spec.l1Put. -/
def k24 : Code1 :=
 (.seq
 (.region [] false ([]) [
 ⟨some 4,Op.assign (Operand.const (Value.slice none 0 0)),none⟩])
 (.seq
 (.seq
 (.region [] false ([]) [
 ⟨some 5,Op.assign (Operand.const (Value.int IntKind.i64 0)),none⟩])
 (.block 0
 (.loop
 (.seq
 (.seq
 (.region [] false ([]) [
 ⟨some 6,Op.move (Operand.tmp 5),none⟩,
 ⟨some 7,Op.move (Operand.tmp 1),none⟩,
 ⟨some 8,Op.call {callee:=Callee.builtin Builtin.len,args:=#[Operand.tmp 7],argTypes:=#[9]},none⟩,
 ⟨some 9,Op.binOp BinOp.lss 3 (Operand.tmp 6) (Operand.tmp 8) 3,none⟩])
 (.cond (Operand.tmp 9)
 .skip
 (.exit 0)))
 (.seq
 (.block 1
 (.region [16,17] false ([]) [
 ⟨some 12,Op.move (Operand.tmp 0),none⟩,
 ⟨some 13,Op.move (Operand.tmp 1),none⟩,
 ⟨some 14,Op.move (Operand.tmp 5),none⟩,
 ⟨some 15,Op.index 9 (Operand.tmp 13) (Operand.tmp 14),none⟩,
 ⟨some 16,Op.buildSlice 29 1 #[(0,Operand.tmp 15)],none⟩,
 ⟨some 17,Op.call {callee:=Callee.builtin Builtin.append,args:=#[Operand.tmp 12,Operand.tmp 16],argTypes:=#[29,29]},none⟩,
 ⟨some 0,Op.assign (Operand.tmp 17),none⟩]))
 (.region [] false ([]) [
 ⟨some 10,Op.move (Operand.tmp 5),none⟩,
 ⟨some 11,Op.binOp BinOp.add 3 (Operand.tmp 10) (Operand.const (Value.int IntKind.i64 1)) 3,none⟩,
 ⟨some 5,Op.assign (Operand.tmp 11),none⟩]))))))
 (.seq
 (.region [] false ([]) [
 ⟨some 18,Op.move (Operand.tmp 0),none⟩,
 ⟨some 4,Op.assign (Operand.tmp 18),none⟩])
 .ret)))
set_option maxHeartbeats 0 in
theorem putS_c (l s : List UInt8) (h : l.length + s.length ≤ 10000000000) : CallsF Tryd.prog 24 [.mrow 1 (byteR l), .val (.v (.string (bs s)))] (.own 1 (byteR (l ++ s))) [none] := by
  refine callsF_of_wp2 (fn := Tryd.f24) (k := k24) (fun _ => []) mixed (by kernel_rfl) rfl (by kernel_rfl) (by kernel_rfl) (by kernel_rfl) rfl (by simp [Tryd.f24]) (by simp [Arg.like]) ?_
  generalize hst : St.enter [.mrow 1 (byteR l), .val (.v (.string (bs s)))] = st0
  have t0 : st0.tm 0 = .row (100000, 0) 1 0 ((byteR l)).length := by rw [← hst]; rfl
  have o0 : st0.ob (100000, 0) = some (.row 1 (byteR l)) := by rw [← hst]; rfl
  have t1 : st0.tm 1 = .t (.v (.string (bs s))) := by rw [← hst]; rfl
  clear hst
  unfold k24
  repeat' (first
   | refine wp2_seq fun K hK => ?_
   | refine M_cons fun K hK => ?_
   | (refine hK _ ?_; clear hK K)
   | refine wp2_block ?_
   | refine wp2_region ?_
   | simp (maxSteps := 4000000) (disch := omega) [t0, t1, o0])
  have hJ : ∀ (id : Id) (s1 : St), id = (100000, 0) ∨ id = (17, 0) → s1.tm 0 = .row id 1 0 (l.length + s.length) → s1.ob id = some (.row 1 (byteR (l ++ s))) → K s1 := by
    rintro id s1 (rfl | rfl) s0 o
    · repeat' (first
     | refine wp2_seq fun K hK => ?_
     | refine M_cons fun K hK => ?_
     | (refine hK _ ?_; clear hK K)
     | refine wp2_region ?_
     | simp (maxSteps := 4000000) (disch := omega) [s0, o])
      all_goals try (simp [s0, o, Back]; done)
    · repeat' (first
     | refine wp2_seq fun K hK => ?_
     | refine M_cons fun K hK => ?_
     | (refine hK _ ?_; clear hK K)
     | refine wp2_region ?_
     | simp (maxSteps := 4000000) (disch := omega) [s0, o])
      all_goals try (simp [s0, o, Back]; done)
  clear hK
  refine wp2_loop (fun n s1 => ∃ (id : Id) (k : Nat), (id = (100000, 0) ∨ id = (17, 0)) ∧ s1.tm 0 = .row id 1 0 (l.length + k) ∧ s1.ob id = some (.row 1 (byteR (l ++ s.take k))) ∧ s1.tm 1 = .t (.v (.string (bs s))) ∧ s1.tm 5 = .t (.v (.int .i64 k)) ∧ k ≤ s.length ∧ n = s.length - k) s.length ?_ ?_
  · exact ⟨(100000, 0), 0, .inl rfl, by simp [t0], by simp [o0], by simp [t1], by simp, by omega, by omega⟩
  · rintro n s1 ⟨id, k, hid, s0, o, s2, s5, hk, rfl⟩ K' hK'
    have tl : (l ++ s.take k).length = l.length + k := by rw [List.length_append, List.length_take]; omega
    by_cases hks : k < s.length
    · have e1 := take_rb hks
      rcases hid with rfl | rfl
      · repeat' (first
       | refine wp2_seq fun K hK => ?_
       | refine M_cons fun K hK => ?_
       | (refine hK _ ?_; clear hK K)
       | (refine hX _ ?_; clear hX hY X Y)
       | refine wp2_block ?_
       | refine wp2_region ?_
       | refine wp2_cond fun X Y hX hY => ?_
       | (refine condK_of (fun c => ?_) (fun c => ?_) <;> (try simp [-List.length_eq_zero_iff] at c))
       | simp (maxSteps := 4000000) (disch := omega) [s0, o, s2, s5, tl, hks])
        refine hK' (s.length - (k + 1)) _ (by omega) ⟨(17, 0), k + 1, .inr rfl, ?_⟩
        simp [s0, s2, s5, e1]
        omega
      · repeat' (first
       | refine wp2_seq fun K hK => ?_
       | refine M_cons fun K hK => ?_
       | (refine hK _ ?_; clear hK K)
       | (refine hX _ ?_; clear hX hY X Y)
       | refine wp2_block ?_
       | refine wp2_rename (mk := [16, 17]) 17 60017 (by decide) ?_
       | refine wp2_region ?_
       | refine wp2_cond fun X Y hX hY => ?_
       | (refine condK_of (fun c => ?_) (fun c => ?_) <;> (try simp [-List.length_eq_zero_iff] at c))
       | simp (maxSteps := 4000000) (disch := omega) [s0, o, s2, s5, tl, hks])
        refine hK' (s.length - (k + 1)) _ (by omega) ⟨(17, 0), k + 1, .inr rfl, ?_⟩
        simp [s0, s2, s5, e1]
        omega
    · have e1 : k = s.length := by omega
      subst e1
      rw [List.take_length] at o
      repeat' (first
       | refine wp2_seq fun K hK => ?_
       | refine M_cons fun K hK => ?_
       | (refine hK _ ?_; clear hK K)
       | (refine hY _ ?_; clear hX hY X Y)
       | refine wp2_region ?_
       | refine wp2_cond fun X Y hX hY => ?_
       | (refine condK_of (fun c => ?_) (fun c => ?_) <;> (try simp [-List.length_eq_zero_iff] at c))
       | simp (maxSteps := 4000000) (disch := omega) [s0, o, s2, s5])
      all_goals first | omega | skip
      exact hJ id _ hid (by simp [s0]) (by simp [o])
theorem take_snoc {r : List Int} {k : Nat} (h : k < r.length) : r.take (k + 1) = r.take k ++ [rd r k] := by
  have h1 := rd_at (xs := r) (i := (k : Int)) (by omega) (by omega)
  rw [Int.toNat_natCast] at h1
  rw [List.take_add_one, h1]
  rfl
/-- Numbers in a line, each behind a space. -/
def nums : List Int → List UInt8
  | [] => []
  | v :: vs => 32 :: Lib.decDigits v.toNat ++ nums vs
theorem nums_append (a b : List Int) : nums (a ++ b) = nums a ++ nums b := by
  induction a with
  | nil => rfl
  | cons v a ih => simp [nums, ih]
theorem nums_len {v : List Int} (h : ∀ x ∈ v, x ≤ 1000000000) : (nums v).length ≤ 21 * v.length := by
  induction v with
  | nil => simp [nums]
  | cons x v ih =>
    have h1 := dec_len (n := x.toNat) (by have := h x (by simp); omega)
    have h2 := ih fun y hy => h y (by simp [hy])
    simp only [nums, List.length_cons, List.length_append]
    omega
/-- The code of spec.l1PutLine. -/
def k25 : Code1 :=
 (.seq
 (.region [] false ([]) [
 ⟨some 6,Op.assign (Operand.const (Value.slice none 0 0)),none⟩])
 (.seq
 (.region [10] false ([]) [
 ⟨some 8,Op.move (Operand.tmp 0),none⟩,
 ⟨some 9,Op.move (Operand.tmp 1),none⟩,
 ⟨some 10,Op.call {callee:=Callee.value (Operand.func 24),args:=#[Operand.tmp 8,Operand.tmp 9],argTypes:=#[29,9]},none⟩,
 ⟨some 0,Op.assign (Operand.tmp 10),none⟩])
 (.seq
 (.seq
 (.region [] false ([]) [
 ⟨some 7,Op.assign (Operand.const (Value.int IntKind.i64 0)),none⟩])
 (.block 0
 (.loop
 (.seq
 (.seq
 (.region [] false ([]) [
 ⟨some 11,Op.move (Operand.tmp 7),none⟩,
 ⟨some 12,Op.move (Operand.tmp 2),none⟩,
 ⟨some 13,Op.call {callee:=Callee.builtin Builtin.len,args:=#[Operand.tmp 12],argTypes:=#[22]},none⟩,
 ⟨some 14,Op.binOp BinOp.lss 3 (Operand.tmp 11) (Operand.tmp 13) 3,none⟩])
 (.cond (Operand.tmp 14)
 .skip
 (.exit 0)))
 (.seq
 (.block 1
 (.region [22,24] false ([]) [
 ⟨some 17,Op.move (Operand.tmp 0),none⟩,
 ⟨some 18,Op.move (Operand.tmp 2),none⟩,
 ⟨some 19,Op.move (Operand.tmp 7),none⟩,
 ⟨some 20,Op.indexAddr 22 (Operand.tmp 18) (Operand.tmp 19),none⟩,
 ⟨some 21,Op.load 2 (Operand.tmp 20),none⟩,
 ⟨some 22,Op.call {callee:=Callee.value (Operand.func 26),args:=#[Operand.tmp 21],argTypes:=#[2]},none⟩,
 ⟨some 23,Op.binOp BinOp.add 9 (Operand.const (Value.string {data:=#[32]})) (Operand.tmp 22) 9,none⟩,
 ⟨some 24,Op.call {callee:=Callee.value (Operand.func 24),args:=#[Operand.tmp 17,Operand.tmp 23],argTypes:=#[29,9]},none⟩,
 ⟨some 0,Op.assign (Operand.tmp 24),none⟩]))
 (.region [] false ([]) [
 ⟨some 15,Op.move (Operand.tmp 7),none⟩,
 ⟨some 16,Op.binOp BinOp.add 3 (Operand.tmp 15) (Operand.const (Value.int IntKind.i64 1)) 3,none⟩,
 ⟨some 7,Op.assign (Operand.tmp 16),none⟩]))))))
 (.seq
 (.region [26,27] false ([]) [
 ⟨some 25,Op.move (Operand.tmp 0),none⟩,
 ⟨some 26,Op.buildSlice 29 1 #[(0,Operand.const (Value.int IntKind.u8 10))],none⟩,
 ⟨some 27,Op.call {callee:=Callee.builtin Builtin.append,args:=#[Operand.tmp 25,Operand.tmp 26],argTypes:=#[29,29]},none⟩,
 ⟨some 6,Op.assign (Operand.tmp 27),none⟩])
 .ret))))
set_option maxHeartbeats 0 in
theorem line_c (l s : List UInt8) (v : List Int) (hl : l.length ≤ 4000000000) (hs : s.length ≤ 1000) (hv : v.length ≤ 10000000) (hx : ∀ k : Nat, k < v.length → 0 ≤ rd v k ∧ rd v k ≤ 1000000000) : CallsF Tryd.prog 25 [.mrow 1 (byteR l), .val (.v (.string (bs s))), .val (ints v)] (.own 1 (byteR (l ++ s ++ nums v ++ [10]))) [none] := by
  have hm : ∀ x ∈ v, x ≤ 1000000000 := fun x hx' => by
    obtain ⟨k, hk, rfl⟩ := mem_rd.1 hx'
    exact (hx k hk).2
  have hlen : ∀ k, (nums (v.take k)).length ≤ 21 * 10000000 := fun k => by
    have h1 := nums_len (v := v.take k) fun x hx' => hm x (List.mem_of_mem_take hx')
    rw [List.length_take] at h1
    omega
  have c1 := putS_c l s (by omega)
  refine callsF_of_wp2 (fn := Tryd.f25) (k := k25) (fun _ => []) mixed (by kernel_rfl) rfl (by kernel_rfl) (by kernel_rfl) (by kernel_rfl) rfl (by simp [Tryd.f25]) (by simp [Arg.like]) ?_
  generalize hst : St.enter [.mrow 1 (byteR l), .val (.v (.string (bs s))), .val (ints v)] = st0
  have t0 : st0.tm 0 = .row (100000, 0) 1 0 ((byteR l)).length := by rw [← hst]; rfl
  have o0 : st0.ob (100000, 0) = some (.row 1 (byteR l)) := by rw [← hst]; rfl
  have t1 : st0.tm 1 = .t (.v (.string (bs s))) := by rw [← hst]; rfl
  have t2 : st0.tm 2 = .t (ints v) := by rw [← hst]; rfl
  clear hst
  unfold k25
  repeat' (first
   | refine wp2_seq fun K hK => ?_
   | refine M_cons fun K hK => ?_
   | (refine hK _ ?_; clear hK K)
   | refine wp2_block ?_
   | refine wp2_region ?_
   | (refine callT_gen true (c1) (fun _ => ⟨(by first | (simp [RV.flat, RV.flats, T.flat]; done) | ((repeat' first | exact flat_intRow _ | exact flat_boolRow _ | exact flat_byteR _ | exact trivial | constructor | unfold RV.flat | unfold RV.flats); first | done | fail)), (by (repeat' first | exact flat_intRow _ | exact flat_boolRow _ | exact flat_byteR _ | exact trivial | constructor | unfold Arg.flats | unfold Arg.flat); first | done | fail)⟩) (by simp [St.args, St.arg, t0, t1, t2, o0] <;> first | rfl | ((repeat' first | rfl | apply And.intro); first | done | fail)) (by simp [apartArgs, mutsOf, noRow, valsOf]) (by simp) ?_)
   | simp (maxSteps := 4000000) (disch := omega) [t0, t1, t2, o0])
  have hJ : ∀ (id : Id) (n : Nat) (s1 : St), id = (10, 0) ∨ id = (24, 0) → n = l.length + (s.length + (nums v).length) → s1.tm 0 = .row id 1 0 n → s1.ob id = some (.row 1 (byteR (l ++ (s ++ nums v)))) → K s1 := by
    have h2 := hlen v.length
    rw [List.take_length] at h2
    have h3 : (l ++ (s ++ nums v)).length = l.length + (s.length + (nums v).length) := by simp
    have e2 : l.length + (s.length + (nums v).length) + 1 = l.length + (s.length + ((nums v).length + 1)) := by omega
    rintro id n s1 (rfl | rfl) rfl s0 o
    · repeat' (first
     | refine wp2_seq fun K hK => ?_
     | refine M_cons fun K hK => ?_
     | (refine hK _ ?_; clear hK K)
     | refine wp2_region ?_
     | simp (maxSteps := 4000000) (disch := omega) [s0, o, e2])
      all_goals try (simp [s0, o, e2, Back]; done)
    · repeat' (first
     | refine wp2_seq fun K hK => ?_
     | refine M_cons fun K hK => ?_
     | (refine hK _ ?_; clear hK K)
     | refine wp2_region ?_
     | simp (maxSteps := 4000000) (disch := omega) [s0, o, e2])
      all_goals try (simp [s0, o, e2, Back]; done)
  clear hK
  refine wp2_loop (fun n s1 => ∃ (id : Id) (m k : Nat), (id = (10, 0) ∨ id = (24, 0)) ∧ m = l.length + (s.length + (nums (v.take k)).length) ∧ s1.tm 0 = .row id 1 0 m ∧ s1.ob id = some (.row 1 (byteR (l ++ (s ++ nums (v.take k))))) ∧ s1.tm 2 = .t (ints v) ∧ s1.tm 7 = .t (.v (.int .i64 k)) ∧ k ≤ v.length ∧ n = v.length - k) v.length ?_ ?_
  · exact ⟨(10, 0), l.length + s.length, 0, .inl rfl, by simp [nums], by simp, by simp [nums], by simp [t2], by simp, by omega, by omega⟩
  · rintro n s1 ⟨id, m, k, hid, hm', s0, o, s2, s7, hk, rfl⟩ K' hK'
    by_cases hkv : k < v.length
    · have h2 := hlen k
      have h3 : (l ++ (s ++ nums (v.take k))).length = l.length + (s.length + (nums (v.take k)).length) := by simp
      have x1 := hx k hkv
      have d1 := dec_cI (rd v k) x1.1 x1.2
      have d2 := dec_lenI x1.2
      have l1 : ([32] : List UInt8).length = 1 := rfl
      have l2 : (32 :: Lib.decDigits (rd v k).toNat).length = (Lib.decDigits (rd v k).toNat).length + 1 := rfl
      have c2 := putS_c (l ++ (s ++ nums (v.take k))) (32 :: Lib.decDigits (rd v k).toNat) (by omega)
      have e1 : nums (v.take (k + 1)) = nums (v.take k) ++ (32 :: Lib.decDigits (rd v k).toNat) := by
        rw [take_snoc hkv, nums_append]
        simp [nums]
      rcases hid with rfl | rfl
      · repeat' (first
       | refine wp2_seq fun K hK => ?_
       | refine M_cons fun K hK => ?_
       | (refine hK _ ?_; clear hK K)
       | (refine hX _ ?_; clear hX hY X Y)
       | refine wp2_block ?_
       | refine wp2_region ?_
       | refine wp2_cond fun X Y hX hY => ?_
       | (refine condK_of (fun c => ?_) (fun c => ?_) <;> (try simp [-List.length_eq_zero_iff] at c))
       | (refine callT_fl (d1) (by simp [St.args, St.arg, s0, o, s2, s7, hm', hkv] <;> first | rfl | ((repeat' first | rfl | apply And.intro); first | done | fail)) ?_)
       | (refine callT_gen true (c2) (fun _ => ⟨(by first | (simp [RV.flat, RV.flats, T.flat]; done) | ((repeat' first | exact flat_intRow _ | exact flat_boolRow _ | exact flat_byteR _ | exact trivial | constructor | unfold RV.flat | unfold RV.flats); first | done | fail)), (by (repeat' first | exact flat_intRow _ | exact flat_boolRow _ | exact flat_byteR _ | exact trivial | constructor | unfold Arg.flats | unfold Arg.flat); first | done | fail)⟩) (by simp [St.args, St.arg, s0, o, s2, s7, hm', hkv] <;> first | rfl | ((repeat' first | rfl | apply And.intro); first | done | fail)) (by simp [apartArgs, mutsOf, noRow, valsOf]) (by simp) ?_)
       | simp (maxSteps := 4000000) (disch := omega) [s0, o, s2, s7, hm', hkv])
        refine hK' (v.length - (k + 1)) _ (by omega) ⟨(24, 0), _, k + 1, .inr rfl, rfl, ?_⟩
        simp [s0, s2, s7, e1]
        omega
      · repeat' (first
       | refine wp2_seq fun K hK => ?_
       | refine M_cons fun K hK => ?_
       | (refine hK _ ?_; clear hK K)
       | (refine hX _ ?_; clear hX hY X Y)
       | refine wp2_block ?_
       | refine wp2_rename (mk := [22, 24]) 24 60024 (by decide) ?_
       | refine wp2_region ?_
       | refine wp2_cond fun X Y hX hY => ?_
       | (refine condK_of (fun c => ?_) (fun c => ?_) <;> (try simp [-List.length_eq_zero_iff] at c))
       | (refine callT_fl (d1) (by simp [St.args, St.arg, s0, o, s2, s7, hm', hkv] <;> first | rfl | ((repeat' first | rfl | apply And.intro); first | done | fail)) ?_)
       | (refine callT_gen true (c2) (fun _ => ⟨(by first | (simp [RV.flat, RV.flats, T.flat]; done) | ((repeat' first | exact flat_intRow _ | exact flat_boolRow _ | exact flat_byteR _ | exact trivial | constructor | unfold RV.flat | unfold RV.flats); first | done | fail)), (by (repeat' first | exact flat_intRow _ | exact flat_boolRow _ | exact flat_byteR _ | exact trivial | constructor | unfold Arg.flats | unfold Arg.flat); first | done | fail)⟩) (by simp [St.args, St.arg, s0, o, s2, s7, hm', hkv] <;> first | rfl | ((repeat' first | rfl | apply And.intro); first | done | fail)) (by simp [apartArgs, mutsOf, noRow, valsOf]) (by simp) ?_)
       | simp (maxSteps := 4000000) (disch := omega) [s0, o, s2, s7, hm', hkv])
        refine hK' (v.length - (k + 1)) _ (by omega) ⟨(24, 0), _, k + 1, .inr rfl, rfl, ?_⟩
        simp [s0, s2, s7, e1]
        omega
    · have e1 : k = v.length := by omega
      subst e1
      rw [List.take_length] at o hm'
      repeat' (first
       | refine wp2_seq fun K hK => ?_
       | refine M_cons fun K hK => ?_
       | (refine hK _ ?_; clear hK K)
       | (refine hY _ ?_; clear hX hY X Y)
       | refine wp2_region ?_
       | refine wp2_cond fun X Y hX hY => ?_
       | (refine condK_of (fun c => ?_) (fun c => ?_) <;> (try simp [-List.length_eq_zero_iff] at c))
       | simp (maxSteps := 4000000) (disch := omega) [s0, o, s2, s7])
      all_goals first | omega | skip
      exact hJ id _ _ hid hm' (by simp [s0]) (by simp [o])
end Cal

/- impl.put: a word and numbers put behind bytes. -/
set_option linter.unusedSimpArgs false
set_option linter.unusedVariables false
namespace Cal
open Go Go.Proofs
set_option maxRecDepth 100000
theorem dec_last : ∀ n : Nat, ∃ d e, Lib.decDigits n = d ++ [e] ∧ ¬ (e.toNat : Int) = 10 := by
  intro n
  have key : ∀ k : Nat, k < 10 → ¬ ((UInt8.ofNat (48 + k)).toNat : Int) = 10 := by
    intro k hk
    rw [UInt8.toNat_ofNat']
    omega
  by_cases h : n < 10
  · exact ⟨[], _, dec_lo h, key n h⟩
  · exact ⟨_, _, dec_hi h, key _ (Nat.mod_lt _ (by decide))⟩
/-- The body of a loop. -/
def k31_l0 : Code1 :=
 (.seq
 (.region [] false ([]) [
 ⟨some 15,Op.binOp BinOp.lss 3 (Operand.tmp 14) (Operand.tmp 13) 3,none⟩])
 (.seq
 (.cond (Operand.tmp 15)
 .skip
 (.exit 0))
 (.seq
 (.block 1
 (.seq
 (.region [] false ([]) [
 ⟨some 16,Op.indexAddr 22 (Operand.tmp 12) (Operand.tmp 14),none⟩,
 ⟨some 17,Op.load 2 (Operand.tmp 16),none⟩,
 ⟨some 8,Op.assign (Operand.tmp 17),none⟩])
 (.seq
 (.seq
 (.region [] false ([]) [
 ⟨some 18,Op.move (Operand.tmp 0),none⟩,
 ⟨some 19,Op.call {callee:=Callee.builtin Builtin.len,args:=#[Operand.tmp 18],argTypes:=#[29]},none⟩,
 ⟨some 20,Op.binOp BinOp.gtr 3 (Operand.tmp 19) (Operand.const (Value.int IntKind.i64 0)) 3,none⟩,
 ⟨some 21,Op.move (Operand.tmp 20),none⟩,
 ⟨some 22,Op.move (Operand.tmp 0),some (21,true)⟩,
 ⟨some 23,Op.move (Operand.tmp 0),some (21,true)⟩,
 ⟨some 24,Op.call {callee:=Callee.builtin Builtin.len,args:=#[Operand.tmp 23],argTypes:=#[29]},some (21,true)⟩,
 ⟨some 25,Op.binOp BinOp.sub 3 (Operand.tmp 24) (Operand.const (Value.int IntKind.i64 1)) 3,some (21,true)⟩,
 ⟨some 26,Op.indexAddr 29 (Operand.tmp 22) (Operand.tmp 25),some (21,true)⟩,
 ⟨some 27,Op.load 5 (Operand.tmp 26),some (21,true)⟩,
 ⟨some 28,Op.binOp BinOp.neq 5 (Operand.tmp 27) (Operand.const (Value.int IntKind.u8 10)) 5,some (21,true)⟩,
 ⟨some 29,Op.pick (Operand.tmp 21) (Operand.tmp 28) (Operand.const (Value.bool false)),none⟩])
 (.cond (Operand.tmp 29)
 (.region [31,32] false ([]) [
 ⟨some 30,Op.move (Operand.tmp 0),none⟩,
 ⟨some 31,Op.buildSlice 29 1 #[(0,Operand.const (Value.int IntKind.u8 32))],none⟩,
 ⟨some 32,Op.call {callee:=Callee.builtin Builtin.append,args:=#[Operand.tmp 30,Operand.tmp 31],argTypes:=#[29,29]},none⟩,
 ⟨some 0,Op.assign (Operand.tmp 32),none⟩])
 .skip))
 (.region [35] false ([]) [
 ⟨some 33,Op.move (Operand.tmp 0),none⟩,
 ⟨some 34,Op.move (Operand.tmp 8),none⟩,
 ⟨some 35,Op.call {callee:=Callee.value (Operand.func 62),args:=#[Operand.tmp 33,Operand.tmp 34,Operand.const (Value.int IntKind.i64 10)],argTypes:=#[29,2,3]},none⟩,
 ⟨some 0,Op.assign (Operand.tmp 35),none⟩]))))
 (.region [] false ([]) [
 ⟨some 36,Op.binOp BinOp.add 3 (Operand.tmp 14) (Operand.const (Value.int IntKind.i64 1)) 3,none⟩,
 ⟨some 14,Op.move (Operand.tmp 36),none⟩]))))
/-- The code of impl.put, its loops' bodies named. -/
def k31 : Code1 :=
 (.seq
 (.region [] false ([]) [
 ⟨some 6,Op.assign (Operand.const (Value.slice none 0 0)),none⟩])
 (.seq
 (.region [11] false ([]) [
 ⟨some 9,Op.move (Operand.tmp 0),none⟩,
 ⟨some 10,Op.move (Operand.tmp 1),none⟩,
 ⟨some 11,Op.call {callee:=Callee.builtin Builtin.append,args:=#[Operand.tmp 9,Operand.tmp 10],argTypes:=#[29,9]},none⟩,
 ⟨some 0,Op.assign (Operand.tmp 11),none⟩])
 (.seq
 (.seq
 (.region [] false ([]) [
 ⟨some 12,Op.move (Operand.tmp 2),none⟩,
 ⟨some 13,Op.call {callee:=Callee.builtin Builtin.len,args:=#[Operand.tmp 12],argTypes:=#[22]},none⟩,
 ⟨some 14,Op.move (Operand.const (Value.int IntKind.i64 0)),none⟩])
 (.block 0
 (.loop k31_l0)))
 (.seq
 (.region [] false ([]) [
 ⟨some 37,Op.move (Operand.tmp 0),none⟩,
 ⟨some 6,Op.assign (Operand.tmp 37),none⟩])
 .ret))))
set_option maxHeartbeats 0 in
theorem put_l0A (L : List UInt8) (v : List Int) (hL : L.length ≤ 10000000000) (hv : v.length ≤ 10000000) (hx : ∀ k : Nat, k < v.length → 0 ≤ rd v k ∧ rd v k ≤ 1000000000) {Q : Ex → St → Prop}
    (hE : ∀ (id : Id) (a : List UInt8) (z : UInt8) (s : St), (id = (11, 0) ∨ id = (35, 0)) → a ++ [z] = L ++ nums v → ¬ (z.toNat : Int) = 10 → s.tm 0 = .row id 1 0 (a.length + 1) → s.ob id = some (.row 1 (byteR (a ++ [z]))) → Q .normal s)
    (m : Nat) (s : St) (hs : (fun (m : Nat) (s : St) => ∃ (id : Id) (a : List UInt8) (z : UInt8) (k : Nat), (id = (11, 0) ∨ id = (35, 0)) ∧ a ++ [z] = L ++ nums (v.take k) ∧ ¬ (z.toNat : Int) = 10 ∧ s.tm 0 = .row id 1 0 (a.length + 1) ∧ s.ob id = some (.row 1 (byteR (a ++ [z]))) ∧ s.tm 12 = .t (ints v) ∧ s.tm 13 = .t (.v (.int .i64 v.length)) ∧ s.tm 14 = .t (.v (.int .i64 k)) ∧ k ≤ v.length ∧ m = v.length - k) m s) (K' : St → Prop)
    (hN : ∀ (m' : Nat) (s' : St), m' < m → (fun (m : Nat) (s : St) => ∃ (id : Id) (a : List UInt8) (z : UInt8) (k : Nat), (id = (11, 0) ∨ id = (35, 0)) ∧ a ++ [z] = L ++ nums (v.take k) ∧ ¬ (z.toNat : Int) = 10 ∧ s.tm 0 = .row id 1 0 (a.length + 1) ∧ s.ob id = some (.row 1 (byteR (a ++ [z]))) ∧ s.tm 12 = .t (ints v) ∧ s.tm 13 = .t (.v (.int .i64 v.length)) ∧ s.tm 14 = .t (.v (.int .i64 k)) ∧ k ≤ v.length ∧ m = v.length - k) m' s' → K' s') :
    wp2 Tryd.prog k31_l0 (thenQ K' (inBlk 0 Q)) s := by
  obtain ⟨id, a, z, k, hid, hac, hc10, s0, o, s12, s13, s14, hk, rfl⟩ := hs
  unfold k31_l0
  have hm : ∀ y ∈ v, y ≤ 1000000000 := fun y hy => by
    obtain ⟨j, hj, rfl⟩ := mem_rd.1 hy
    exact (hx j hj).2
  have hal : a.length + 1 = L.length + (nums (v.take k)).length := by
    have := congrArg List.length hac
    simpa using this
  have hnl := nums_len (v := v.take k) fun y hy => hm y (List.mem_of_mem_take hy)
  rw [List.length_take] at hnl
  by_cases hkv : k < v.length
  · have x1 := hx k hkv
    have d2 := dec_lenI x1.2
    have hat : (a ++ [z])[a.length]? = some z := by simp
    have hbt := byteR_get hat
    have h1 : (a ++ [z]).length = a.length + 1 := by simp
    have h2 : (a ++ [z] ++ [32]).length = a.length + 1 + 1 := by simp
    have c2 := appendInt_c (a ++ [z] ++ [32]) (rd v k).toNat (by omega) (by omega)
    rw [Int.toNat_of_nonneg x1.1] at c2
    obtain ⟨d, e, hde, he10⟩ := dec_last (rd v k).toNat
    have e1 : nums (v.take (k + 1)) = nums (v.take k) ++ (32 :: Lib.decDigits (rd v k).toNat) := by
      rw [take_snoc hkv, nums_append]
      simp [nums]
    have e3 : (Lib.decDigits (rd v k).toNat).length = d.length + 1 := by rw [hde]; simp
    rcases hid with rfl | rfl
    · repeat' (first
     | refine wp2_seq fun K hK => ?_
     | refine M_cons fun K hK => ?_
     | (refine hK _ ?_; clear hK K)
     | (refine hX _ ?_; clear hX hY X Y)
     | (refine hY _ ?_; clear hX hY X Y)
     | refine wp2_block ?_
     | refine wp2_region ?_
     | refine wp2_cond fun X Y hX hY => ?_
     | (refine condK_of (fun c => ?_) (fun c => ?_) <;> (try simp [-List.length_eq_zero_iff] at c))
     | simp (maxSteps := 4000000) (disch := omega) [s0, o, s12, s13, s14, hkv, hbt])
      all_goals try (exact absurd c hc10)
      repeat' (first
       | refine M_cons fun K hK => ?_
       | (refine hK _ ?_; clear hK K)
       | refine wp2_region ?_
       | (refine callT_gen true (c2) (fun _ => ⟨(by first | (simp [RV.flat, RV.flats, T.flat]; done) | ((repeat' first | exact flat_intRow _ | exact flat_boolRow _ | exact flat_byteR _ | exact trivial | constructor | unfold RV.flat | unfold RV.flats); first | done | fail)), (by (repeat' first | exact flat_intRow _ | exact flat_boolRow _ | exact flat_byteR _ | exact trivial | constructor | unfold Arg.flats | unfold Arg.flat); first | done | fail)⟩) (by simp [St.args, St.arg, s0, o, s12, s13, s14, hkv, hbt] <;> first | rfl | ((repeat' first | rfl | apply And.intro); first | done | fail)) (by simp [apartArgs, mutsOf, noRow, valsOf]) (by simp) ?_)
       | simp (maxSteps := 4000000) (disch := omega) [s0, o, s12, s13, s14, hkv, hbt])
      refine hN (v.length - (k + 1)) _ (by omega) ⟨(35, 0), a ++ [z] ++ [32] ++ d, e, k + 1, .inr rfl, ?_, he10, ?_⟩
      · rw [e1, hde, ← List.append_assoc, ← hac]
        simp
      · simp [s12, s13, s14, hde]
        omega
    · repeat' (first
     | refine wp2_seq fun K hK => ?_
     | refine M_cons fun K hK => ?_
     | (refine hK _ ?_; clear hK K)
     | (refine hX _ ?_; clear hX hY X Y)
     | (refine hY _ ?_; clear hX hY X Y)
     | refine wp2_block ?_
     | refine wp2_region ?_
     | refine wp2_cond fun X Y hX hY => ?_
     | (refine condK_of (fun c => ?_) (fun c => ?_) <;> (try simp [-List.length_eq_zero_iff] at c))
     | simp (maxSteps := 4000000) (disch := omega) [s0, o, s12, s13, s14, hkv, hbt])
      all_goals try (exact absurd c hc10)
      repeat' (first
       | refine M_cons fun K hK => ?_
       | (refine hK _ ?_; clear hK K)
       | refine wp2_region ?_
       | (refine callT_gen true (c2) (fun _ => ⟨(by first | (simp [RV.flat, RV.flats, T.flat]; done) | ((repeat' first | exact flat_intRow _ | exact flat_boolRow _ | exact flat_byteR _ | exact trivial | constructor | unfold RV.flat | unfold RV.flats); first | done | fail)), (by (repeat' first | exact flat_intRow _ | exact flat_boolRow _ | exact flat_byteR _ | exact trivial | constructor | unfold Arg.flats | unfold Arg.flat); first | done | fail)⟩) (by simp [St.args, St.arg, s0, o, s12, s13, s14, hkv, hbt] <;> first | rfl | ((repeat' first | rfl | apply And.intro); first | done | fail)) (by simp [apartArgs, mutsOf, noRow, valsOf]) (by simp) ?_)
       | simp (maxSteps := 4000000) (disch := omega) [s0, o, s12, s13, s14, hkv, hbt])
      refine hN (v.length - (k + 1)) _ (by omega) ⟨(35, 0), a ++ [z] ++ [32] ++ d, e, k + 1, .inr rfl, ?_, he10, ?_⟩
      · rw [e1, hde, ← List.append_assoc, ← hac]
        simp
      · simp [s12, s13, s14, hde]
        omega
  · have e1 : k = v.length := by omega
    subst e1
    rw [List.take_length] at hac
    repeat' (first
     | refine wp2_seq fun K hK => ?_
     | refine M_cons fun K hK => ?_
     | (refine hK _ ?_; clear hK K)
     | (refine hY _ ?_; clear hX hY X Y)
     | refine wp2_region ?_
     | refine wp2_cond fun X Y hX hY => ?_
     | (refine condK_of (fun c => ?_) (fun c => ?_) <;> (try simp [-List.length_eq_zero_iff] at c))
     | simp (maxSteps := 4000000) (disch := omega) [s0, o, s12, s13, s14])
    all_goals first | omega | skip
    exact hE id a z _ hid hac hc10 (by simp [s0]) (by simp [o])
/-- Bytes that end in something other than an end of line. -/
def okB (l : List UInt8) : Prop := ∃ (a : List UInt8) (z : UInt8), l = a ++ [z] ∧ ¬ (z.toNat : Int) = 10
set_option maxHeartbeats 0 in
theorem put_c (l w : List UInt8) (v : List Int) (hok : okB (l ++ w)) (hl : l.length ≤ 4000000000) (hw : w.length ≤ 1000) (hv : v.length ≤ 10000000) (hx : ∀ k : Nat, k < v.length → 0 ≤ rd v k ∧ rd v k ≤ 1000000000) :
    CallsF Tryd.prog 31 [.mrow 1 (byteR l), .val (.v (.string (bs w))), .val (ints v)] (.own 1 (byteR (l ++ w ++ nums v))) [none] := by
  obtain ⟨a, z, haz, hz⟩ := hok
  have hlen : l.length + w.length = a.length + 1 := by
    have := congrArg List.length haz
    simpa using this
  refine callsF_of_wp2 (fn := Tryd.f31) (k := k31) (fun _ => []) mixed (by kernel_rfl) rfl (by kernel_rfl) (by kernel_rfl) (by kernel_rfl) rfl (by simp [Tryd.f31]) (by simp [Arg.like]) ?_
  generalize hst : St.enter [.mrow 1 (byteR l), .val (.v (.string (bs w))), .val (ints v)] = st0
  have t0 : st0.tm 0 = .row (100000, 0) 1 0 ((byteR l)).length := by rw [← hst]; rfl
  have o0 : st0.ob (100000, 0) = some (.row 1 (byteR l)) := by rw [← hst]; rfl
  have t1 : st0.tm 1 = .t (.v (.string (bs w))) := by rw [← hst]; rfl
  have t2 : st0.tm 2 = .t (ints v) := by rw [← hst]; rfl
  clear hst
  unfold k31
  repeat' (first
   | refine wp2_seq fun K hK => ?_
   | refine M_cons fun K hK => ?_
   | (refine hK _ ?_; clear hK K)
   | refine wp2_block ?_
   | refine wp2_region ?_
   | simp (maxSteps := 4000000) (disch := omega) [t0, t1, t2, o0])
  refine wp2_loop _ v.length ?_ (put_l0A (l ++ w) v (by simp; omega) hv hx ?_)
  · exact ⟨(11, 0), a, z, 0, .inl rfl, by simp [nums, haz], hz, by simp [hlen], by simp [haz], by simp, by simp, by simp, by omega, by omega⟩
  · rintro id a z s hid h hz10 s0 o
    have hlen : a.length + 1 = l.length + (w.length + (nums v).length) := by
      have := congrArg List.length h
      simp at this
      omega
    rw [h] at o
    rw [hlen] at s0
    rcases hid with rfl | rfl
    · repeat' (first
     | refine wp2_seq fun K hK => ?_
     | refine M_cons fun K hK => ?_
     | (refine hK _ ?_; clear hK K)
     | refine wp2_region ?_
     | simp (maxSteps := 4000000) (disch := omega) [s0, o])
      all_goals try (simp [s0, o, Back]; done)
    · repeat' (first
     | refine wp2_seq fun K hK => ?_
     | refine M_cons fun K hK => ?_
     | (refine hK _ ?_; clear hK K)
     | refine wp2_region ?_
     | simp (maxSteps := 4000000) (disch := omega) [s0, o])
      all_goals try (simp [s0, o, Back]; done)
set_option maxHeartbeats 0 in
theorem put_full (l w : List UInt8) (v : List Int) (hok : okB (l ++ w)) (hl : l.length ≤ 4000000000) (hw : w.length ≤ 1000) (h0 : 0 < w.length) (hv : v.length ≤ 10000000) (hx : ∀ k : Nat, k < v.length → 0 ≤ rd v k ∧ rd v k ≤ 1000000000) :
    CallsFull Tryd.prog 31 (byteR l) [.val (.v (.string (bs w))), .val (ints v)] (.own 1 (byteR (l ++ w ++ nums v))) := by
  obtain ⟨a, z, haz, hz⟩ := hok
  have hlen : l.length + w.length = a.length + 1 := by
    have := congrArg List.length haz
    simpa using this
  refine callsFull_of_wp2 (fn := Tryd.f31) (k := k31) (fun _ => []) mixed (by kernel_rfl) rfl (by kernel_rfl) (by kernel_rfl) (by kernel_rfl) rfl (by simp [Tryd.f31]) (by simp [Arg.like]) ?_
  generalize hst : ({ St.enter [.val (.sl (byteR l)), .val (.v (.string (bs w))), .val (ints v)] with tm := fun t => if t = 0 then AV.full (byteR l) else (St.enter [.val (.sl (byteR l)), .val (.v (.string (bs w))), .val (ints v)]).tm t } : St) = st0
  have t0 : st0.tm 0 = .full (byteR l) := by rw [← hst]; rfl
  have t1 : st0.tm 1 = .t (.v (.string (bs w))) := by rw [← hst]; rfl
  have t2 : st0.tm 2 = .t (ints v) := by rw [← hst]; rfl
  clear hst
  unfold k31
  repeat' (first
   | refine wp2_seq fun K hK => ?_
   | refine M_cons fun K hK => ?_
   | (refine hK _ ?_; clear hK K)
   | refine wp2_block ?_
   | refine wp2_region ?_
   | simp (maxSteps := 4000000) (disch := omega) [t0, t1, t2])
  refine wp2_loop _ v.length ?_ (put_l0A (l ++ w) v (by simp; omega) hv hx ?_)
  · exact ⟨(11, 0), a, z, 0, .inl rfl, by simp [nums, haz], hz, by simp [hlen], by simp [haz], by simp, by simp, by simp, by omega, by omega⟩
  · rintro id a z s hid h hz10 s0 o
    have hlen : a.length + 1 = l.length + (w.length + (nums v).length) := by
      have := congrArg List.length h
      simp at this
      omega
    rw [h] at o
    rw [hlen] at s0
    rcases hid with rfl | rfl
    · repeat' (first
     | refine wp2_seq fun K hK => ?_
     | refine M_cons fun K hK => ?_
     | (refine hK _ ?_; clear hK K)
     | refine wp2_region ?_
     | simp (maxSteps := 4000000) (disch := omega) [s0, o])
      all_goals try (simp [s0, o, Back]; done)
    · repeat' (first
     | refine wp2_seq fun K hK => ?_
     | refine M_cons fun K hK => ?_
     | (refine hK _ ?_; clear hK K)
     | refine wp2_region ?_
     | simp (maxSteps := 4000000) (disch := omega) [s0, o])
      all_goals try (simp [s0, o, Back]; done)
end Cal

/- The text of a network, as bytes. -/
set_option linter.unusedSimpArgs false
set_option linter.unusedVariables false
namespace Cal
open Go Go.Proofs
set_option maxRecDepth 100000
def nodeT (x : Int) : List UInt8 := [110, 111, 100, 101] ++ nums [x] ++ [10]
/-- A way's nodes and lengths, in turn. -/
def wayV (w : Way) : Nat → List Int
  | 0 => [rd w.nodes 0]
  | j + 1 => wayV w j ++ [rd w.lens j, rd w.nodes ((j : Int) + 1)]
def wayT (w : Way) : List UInt8 := [119, 97, 121] ++ nums [w.id] ++ [32, if w.two then 98 else 102] ++ nums (wayV w w.lens.length) ++ [10]
def relW (b : Bool) : List UInt8 := if b then [111, 110, 108, 121] else [110, 111]
def relT (r : Rln) : List UInt8 := relW r.only ++ nums [r.id, r.fr] ++ (if r.atNode then [32, 97, 116] ++ nums [r.node, r.to] else [32, 98, 121] ++ nums (r.via ++ [r.to])) ++ [10]
def tcT (t : Tc) : List UInt8 := [116, 117, 114, 110] ++ nums [t.fr, t.to, t.cost] ++ [10]
def upT (f : Nat → List UInt8) : Nat → List UInt8
  | 0 => []
  | k + 1 => upT f k ++ f k
def hdT : List UInt8 := [114, 111, 97, 100, 110, 101, 116, 32, 49, 10]
def txtA (n : Net) (k : Nat) : List UInt8 := hdT ++ ([117, 116, 117, 114, 110] ++ nums [n.uturn] ++ [10]) ++ upT (fun i => nodeT (rd n.nodes i)) k
def txtB (n : Net) (k : Nat) : List UInt8 := txtA n n.nodes.length ++ upT (fun i => wayT (nth n.ways i)) k
def txtC (n : Net) (k : Nat) : List UInt8 := txtB n n.ways.length ++ upT (fun i => relT (nth n.rels i)) k
def txtD (n : Net) (k : Nat) : List UInt8 := txtC n n.rels.length ++ upT (fun i => tcT (nth n.tcs i)) k
theorem txtA_succ (n : Net) (k : Nat) : txtA n (k + 1) = txtA n k ++ nodeT (rd n.nodes k) := by simp [txtA, upT]
theorem txtB_succ (n : Net) (k : Nat) : txtB n (k + 1) = txtB n k ++ wayT (nth n.ways k) := by simp [txtB, upT]
theorem txtC_succ (n : Net) (k : Nat) : txtC n (k + 1) = txtC n k ++ relT (nth n.rels k) := by simp [txtC, upT]
theorem txtD_succ (n : Net) (k : Nat) : txtD n (k + 1) = txtD n k ++ tcT (nth n.tcs k) := by simp [txtD, upT]
theorem txtB_zero (n : Net) : txtB n 0 = txtA n n.nodes.length := by simp [txtB, upT]
theorem txtC_zero (n : Net) : txtC n 0 = txtB n n.ways.length := by simp [txtC, upT]
theorem txtD_zero (n : Net) : txtD n 0 = txtC n n.rels.length := by simp [txtD, upT]
theorem upT_len {f : Nat → List UInt8} {c : Nat} : ∀ {k : Nat}, (∀ i < k, (f i).length ≤ c) → (upT f k).length ≤ c * k
  | 0, _ => by simp [upT]
  | k + 1, h => by
    have h1 := upT_len (f := f) (c := c) (k := k) fun i hi => h i (by omega)
    have h2 := h k (by omega)
    unfold upT
    rw [List.length_append, Nat.mul_succ]
    omega
theorem wayV_length (w : Way) : ∀ j : Nat, (wayV w j).length = 2 * j + 1
  | 0 => rfl
  | j + 1 => by
    unfold wayV
    rw [List.length_append, wayV_length w j]
    simp
    omega

/-- A value that a line may bear. -/
def okV (x : Int) : Prop := 0 ≤ x ∧ x ≤ 1000000000
theorem okV_inR {x : Int} (h : inR x) : okV x := ⟨h.1, by have := h.2; omega⟩
theorem nums_le {v : List Int} (h : ∀ x ∈ v, okV x) : (nums v).length ≤ 21 * v.length := nums_len fun x hx => (h x hx).2
theorem okV_rd {v : List Int} (h : ∀ x ∈ v, okV x) : ∀ k : Nat, k < v.length → 0 ≤ rd v k ∧ rd v k ≤ 1000000000 := fun k hk => h _ (mem_rd.2 ⟨k, hk, rfl⟩)

theorem node_ok {n : Net} (h : VNet n) {x : Int} (hx : x ∈ n.nodes) : okV x := by
  obtain ⟨i, hi, rfl⟩ := mem_rd.1 hx
  exact okV_inR (h.ni i hi).1
theorem way_ok {n : Net} (h : VNet n) {x : Int} (hx : isWay n.ways x) : okV x := by
  obtain ⟨i, hi, rfl⟩ := hx
  exact okV_inR (h.wi i hi).1.id
theorem wayV_ok {n : Net} (h : VNet n) {w : Way} (hw : WOK n w) : ∀ j : Nat, j ≤ w.lens.length → ∀ x ∈ wayV w j, okV x
  | 0, _, x, hx => by
    simp [wayV] at hx
    subst hx
    exact node_ok h (hw.ns 0 (by have := hw.ln; omega))
  | j + 1, hj, x, hx => by
    unfold wayV at hx
    rcases List.mem_append.1 hx with hx | hx
    · exact wayV_ok h hw j (by omega) x hx
    · simp at hx
      rcases hx with rfl | rfl
      · exact okV_inR (hw.ls j (by omega))
      · exact node_ok h (hw.ns (j + 1) (by have := hw.ln; omega))
theorem nodeT_len {x : Int} (h : okV x) : (nodeT x).length ≤ 30 := by
  have := nums_le (v := [x]) (by simpa using h)
  simp only [nodeT, List.length_append, List.length_cons, List.length_nil] at *
  omega
theorem wayT_len {n : Net} (h : VNet n) {w : Way} (hw : WOK n w) : (wayT w).length ≤ 5000 := by
  have h1 := nums_le (v := [w.id]) (by simpa using okV_inR hw.id)
  have h2 := nums_le (wayV_ok h hw w.lens.length (Nat.le_refl _))
  have h3 := wayV_length w w.lens.length
  have h4 := hw.l2
  simp only [wayT, List.length_append, List.length_cons, List.length_nil] at *
  omega
theorem relW_len (b : Bool) : (relW b).length ≤ 4 := by cases b <;> simp [relW]
theorem relT_len {n : Net} (h : VNet n) {r : Rln} (hr : ROK n r) : (relT r).length ≤ 1000 := by
  have h1 := nums_le (v := [r.id, r.fr]) (by simpa using ⟨okV_inR hr.id, way_ok h hr.fr⟩)
  have h0 := relW_len r.only
  cases ha : r.atNode with
  | true =>
    obtain ⟨_, h3⟩ := hr.at1 ha
    have h2 := nums_le (v := [r.node, r.to]) (by simpa using ⟨node_ok h h3, way_ok h hr.to⟩)
    simp only [relT, ha, if_true, List.length_append, List.length_cons, List.length_nil] at *
    omega
  | false =>
    obtain ⟨_, h3, h4, h5⟩ := hr.at0 ha
    have h2 := nums_le (v := r.via ++ [r.to]) (fun x hx => by
      rcases List.mem_append.1 hx with hx | hx
      · obtain ⟨i, hi, rfl⟩ := mem_rd.1 hx
        exact way_ok h (h5 i hi)
      · simp at hx; subst hx; exact way_ok h hr.to)
    simp only [relT, ha, Bool.false_eq_true, if_false, List.length_append, List.length_cons, List.length_nil] at *
    omega
theorem tcT_len {n : Net} (h : VNet n) {t : Tc} (ht : TCOK n t) : (tcT t).length ≤ 100 := by
  have h1 := nums_le (v := [t.fr, t.to, t.cost]) (by simpa using ⟨way_ok h ht.2.1, way_ok h ht.2.2, okV_inR ht.1⟩)
  simp only [tcT, List.length_append, List.length_cons, List.length_nil] at *
  omega
theorem txtA_len {n : Net} (h : VNet n) {k : Nat} (hk : k ≤ n.nodes.length) : (txtA n k).length ≤ 70000 := by
  have h1 := upT_len (f := fun i => nodeT (rd n.nodes i)) (c := 30) (k := k) fun i hi => nodeT_len (okV_inR (h.ni i (by omega)).1)
  have h2 := nums_le (v := [n.uturn]) (by simpa using okV_inR h.u)
  have h3 := h.c1
  simp only [txtA, hdT, List.length_append, List.length_cons, List.length_nil] at *
  omega
theorem txtB_len {n : Net} (h : VNet n) {k : Nat} (hk : k ≤ n.ways.length) : (txtB n k).length ≤ 11000000 := by
  have h1 := upT_len (f := fun i => wayT (nth n.ways i)) (c := 5000) (k := k) fun i hi => wayT_len h (h.wi i (by omega)).1
  have h2 := txtA_len h (Nat.le_refl n.nodes.length)
  have h3 := h.c2
  simp only [txtB, List.length_append] at *
  omega
theorem txtC_len {n : Net} (h : VNet n) {k : Nat} (hk : k ≤ n.rels.length) : (txtC n k).length ≤ 13000000 := by
  have h1 := upT_len (f := fun i => relT (nth n.rels i)) (c := 1000) (k := k) fun i hi => relT_len h (h.ri i (by omega)).1
  have h2 := txtB_len h (Nat.le_refl n.ways.length)
  have h3 := h.c3
  simp only [txtC, List.length_append] at *
  omega
theorem txtD_len {n : Net} (h : VNet n) {k : Nat} (hk : k ≤ n.tcs.length) : (txtD n k).length ≤ 14000000 := by
  have h1 := upT_len (f := fun i => tcT (nth n.tcs i)) (c := 100) (k := k) fun i hi => tcT_len h (h.ti i (by omega)).1
  have h2 := txtC_len h (Nat.le_refl n.rels.length)
  have h3 := h.c4
  simp only [txtD, List.length_append] at *
  omega
end Cal

/- What impl.EncodeNet's pieces give. -/
set_option linter.unusedSimpArgs false
set_option linter.unusedVariables false
namespace Cal
open Go Go.Proofs
theorem okB_end (l a : List UInt8) (z : UInt8) (h : ¬ (z.toNat : Int) = 10) : okB (l ++ (a ++ [z])) := ⟨l ++ a, z, by simp, h⟩
theorem okB_nums (l : List UInt8) {v : List Int} (h : v ≠ []) : okB (l ++ nums v) := by
  obtain ⟨a, x, rfl⟩ : ∃ a x, v = a ++ [x] := ⟨v.dropLast, v.getLast h, (List.dropLast_concat_getLast h).symm⟩
  obtain ⟨d, e, hd, he⟩ := dec_last x.toNat
  rw [nums_append]
  refine ⟨l ++ nums a ++ [32] ++ d, e, ?_, he⟩
  simp [nums, hd]
theorem okB_nil {l : List UInt8} (h : okB l) : okB (l ++ []) := by rwa [List.append_nil]
/-- What the first nodes of a way give. -/
def wayU (w : Way) : Nat → List Int
  | 0 => []
  | k + 1 => wayU w k ++ (if k < w.lens.length then [rd w.nodes k, rd w.lens k] else [rd w.nodes k])
theorem wayU_V (w : Way) : ∀ k : Nat, k ≤ w.lens.length → wayU w k ++ [rd w.nodes k] = wayV w k
  | 0, _ => rfl
  | k + 1, h => by
    have ih := wayU_V w k (by omega)
    unfold wayU wayV
    rw [if_pos (by omega), ← ih]
    simp
theorem wayU_all (w : Way) : wayU w (w.lens.length + 1) = wayV w w.lens.length := by
  rw [← wayU_V w _ (Nat.le_refl _)]
  show wayU w w.lens.length ++ _ = _
  rw [if_neg (by omega)]
theorem wayU_length (w : Way) : ∀ k : Nat, (wayU w k).length ≤ 2 * k
  | 0 => by simp [wayU]
  | k + 1 => by
    have := wayU_length w k
    unfold wayU
    rw [List.length_append]
    split <;> simp <;> omega
theorem wayU_ok {n : Net} (h : VNet n) {w : Way} (hw : WOK n w) : ∀ k : Nat, k ≤ w.nodes.length → ∀ x ∈ wayU w k, okV x
  | 0, _, x, hx => by simp [wayU] at hx
  | k + 1, hk, x, hx => by
    unfold wayU at hx
    rcases List.mem_append.1 hx with hx | hx
    · exact wayU_ok h hw k (by omega) x hx
    · split at hx
      · simp at hx
        rcases hx with rfl | rfl
        · exact node_ok h (hw.ns k (by omega))
        · exact okV_inR (hw.ls k (by omega))
      · simp at hx
        subst hx
        exact node_ok h (hw.ns k (by omega))
end Cal

/- impl.EncodeNet: its loops. -/
set_option linter.unusedSimpArgs false
set_option linter.unusedVariables false
namespace Cal
open Go Go.Proofs
set_option maxRecDepth 100000
/-- The body of a loop. -/
def k8_l0 : Code1 :=
 (.seq
 (.region [] false ([]) [
 ⟨some 31,Op.binOp BinOp.lss 3 (Operand.tmp 30) (Operand.tmp 29) 3,none⟩])
 (.seq
 (.cond (Operand.tmp 31)
 .skip
 (.exit 0))
 (.seq
 (.block 1
 (.seq
 (.region [] false ([]) [
 ⟨some 32,Op.indexAddr 22 (Operand.tmp 28) (Operand.tmp 30),none⟩,
 ⟨some 33,Op.load 2 (Operand.tmp 32),none⟩,
 ⟨some 5,Op.assign (Operand.tmp 33),none⟩])
 (.region [36,37,38,39] false ([]) [
 ⟨some 34,Op.move (Operand.tmp 3),none⟩,
 ⟨some 35,Op.move (Operand.tmp 5),none⟩,
 ⟨some 36,Op.buildSlice 22 1 #[(0,Operand.tmp 35)],none⟩,
 ⟨some 37,Op.call {callee:=Callee.value (Operand.func 31),args:=#[Operand.tmp 34,Operand.const (Value.string {data:=#[110,111,100,101]}),Operand.tmp 36],argTypes:=#[29,9,22]},none⟩,
 ⟨some 38,Op.buildSlice 29 1 #[(0,Operand.const (Value.int IntKind.u8 10))],none⟩,
 ⟨some 39,Op.call {callee:=Callee.builtin Builtin.append,args:=#[Operand.tmp 37,Operand.tmp 38],argTypes:=#[29,29]},none⟩,
 ⟨some 3,Op.assign (Operand.tmp 39),none⟩])))
 (.region [] false ([]) [
 ⟨some 40,Op.binOp BinOp.add 3 (Operand.tmp 30) (Operand.const (Value.int IntKind.i64 1)) 3,none⟩,
 ⟨some 30,Op.move (Operand.tmp 40),none⟩]))))
/-- The body of a loop. -/
def k8_l2 : Code1 :=
 (.seq
 (.region [] false ([]) [
 ⟨some 63,Op.binOp BinOp.lss 3 (Operand.tmp 62) (Operand.tmp 61) 3,none⟩])
 (.seq
 (.cond (Operand.tmp 63)
 .skip
 (.exit 4))
 (.seq
 (.block 5
 (.seq
 (.region [] false ([]) [
 ⟨some 64,Op.move (Operand.tmp 62),none⟩,
 ⟨some 65,Op.indexAddr 22 (Operand.tmp 60) (Operand.tmp 62),none⟩,
 ⟨some 66,Op.load 2 (Operand.tmp 65),none⟩,
 ⟨some 8,Op.assign (Operand.tmp 64),none⟩,
 ⟨some 9,Op.assign (Operand.tmp 66),none⟩])
 (.seq
 (.region [69,70] false ([]) [
 ⟨some 67,Op.move (Operand.tmp 3),none⟩,
 ⟨some 68,Op.move (Operand.tmp 9),none⟩,
 ⟨some 69,Op.buildSlice 22 1 #[(0,Operand.tmp 68)],none⟩,
 ⟨some 70,Op.call {callee:=Callee.value (Operand.func 31),args:=#[Operand.tmp 67,Operand.const (Value.string {data:=#[]}),Operand.tmp 69],argTypes:=#[29,9,22]},none⟩,
 ⟨some 3,Op.assign (Operand.tmp 70),none⟩])
 (.seq
 (.region [] false ([]) [
 ⟨some 71,Op.move (Operand.tmp 8),none⟩,
 ⟨some 72,Op.fieldAddr 55 (Operand.tmp 7) 3,none⟩,
 ⟨some 73,Op.load 22 (Operand.tmp 72),none⟩,
 ⟨some 74,Op.call {callee:=Callee.builtin Builtin.len,args:=#[Operand.tmp 73],argTypes:=#[22]},none⟩,
 ⟨some 75,Op.binOp BinOp.lss 3 (Operand.tmp 71) (Operand.tmp 74) 3,none⟩])
 (.cond (Operand.tmp 75)
 (.region [82,83] false ([]) [
 ⟨some 76,Op.move (Operand.tmp 3),none⟩,
 ⟨some 77,Op.fieldAddr 55 (Operand.tmp 7) 3,none⟩,
 ⟨some 78,Op.load 22 (Operand.tmp 77),none⟩,
 ⟨some 79,Op.move (Operand.tmp 8),none⟩,
 ⟨some 80,Op.indexAddr 22 (Operand.tmp 78) (Operand.tmp 79),none⟩,
 ⟨some 81,Op.load 2 (Operand.tmp 80),none⟩,
 ⟨some 82,Op.buildSlice 22 1 #[(0,Operand.tmp 81)],none⟩,
 ⟨some 83,Op.call {callee:=Callee.value (Operand.func 31),args:=#[Operand.tmp 76,Operand.const (Value.string {data:=#[]}),Operand.tmp 82],argTypes:=#[29,9,22]},none⟩,
 ⟨some 3,Op.assign (Operand.tmp 83),none⟩])
 .skip)))))
 (.region [] false ([]) [
 ⟨some 84,Op.binOp BinOp.add 3 (Operand.tmp 62) (Operand.const (Value.int IntKind.i64 1)) 3,none⟩,
 ⟨some 62,Op.move (Operand.tmp 84),none⟩]))))
/-- The body of a loop. -/
def k8_l1 : Code1 :=
 (.seq
 (.region [] false ([]) [
 ⟨some 45,Op.binOp BinOp.lss 3 (Operand.tmp 44) (Operand.tmp 43) 3,none⟩])
 (.seq
 (.cond (Operand.tmp 45)
 .skip
 (.exit 2))
 (.seq
 (.block 3
 (.seq
 (.region [7] false ([]) [
 ⟨some 46,Op.indexAddr 31 (Operand.tmp 42) (Operand.tmp 44),none⟩,
 ⟨some 47,Op.load 55 (Operand.tmp 46),none⟩,
 ⟨some 7,Op.alloc 55,none⟩,
 ⟨none,Op.store 55 (Operand.tmp 7) (Operand.tmp 47),none⟩])
 (.seq
 (.region [51,52] false ([]) [
 ⟨some 48,Op.move (Operand.tmp 3),none⟩,
 ⟨some 49,Op.fieldAddr 55 (Operand.tmp 7) 0,none⟩,
 ⟨some 50,Op.load 2 (Operand.tmp 49),none⟩,
 ⟨some 51,Op.buildSlice 22 1 #[(0,Operand.tmp 50)],none⟩,
 ⟨some 52,Op.call {callee:=Callee.value (Operand.func 31),args:=#[Operand.tmp 48,Operand.const (Value.string {data:=#[119,97,121]}),Operand.tmp 51],argTypes:=#[29,9,22]},none⟩,
 ⟨some 3,Op.assign (Operand.tmp 52),none⟩])
 (.seq
 (.seq
 (.region [] false ([]) [
 ⟨some 53,Op.fieldAddr 55 (Operand.tmp 7) 1,none⟩,
 ⟨some 54,Op.load 4 (Operand.tmp 53),none⟩])
 (.cond (Operand.tmp 54)
 (.region [56] false ([]) [
 ⟨some 55,Op.move (Operand.tmp 3),none⟩,
 ⟨some 56,Op.call {callee:=Callee.builtin Builtin.append,args:=#[Operand.tmp 55,Operand.const (Value.string {data:=#[32,98]})],argTypes:=#[29,9]},none⟩,
 ⟨some 3,Op.assign (Operand.tmp 56),none⟩])
 (.region [58] false ([]) [
 ⟨some 57,Op.move (Operand.tmp 3),none⟩,
 ⟨some 58,Op.call {callee:=Callee.builtin Builtin.append,args:=#[Operand.tmp 57,Operand.const (Value.string {data:=#[32,102]})],argTypes:=#[29,9]},none⟩,
 ⟨some 3,Op.assign (Operand.tmp 58),none⟩])))
 (.seq
 (.seq
 (.region [] false ([]) [
 ⟨some 59,Op.fieldAddr 55 (Operand.tmp 7) 2,none⟩,
 ⟨some 60,Op.load 22 (Operand.tmp 59),none⟩,
 ⟨some 61,Op.call {callee:=Callee.builtin Builtin.len,args:=#[Operand.tmp 60],argTypes:=#[22]},none⟩,
 ⟨some 62,Op.move (Operand.const (Value.int IntKind.i64 0)),none⟩])
 (.block 4
 (.loop k8_l2)))
 (.region [86,87] false ([]) [
 ⟨some 85,Op.move (Operand.tmp 3),none⟩,
 ⟨some 86,Op.buildSlice 29 1 #[(0,Operand.const (Value.int IntKind.u8 10))],none⟩,
 ⟨some 87,Op.call {callee:=Callee.builtin Builtin.append,args:=#[Operand.tmp 85,Operand.tmp 86],argTypes:=#[29,29]},none⟩,
 ⟨some 3,Op.assign (Operand.tmp 87),none⟩]))))))
 (.region [] false ([]) [
 ⟨some 88,Op.binOp BinOp.add 3 (Operand.tmp 44) (Operand.const (Value.int IntKind.i64 1)) 3,none⟩,
 ⟨some 44,Op.move (Operand.tmp 88),none⟩]))))
/-- The body of a loop. -/
def k8_l3 : Code1 :=
 (.seq
 (.region [] false ([]) [
 ⟨some 93,Op.binOp BinOp.lss 3 (Operand.tmp 92) (Operand.tmp 91) 3,none⟩])
 (.seq
 (.cond (Operand.tmp 93)
 .skip
 (.exit 6))
 (.seq
 (.block 7
 (.seq
 (.region [11] false ([]) [
 ⟨some 94,Op.indexAddr 32 (Operand.tmp 90) (Operand.tmp 92),none⟩,
 ⟨some 95,Op.load 58 (Operand.tmp 94),none⟩,
 ⟨some 11,Op.alloc 58,none⟩,
 ⟨none,Op.store 58 (Operand.tmp 11) (Operand.tmp 95),none⟩])
 (.seq
 (.region [] false ([]) [
 ⟨some 12,Op.assign (Operand.const (Value.string {data:=#[110,111]})),none⟩])
 (.seq
 (.seq
 (.region [] false ([]) [
 ⟨some 96,Op.fieldAddr 58 (Operand.tmp 11) 1,none⟩,
 ⟨some 97,Op.load 4 (Operand.tmp 96),none⟩])
 (.cond (Operand.tmp 97)
 (.region [] false ([]) [
 ⟨some 12,Op.assign (Operand.const (Value.string {data:=#[111,110,108,121]})),none⟩])
 .skip))
 (.seq
 (.region [104,105] false ([]) [
 ⟨some 98,Op.move (Operand.tmp 3),none⟩,
 ⟨some 99,Op.move (Operand.tmp 12),none⟩,
 ⟨some 100,Op.fieldAddr 58 (Operand.tmp 11) 0,none⟩,
 ⟨some 101,Op.load 2 (Operand.tmp 100),none⟩,
 ⟨some 102,Op.fieldAddr 58 (Operand.tmp 11) 2,none⟩,
 ⟨some 103,Op.load 2 (Operand.tmp 102),none⟩,
 ⟨some 104,Op.buildSlice 22 2 #[(0,Operand.tmp 101),(1,Operand.tmp 103)],none⟩,
 ⟨some 105,Op.call {callee:=Callee.value (Operand.func 31),args:=#[Operand.tmp 98,Operand.tmp 99,Operand.tmp 104],argTypes:=#[29,9,22]},none⟩,
 ⟨some 3,Op.assign (Operand.tmp 105),none⟩])
 (.seq
 (.seq
 (.region [] false ([]) [
 ⟨some 106,Op.fieldAddr 58 (Operand.tmp 11) 4,none⟩,
 ⟨some 107,Op.load 4 (Operand.tmp 106),none⟩])
 (.cond (Operand.tmp 107)
 (.region [109,112,113] true ([999999,109,113]) [
 ⟨some 108,Op.move (Operand.tmp 3),none⟩,
 ⟨some 109,Op.call {callee:=Callee.builtin Builtin.append,args:=#[Operand.tmp 108,Operand.const (Value.string {data:=#[32,97,116]})],argTypes:=#[29,9]},none⟩,
 ⟨some 110,Op.fieldAddr 58 (Operand.tmp 11) 5,none⟩,
 ⟨some 111,Op.load 2 (Operand.tmp 110),none⟩,
 ⟨some 112,Op.buildSlice 22 1 #[(0,Operand.tmp 111)],none⟩,
 ⟨some 113,Op.call {callee:=Callee.value (Operand.func 31),args:=#[Operand.tmp 109,Operand.const (Value.string {data:=#[]}),Operand.tmp 112],argTypes:=#[29,9,22]},none⟩,
 ⟨some 3,Op.assign (Operand.tmp 113),none⟩])
 (.region [115,118] true ([999999,115,118]) [
 ⟨some 114,Op.move (Operand.tmp 3),none⟩,
 ⟨some 115,Op.call {callee:=Callee.builtin Builtin.append,args:=#[Operand.tmp 114,Operand.const (Value.string {data:=#[32,98,121]})],argTypes:=#[29,9]},none⟩,
 ⟨some 116,Op.fieldAddr 58 (Operand.tmp 11) 6,none⟩,
 ⟨some 117,Op.load 22 (Operand.tmp 116),none⟩,
 ⟨some 118,Op.call {callee:=Callee.value (Operand.func 31),args:=#[Operand.tmp 115,Operand.const (Value.string {data:=#[]}),Operand.tmp 117],argTypes:=#[29,9,22]},none⟩,
 ⟨some 3,Op.assign (Operand.tmp 118),none⟩])))
 (.region [122,123,124,125] false ([]) [
 ⟨some 119,Op.move (Operand.tmp 3),none⟩,
 ⟨some 120,Op.fieldAddr 58 (Operand.tmp 11) 3,none⟩,
 ⟨some 121,Op.load 2 (Operand.tmp 120),none⟩,
 ⟨some 122,Op.buildSlice 22 1 #[(0,Operand.tmp 121)],none⟩,
 ⟨some 123,Op.call {callee:=Callee.value (Operand.func 31),args:=#[Operand.tmp 119,Operand.const (Value.string {data:=#[]}),Operand.tmp 122],argTypes:=#[29,9,22]},none⟩,
 ⟨some 124,Op.buildSlice 29 1 #[(0,Operand.const (Value.int IntKind.u8 10))],none⟩,
 ⟨some 125,Op.call {callee:=Callee.builtin Builtin.append,args:=#[Operand.tmp 123,Operand.tmp 124],argTypes:=#[29,29]},none⟩,
 ⟨some 3,Op.assign (Operand.tmp 125),none⟩])))))))
 (.region [] false ([]) [
 ⟨some 126,Op.binOp BinOp.add 3 (Operand.tmp 92) (Operand.const (Value.int IntKind.i64 1)) 3,none⟩,
 ⟨some 92,Op.move (Operand.tmp 126),none⟩]))))
/-- The body of a loop. -/
def k8_l4 : Code1 :=
 (.seq
 (.region [] false ([]) [
 ⟨some 131,Op.binOp BinOp.lss 3 (Operand.tmp 130) (Operand.tmp 129) 3,none⟩])
 (.seq
 (.cond (Operand.tmp 131)
 .skip
 (.exit 8))
 (.seq
 (.block 9
 (.seq
 (.region [14] false ([]) [
 ⟨some 132,Op.indexAddr 33 (Operand.tmp 128) (Operand.tmp 130),none⟩,
 ⟨some 133,Op.load 60 (Operand.tmp 132),none⟩,
 ⟨some 14,Op.alloc 60,none⟩,
 ⟨none,Op.store 60 (Operand.tmp 14) (Operand.tmp 133),none⟩])
 (.region [141,142,143,144] false ([]) [
 ⟨some 134,Op.move (Operand.tmp 3),none⟩,
 ⟨some 135,Op.fieldAddr 60 (Operand.tmp 14) 0,none⟩,
 ⟨some 136,Op.load 2 (Operand.tmp 135),none⟩,
 ⟨some 137,Op.fieldAddr 60 (Operand.tmp 14) 1,none⟩,
 ⟨some 138,Op.load 2 (Operand.tmp 137),none⟩,
 ⟨some 139,Op.fieldAddr 60 (Operand.tmp 14) 2,none⟩,
 ⟨some 140,Op.load 2 (Operand.tmp 139),none⟩,
 ⟨some 141,Op.buildSlice 22 3 #[(0,Operand.tmp 136),(1,Operand.tmp 138),(2,Operand.tmp 140)],none⟩,
 ⟨some 142,Op.call {callee:=Callee.value (Operand.func 31),args:=#[Operand.tmp 134,Operand.const (Value.string {data:=#[116,117,114,110]}),Operand.tmp 141],argTypes:=#[29,9,22]},none⟩,
 ⟨some 143,Op.buildSlice 29 1 #[(0,Operand.const (Value.int IntKind.u8 10))],none⟩,
 ⟨some 144,Op.call {callee:=Callee.builtin Builtin.append,args:=#[Operand.tmp 142,Operand.tmp 143],argTypes:=#[29,29]},none⟩,
 ⟨some 3,Op.assign (Operand.tmp 144),none⟩])))
 (.region [] false ([]) [
 ⟨some 145,Op.binOp BinOp.add 3 (Operand.tmp 130) (Operand.const (Value.int IntKind.i64 1)) 3,none⟩,
 ⟨some 130,Op.move (Operand.tmp 145),none⟩]))))
/-- The code of impl.EncodeNet, its loops' bodies named. -/
def k8 : Code1 :=
 (.seq
 (.region [1] false ([]) [
 ⟨some 1,Op.box 35 (Operand.tmp 0),none⟩,
 ⟨some 2,Op.assign (Operand.const (Value.slice none 0 0)),none⟩])
 (.seq
 (.seq
 (.region [16] false ([]) [
 ⟨some 15,Op.load 35 (Operand.tmp 1),none⟩,
 ⟨some 16,Op.call {callee:=Callee.value (Operand.func 16),args:=#[Operand.tmp 15],argTypes:=#[35]},none⟩,
 ⟨some 17,Op.unOp UnOp.not 4 (Operand.tmp 16),none⟩])
 (.cond (Operand.tmp 17)
 (.seq
 (.region [] false ([]) [
 ⟨some 2,Op.assign (Operand.const (Value.slice none 0 0)),none⟩])
 .ret)
 .skip))
 (.seq
 (.region [18] false ([]) [
 ⟨some 18,Op.buildSlice 29 10 #[(0,Operand.const (Value.int IntKind.u8 114)),(1,Operand.const (Value.int IntKind.u8 111)),(2,Operand.const (Value.int IntKind.u8 97)),(3,Operand.const (Value.int IntKind.u8 100)),(4,Operand.const (Value.int IntKind.u8 110)),(5,Operand.const (Value.int IntKind.u8 101)),(6,Operand.const (Value.int IntKind.u8 116)),(7,Operand.const (Value.int IntKind.u8 32)),(8,Operand.const (Value.int IntKind.u8 49)),(9,Operand.const (Value.int IntKind.u8 10))],none⟩,
 ⟨some 19,Op.convert 29 29 (Operand.tmp 18),none⟩,
 ⟨some 3,Op.assign (Operand.tmp 19),none⟩])
 (.seq
 (.region [23,24,25,26] false ([]) [
 ⟨some 20,Op.move (Operand.tmp 3),none⟩,
 ⟨some 21,Op.fieldAddr 35 (Operand.tmp 1) 4,none⟩,
 ⟨some 22,Op.load 2 (Operand.tmp 21),none⟩,
 ⟨some 23,Op.buildSlice 22 1 #[(0,Operand.tmp 22)],none⟩,
 ⟨some 24,Op.call {callee:=Callee.value (Operand.func 31),args:=#[Operand.tmp 20,Operand.const (Value.string {data:=#[117,116,117,114,110]}),Operand.tmp 23],argTypes:=#[29,9,22]},none⟩,
 ⟨some 25,Op.buildSlice 29 1 #[(0,Operand.const (Value.int IntKind.u8 10))],none⟩,
 ⟨some 26,Op.call {callee:=Callee.builtin Builtin.append,args:=#[Operand.tmp 24,Operand.tmp 25],argTypes:=#[29,29]},none⟩,
 ⟨some 3,Op.assign (Operand.tmp 26),none⟩])
 (.seq
 (.seq
 (.region [] false ([]) [
 ⟨some 27,Op.fieldAddr 35 (Operand.tmp 1) 0,none⟩,
 ⟨some 28,Op.load 22 (Operand.tmp 27),none⟩,
 ⟨some 29,Op.call {callee:=Callee.builtin Builtin.len,args:=#[Operand.tmp 28],argTypes:=#[22]},none⟩,
 ⟨some 30,Op.move (Operand.const (Value.int IntKind.i64 0)),none⟩])
 (.block 0
 (.loop k8_l0)))
 (.seq
 (.seq
 (.region [] false ([]) [
 ⟨some 41,Op.fieldAddr 35 (Operand.tmp 1) 1,none⟩,
 ⟨some 42,Op.load 31 (Operand.tmp 41),none⟩,
 ⟨some 43,Op.call {callee:=Callee.builtin Builtin.len,args:=#[Operand.tmp 42],argTypes:=#[31]},none⟩,
 ⟨some 44,Op.move (Operand.const (Value.int IntKind.i64 0)),none⟩])
 (.block 2
 (.loop k8_l1)))
 (.seq
 (.seq
 (.region [] false ([]) [
 ⟨some 89,Op.fieldAddr 35 (Operand.tmp 1) 2,none⟩,
 ⟨some 90,Op.load 32 (Operand.tmp 89),none⟩,
 ⟨some 91,Op.call {callee:=Callee.builtin Builtin.len,args:=#[Operand.tmp 90],argTypes:=#[32]},none⟩,
 ⟨some 92,Op.move (Operand.const (Value.int IntKind.i64 0)),none⟩])
 (.block 6
 (.loop k8_l3)))
 (.seq
 (.seq
 (.region [] false ([]) [
 ⟨some 127,Op.fieldAddr 35 (Operand.tmp 1) 3,none⟩,
 ⟨some 128,Op.load 33 (Operand.tmp 127),none⟩,
 ⟨some 129,Op.call {callee:=Callee.builtin Builtin.len,args:=#[Operand.tmp 128],argTypes:=#[33]},none⟩,
 ⟨some 130,Op.move (Operand.const (Value.int IntKind.i64 0)),none⟩])
 (.block 8
 (.loop k8_l4)))
 (.seq
 (.region [] false ([]) [
 ⟨some 146,Op.move (Operand.tmp 3),none⟩,
 ⟨some 2,Op.assign (Operand.tmp 146),none⟩])
 .ret)))))))))
set_option maxHeartbeats 0 in
theorem ei_l0 (n : Net) (hv : VNet n)  {Q : Ex → St → Prop}
    (hE : ∀ s : St, (s.tm 1 = .ptr (1, 0) 0 0 ∧ s.ob (1, 0) = objN n ∧ s.tm 3 = .row (60003, 0) 1 0 (txtA n n.nodes.length).length ∧ s.ob (60003, 0) = some (.row 1 (byteR (txtA n n.nodes.length)))) → Q .normal s)
    (m : Nat) (s : St) (hs : (fun (m : Nat) (s : St) => ∃ k : Nat, s.tm 1 = .ptr (1, 0) 0 0 ∧ s.ob (1, 0) = objN n ∧ s.tm 3 = .row (60003, 0) 1 0 (txtA n k).length ∧ s.ob (60003, 0) = some (.row 1 (byteR (txtA n k))) ∧ s.tm 28 = .t (ints n.nodes) ∧ s.tm 29 = .t (.v (.int .i64 n.nodes.length)) ∧ s.tm 30 = .t (.v (.int .i64 k)) ∧ k ≤ n.nodes.length ∧ m = n.nodes.length - k) m s) (K' : St → Prop)
    (hN : ∀ (m' : Nat) (s' : St), m' < m → (fun (m : Nat) (s : St) => ∃ k : Nat, s.tm 1 = .ptr (1, 0) 0 0 ∧ s.ob (1, 0) = objN n ∧ s.tm 3 = .row (60003, 0) 1 0 (txtA n k).length ∧ s.ob (60003, 0) = some (.row 1 (byteR (txtA n k))) ∧ s.tm 28 = .t (ints n.nodes) ∧ s.tm 29 = .t (.v (.int .i64 n.nodes.length)) ∧ s.tm 30 = .t (.v (.int .i64 k)) ∧ k ≤ n.nodes.length ∧ m = n.nodes.length - k) m' s' → K' s') :
    wp2 Tryd.prog k8_l0 (thenQ K' (inBlk 0 Q)) s := by
  obtain ⟨k, s1, o1, s3, o3, s28, s29, s30, hk, rfl⟩ := hs
  unfold k8_l0
  simp only [objN] at o1
  have hc := hv.c1
  by_cases hlt : k < n.nodes.length
  · have b1 := txtA_len hv hk
    have x1 := okV_inR (hv.ni k hlt).1
    have c1 := put_c (txtA n k) [110, 111, 100, 101] [rd n.nodes k] (okB_end _ [110, 111, 100] 101 (by decide)) (by omega) (by simp) (by simp) (okV_rd (by simpa using x1))
    have e1 := txtA_succ n k
    unfold nodeT at e1
    have b2 : (nums [rd n.nodes k]).length ≤ 21 := by simpa using nums_le (v := [rd n.nodes k]) (by simpa using x1)
    have l1 : (txtA n k ++ 110 :: 111 :: 100 :: 101 :: nums [rd n.nodes k]).length = (txtA n k).length + ((nums [rd n.nodes k]).length + 4) := by simp
    repeat' (first
     | refine wp2_seq fun K hK => ?_
     | refine M_cons fun K hK => ?_
     | (refine hK _ ?_; clear hK K)
     | (refine hX _ ?_; clear hX hY X Y)
     | refine wp2_block ?_
     | refine wp2_canon (ops := ⟨some 40, _, _⟩ :: _) [(3, 60003)] ?_
     | refine wp2_region ?_
     | refine wp2_cond fun X Y hX hY => ?_
     | (refine condK_of (fun c => ?_) (fun c => ?_) <;> (try simp [-List.length_eq_zero_iff] at c))
     | (refine callT_gen true (c1) (fun _ => ⟨(by first | (simp [RV.flat, RV.flats, T.flat]; done) | ((repeat' first | exact flat_intRow _ | exact flat_boolRow _ | exact flat_byteR _ | exact trivial | constructor | unfold RV.flat | unfold RV.flats); first | done | fail)), (by (repeat' first | exact flat_intRow _ | exact flat_boolRow _ | exact flat_byteR _ | exact trivial | constructor | unfold Arg.flats | unfold Arg.flat); first | done | fail)⟩) (by simp [St.args, St.arg, s1, o1, s3, o3, s28, s29, s30, hlt] <;> first | rfl | ((repeat' first | rfl | apply And.intro); first | done | fail)) (by simp [apartArgs, mutsOf, noRow, valsOf]) (by simp) ?_)
     | simp (maxSteps := 4000000) (disch := omega) [s1, o1, s3, o3, s28, s29, s30, hlt])
    refine hN (n.nodes.length - (k + 1)) _ (by omega) ⟨k + 1, ?_⟩
    simp [s1, o1, s3, s28, s29, s30, objN, e1]
    omega
  · have e1 : k = n.nodes.length := by omega
    subst e1
    repeat' (first
     | refine wp2_seq fun K hK => ?_
     | refine M_cons fun K hK => ?_
     | (refine hK _ ?_; clear hK K)
     | (refine hY _ ?_; clear hX hY X Y)
     | refine wp2_region ?_
     | refine wp2_cond fun X Y hX hY => ?_
     | (refine condK_of (fun c => ?_) (fun c => ?_) <;> (try simp [-List.length_eq_zero_iff] at c))
     | simp (maxSteps := 4000000) (disch := omega) [s1, o1, s3, o3, s28, s29, s30])
    all_goals first | omega | skip
    exact hE _ ⟨by simp [s1], by simp [o1, objN], by simp [s3], by simp [o3]⟩
theorem okB_app {l : List UInt8} (h : okB l) (v : List Int) : okB (l ++ nums v) := by
  cases v with
  | nil => exact okB_nil h
  | cons x v => exact okB_nums l (by simp)
/-- A way's line, its first nodes put. -/
def wtx (B : List UInt8) (w : Way) (k : Nat) : List UInt8 := B ++ nums (wayU w k)
theorem wtx_succ (B : List UInt8) (w : Way) (k : Nat) : wtx B w (k + 1) = wtx B w k ++ (if k < w.lens.length then nums [rd w.nodes k] ++ nums [rd w.lens k] else nums [rd w.nodes k]) := by
  have e : wayU w (k + 1) = wayU w k ++ (if k < w.lens.length then [rd w.nodes k, rd w.lens k] else [rd w.nodes k]) := rfl
  unfold wtx
  rw [e]
  split <;> simp [nums_append, nums]
theorem wtx_len {n : Net} (h : VNet n) {w : Way} (hw : WOK n w) (B : List UInt8) {k : Nat} (hk : k ≤ w.nodes.length) : (wtx B w k).length ≤ B.length + 5000 := by
  have h1 := nums_le (wayU_ok h hw k hk)
  have h2 := wayU_length w k
  have h3 := hw.ln
  have h4 := hw.l2
  unfold wtx
  rw [List.length_append]
  omega
set_option maxHeartbeats 0 in
theorem ei_l2 (n : Net) (hv : VNet n) (i : Nat) (B : List UInt8) (hB : okB B) (hBl : B.length ≤ 12000000) (hi : i < n.ways.length) {Q : Ex → St → Prop}
    (hE : ∀ s : St, (s.tm 1 = .ptr (1, 0) 0 0 ∧ s.ob (1, 0) = objN n ∧ s.tm 42 = .t (recs encW n.ways) ∧ s.tm 43 = .t (.v (.int .i64 n.ways.length)) ∧ s.tm 44 = .t (.v (.int .i64 i)) ∧ s.tm 7 = .ptr (7, 0) 0 0 ∧ s.ob (7, 0) = objW (nth n.ways (i : Int)) ∧ s.tm 3 = .row (60003, 0) 1 0 (wtx B (nth n.ways (i : Int)) (nth n.ways (i : Int)).nodes.length).length ∧ s.ob (60003, 0) = some (.row 1 (byteR (wtx B (nth n.ways (i : Int)) (nth n.ways (i : Int)).nodes.length)))) → Q .normal s)
    (m : Nat) (s : St) (hs : (fun (m : Nat) (s : St) => ∃ k : Nat, s.tm 1 = .ptr (1, 0) 0 0 ∧ s.ob (1, 0) = objN n ∧ s.tm 42 = .t (recs encW n.ways) ∧ s.tm 43 = .t (.v (.int .i64 n.ways.length)) ∧ s.tm 44 = .t (.v (.int .i64 i)) ∧ s.tm 7 = .ptr (7, 0) 0 0 ∧ s.ob (7, 0) = objW (nth n.ways (i : Int)) ∧ s.tm 3 = .row (60003, 0) 1 0 (wtx B (nth n.ways (i : Int)) k).length ∧ s.ob (60003, 0) = some (.row 1 (byteR (wtx B (nth n.ways (i : Int)) k))) ∧ s.tm 60 = .t (ints (nth n.ways (i : Int)).nodes) ∧ s.tm 61 = .t (.v (.int .i64 (nth n.ways (i : Int)).nodes.length)) ∧ s.tm 62 = .t (.v (.int .i64 k)) ∧ k ≤ (nth n.ways (i : Int)).nodes.length ∧ m = (nth n.ways (i : Int)).nodes.length - k) m s) (K' : St → Prop)
    (hN : ∀ (m' : Nat) (s' : St), m' < m → (fun (m : Nat) (s : St) => ∃ k : Nat, s.tm 1 = .ptr (1, 0) 0 0 ∧ s.ob (1, 0) = objN n ∧ s.tm 42 = .t (recs encW n.ways) ∧ s.tm 43 = .t (.v (.int .i64 n.ways.length)) ∧ s.tm 44 = .t (.v (.int .i64 i)) ∧ s.tm 7 = .ptr (7, 0) 0 0 ∧ s.ob (7, 0) = objW (nth n.ways (i : Int)) ∧ s.tm 3 = .row (60003, 0) 1 0 (wtx B (nth n.ways (i : Int)) k).length ∧ s.ob (60003, 0) = some (.row 1 (byteR (wtx B (nth n.ways (i : Int)) k))) ∧ s.tm 60 = .t (ints (nth n.ways (i : Int)).nodes) ∧ s.tm 61 = .t (.v (.int .i64 (nth n.ways (i : Int)).nodes.length)) ∧ s.tm 62 = .t (.v (.int .i64 k)) ∧ k ≤ (nth n.ways (i : Int)).nodes.length ∧ m = (nth n.ways (i : Int)).nodes.length - k) m' s' → K' s') :
    wp2 Tryd.prog k8_l2 (thenQ K' (inBlk 4 Q)) s := by
  obtain ⟨k, s1, o1, s42, s43, s44, s7, o7, s3, o3, s60, s61, s62, hk, rfl⟩ := hs
  unfold k8_l2
  simp only [objN] at o1
  have hw := (hv.wi i hi).1
  have hl2 := hw.l2
  have hln := hw.ln
  generalize hW : nth n.ways (i : Int) = W at *
  simp only [objW] at o7
  by_cases hlt : k < W.nodes.length
  · have b1 := wtx_len hv hw B hk
    have e1 := wtx_succ B W k
    have x1 := node_ok hv (hw.ns k hlt)
    have b2 : (nums [rd W.nodes k]).length ≤ 21 := by simpa using nums_le (v := [rd W.nodes k]) (by simpa using x1)
    have hok : okB (wtx B W k) := okB_app hB _
    have c1 := put_c (wtx B W k) [] [rd W.nodes k] (okB_nil hok) (by omega) (by simp) (by simp) (okV_rd (by simpa using x1))
    rw [List.append_nil] at c1
    have l1 : (wtx B W k ++ nums [rd W.nodes k]).length = (wtx B W k).length + (nums [rd W.nodes k]).length := List.length_append
    by_cases hl : k < W.lens.length
    · have x2 := okV_inR (hw.ls k hl)
      have c2 := put_c (wtx B W k ++ nums [rd W.nodes k]) [] [rd W.lens k] (okB_nil (okB_app hok _)) (by omega) (by simp) (by simp) (okV_rd (by simpa using x2))
      rw [List.append_nil] at c2
      rw [if_pos hl] at e1
      repeat' (first
       | refine wp2_seq fun K hK => ?_
       | refine M_cons fun K hK => ?_
       | (refine hK _ ?_; clear hK K)
       | (refine hX _ ?_; clear hX hY X Y)
       | refine wp2_block ?_
       | refine wp2_region ?_
       | refine wp2_cond fun X Y hX hY => ?_
       | (refine condK_of (fun c => ?_) (fun c => ?_) <;> (try simp [-List.length_eq_zero_iff] at c))
       | simp (maxSteps := 4000000) (disch := omega) [s1, o1, s42, s43, s44, s7, o7, s3, o3, s60, s61, s62, hlt, hl, mk_bs])
      (refine callT_gen true (c1) (fun _ => ⟨(by first | (simp [RV.flat, RV.flats, T.flat]; done) | ((repeat' first | exact flat_intRow _ | exact flat_boolRow _ | exact flat_byteR _ | exact trivial | constructor | unfold RV.flat | unfold RV.flats); first | done | fail)), (by (repeat' first | exact flat_intRow _ | exact flat_boolRow _ | exact flat_byteR _ | exact trivial | constructor | unfold Arg.flats | unfold Arg.flat); first | done | fail)⟩) (by simp [St.args, St.arg, s1, o1, s3, o3] <;> first | rfl | ((repeat' first | rfl | apply And.intro); first | done | fail)) (by simp [apartArgs, mutsOf, noRow, valsOf]) (by simp) ?_)
      repeat' (first
       | refine wp2_seq fun K hK => ?_
       | refine M_cons fun K hK => ?_
       | (refine hK _ ?_; clear hK K)
       | (refine hX _ ?_; clear hX hY X Y)
       | refine wp2_canon (ops := ⟨some 84, _, _⟩ :: _) [(3, 60003)] ?_
       | refine wp2_region ?_
       | refine wp2_cond fun X Y hX hY => ?_
       | (refine condK_of (fun c => ?_) (fun c => ?_) <;> (try simp [-List.length_eq_zero_iff] at c))
       | (refine callT_gen true (c2) (fun _ => ⟨(by first | (simp [RV.flat, RV.flats, T.flat]; done) | ((repeat' first | exact flat_intRow _ | exact flat_boolRow _ | exact flat_byteR _ | exact trivial | constructor | unfold RV.flat | unfold RV.flats); first | done | fail)), (by (repeat' first | exact flat_intRow _ | exact flat_boolRow _ | exact flat_byteR _ | exact trivial | constructor | unfold Arg.flats | unfold Arg.flat); first | done | fail)⟩) (by simp [St.args, St.arg, s1, o1, s42, s43, s44, s7, o7, s3, o3, s60, s61, s62, hlt, hl, mk_bs] <;> first | rfl | ((repeat' first | rfl | apply And.intro); first | done | fail)) (by simp [apartArgs, mutsOf, noRow, valsOf]) (by simp) ?_)
       | simp (maxSteps := 4000000) (disch := omega) [s1, o1, s42, s43, s44, s7, o7, s3, o3, s60, s61, s62, hlt, hl, mk_bs])
      refine hN (W.nodes.length - (k + 1)) _ (by omega) ⟨k + 1, ?_⟩
      simp [s1, o1, s42, s43, s44, s7, o7, s3, s60, s61, s62, objN, objW, e1]
      omega
    · rw [if_neg hl] at e1
      repeat' (first
       | refine wp2_seq fun K hK => ?_
       | refine M_cons fun K hK => ?_
       | (refine hK _ ?_; clear hK K)
       | (refine hX _ ?_; clear hX hY X Y)
       | (refine hY _ ?_; clear hX hY X Y)
       | refine wp2_block ?_
       | refine wp2_canon (ops := ⟨some 84, _, _⟩ :: _) [(3, 60003)] ?_
       | refine wp2_region ?_
       | refine wp2_cond fun X Y hX hY => ?_
       | (refine condK_of (fun c => ?_) (fun c => ?_) <;> (try simp [-List.length_eq_zero_iff] at c))
       | (refine callT_gen true (c1) (fun _ => ⟨(by first | (simp [RV.flat, RV.flats, T.flat]; done) | ((repeat' first | exact flat_intRow _ | exact flat_boolRow _ | exact flat_byteR _ | exact trivial | constructor | unfold RV.flat | unfold RV.flats); first | done | fail)), (by (repeat' first | exact flat_intRow _ | exact flat_boolRow _ | exact flat_byteR _ | exact trivial | constructor | unfold Arg.flats | unfold Arg.flat); first | done | fail)⟩) (by simp [St.args, St.arg, s1, o1, s42, s43, s44, s7, o7, s3, o3, s60, s61, s62, hlt, hl, mk_bs] <;> first | rfl | ((repeat' first | rfl | apply And.intro); first | done | fail)) (by simp [apartArgs, mutsOf, noRow, valsOf]) (by simp) ?_)
       | simp (maxSteps := 4000000) (disch := omega) [s1, o1, s42, s43, s44, s7, o7, s3, o3, s60, s61, s62, hlt, hl, mk_bs])
      refine hN (W.nodes.length - (k + 1)) _ (by omega) ⟨k + 1, ?_⟩
      simp [s1, o1, s42, s43, s44, s7, o7, s3, s60, s61, s62, objN, objW, e1]
      omega
  · have e1 : k = W.nodes.length := by omega
    subst e1
    repeat' (first
     | refine wp2_seq fun K hK => ?_
     | refine M_cons fun K hK => ?_
     | (refine hK _ ?_; clear hK K)
     | (refine hY _ ?_; clear hX hY X Y)
     | refine wp2_region ?_
     | refine wp2_cond fun X Y hX hY => ?_
     | (refine condK_of (fun c => ?_) (fun c => ?_) <;> (try simp [-List.length_eq_zero_iff] at c))
     | simp (maxSteps := 4000000) (disch := omega) [s1, o1, s42, s43, s44, s7, o7, s3, o3, s60, s61, s62])
    all_goals first | omega | skip
    exact hE _ ⟨by simp [s1], by simp [o1, objN], by simp [s42], by simp [s43], by simp [s44], by simp [s7], by simp [o7, objW], by simp [s3], by simp [o3]⟩
set_option maxHeartbeats 0 in
theorem ei_l1 (n : Net) (hv : VNet n)  {Q : Ex → St → Prop}
    (hE : ∀ s : St, (s.tm 1 = .ptr (1, 0) 0 0 ∧ s.ob (1, 0) = objN n ∧ s.tm 3 = .row (60003, 0) 1 0 (txtB n n.ways.length).length ∧ s.ob (60003, 0) = some (.row 1 (byteR (txtB n n.ways.length)))) → Q .normal s)
    (m : Nat) (s : St) (hs : (fun (m : Nat) (s : St) => ∃ i : Nat, s.tm 1 = .ptr (1, 0) 0 0 ∧ s.ob (1, 0) = objN n ∧ s.tm 3 = .row (60003, 0) 1 0 (txtB n i).length ∧ s.ob (60003, 0) = some (.row 1 (byteR (txtB n i))) ∧ s.tm 42 = .t (recs encW n.ways) ∧ s.tm 43 = .t (.v (.int .i64 n.ways.length)) ∧ s.tm 44 = .t (.v (.int .i64 i)) ∧ i ≤ n.ways.length ∧ m = n.ways.length - i) m s) (K' : St → Prop)
    (hN : ∀ (m' : Nat) (s' : St), m' < m → (fun (m : Nat) (s : St) => ∃ i : Nat, s.tm 1 = .ptr (1, 0) 0 0 ∧ s.ob (1, 0) = objN n ∧ s.tm 3 = .row (60003, 0) 1 0 (txtB n i).length ∧ s.ob (60003, 0) = some (.row 1 (byteR (txtB n i))) ∧ s.tm 42 = .t (recs encW n.ways) ∧ s.tm 43 = .t (.v (.int .i64 n.ways.length)) ∧ s.tm 44 = .t (.v (.int .i64 i)) ∧ i ≤ n.ways.length ∧ m = n.ways.length - i) m' s' → K' s') :
    wp2 Tryd.prog k8_l1 (thenQ K' (inBlk 2 Q)) s := by
  obtain ⟨i, s1, o1, s3, o3, s42, s43, s44, hi, rfl⟩ := hs
  unfold k8_l1
  simp only [objN] at o1
  have hc := hv.c2
  by_cases hlt : i < n.ways.length
  · have b1 := txtB_len hv hi
    have hw := (hv.wi i hlt).1
    have hI := fun (B : List UInt8) (hB : okB B) (hBl : B.length ≤ 12000000) (hi : i < n.ways.length) (Q : Ex → St → Prop) => ei_l2 n hv i B hB hBl hi (Q := Q)
    generalize hW : nth n.ways (i : Int) = W at *
    have x1 := okV_inR hw.id
    have h2 := hw.l2
    have hln := hw.ln
    have b2 : (nums [W.id]).length ≤ 21 := by simpa using nums_le (v := [W.id]) (by simpa using x1)
    have c1 := put_c (txtB n i) [119, 97, 121] [W.id] (okB_end _ [119, 97] 121 (by decide)) (by omega) (by simp) (by simp) (okV_rd (by simpa using x1))
    have l1 : (txtB n i ++ 119 :: 97 :: 121 :: nums [W.id]).length = (txtB n i).length + ((nums [W.id]).length + 3) := by simp
    cases ht : W.two with
    | true =>
      have hB : okB (txtB n i ++ (119 :: 97 :: 121 :: (nums [W.id] ++ [32, 98]))) := ⟨txtB n i ++ (119 :: 97 :: 121 :: (nums [W.id] ++ [32])), 98, by simp, by decide⟩
      have l4 : ([32, 98] : List UInt8).length = 2 := rfl
      have l5 : (txtB n i ++ (119 :: 97 :: 121 :: (nums [W.id] ++ [32, 98]))).length = (txtB n i).length + ((nums [W.id]).length + 5) := by simp
      have e1 := txtB_succ n i
      rw [hW] at e1
      simp only [wayT, ht, if_true, Bool.false_eq_true, if_false] at e1
      have hwx := wtx_len hv hw (txtB n i ++ (119 :: 97 :: 121 :: (nums [W.id] ++ [32, 98]))) (Nat.le_refl W.nodes.length)
      have hw0 : wtx (txtB n i ++ (119 :: 97 :: 121 :: (nums [W.id] ++ [32, 98]))) W 0 = txtB n i ++ (119 :: 97 :: 121 :: (nums [W.id] ++ [32, 98])) := by simp [wtx, wayU, nums]
      have hw1 : wtx (txtB n i ++ (119 :: 97 :: 121 :: (nums [W.id] ++ [32, 98]))) W W.nodes.length = txtB n i ++ (119 :: 97 :: 121 :: (nums [W.id] ++ (32 :: 98 :: nums (wayV W W.lens.length)))) := by rw [hln]; simp [wtx, wayU_all]
      repeat' (first
       | refine wp2_seq fun K hK => ?_
       | refine M_cons fun K hK => ?_
       | (refine hK _ ?_; clear hK K)
       | (refine hX _ ?_; clear hX hY X Y)
       | refine wp2_block ?_
       | refine wp2_canon (ops := ⟨some 59, _, _⟩ :: _) [(3, 60003)] ?_
       | refine wp2_region ?_
       | refine wp2_cond fun X Y hX hY => ?_
       | (refine condK_of (fun c => ?_) (fun c => ?_) <;> (try simp [-List.length_eq_zero_iff] at c))
       | (refine callT_gen true (c1) (fun _ => ⟨(by first | (simp [RV.flat, RV.flats, T.flat]; done) | ((repeat' first | exact flat_intRow _ | exact flat_boolRow _ | exact flat_byteR _ | exact trivial | constructor | unfold RV.flat | unfold RV.flats); first | done | fail)), (by (repeat' first | exact flat_intRow _ | exact flat_boolRow _ | exact flat_byteR _ | exact trivial | constructor | unfold Arg.flats | unfold Arg.flat); first | done | fail)⟩) (by simp [St.args, St.arg, s1, o1, s3, o3, s42, s43, s44, hlt, encW, hW, ht] <;> first | rfl | ((repeat' first | rfl | apply And.intro); first | done | fail)) (by simp [apartArgs, mutsOf, noRow, valsOf]) (by simp) ?_)
       | simp (maxSteps := 4000000) (disch := omega) [s1, o1, s3, o3, s42, s43, s44, hlt, encW, hW, ht])
      refine wp2_loop _ W.nodes.length ?_ (hI (txtB n i ++ (119 :: 97 :: 121 :: (nums [W.id] ++ [32, 98]))) hB (by omega) hlt _ ?_)
      · refine ⟨0, ?_⟩
        rw [hw0]
        simp [s1, o1, s42, s43, s44, objN, objW, hW, ht]
        omega
      · rintro s ⟨s1, o1, s42, s43, s44, s7, o7, s3, o3⟩
        simp only [objN] at o1
        repeat' (first
         | refine M_cons fun K hK => ?_
         | (refine hK _ ?_; clear hK K)
         | refine wp2_canon (ops := ⟨some 88, _, _⟩ :: _) [(3, 60003)] ?_
         | refine wp2_region ?_
         | simp (maxSteps := 4000000) (disch := omega) [s1, o1, s42, s43, s44, s7, o7, s3, o3])
        refine hN (n.ways.length - (i + 1)) _ (by omega) ⟨i + 1, ?_⟩
        rw [hw1]
        simp [s1, o1, s42, s43, s44, s3, objN, e1]
        omega
    | false =>
      have hB : okB (txtB n i ++ (119 :: 97 :: 121 :: (nums [W.id] ++ [32, 102]))) := ⟨txtB n i ++ (119 :: 97 :: 121 :: (nums [W.id] ++ [32])), 102, by simp, by decide⟩
      have l4 : ([32, 102] : List UInt8).length = 2 := rfl
      have l5 : (txtB n i ++ (119 :: 97 :: 121 :: (nums [W.id] ++ [32, 102]))).length = (txtB n i).length + ((nums [W.id]).length + 5) := by simp
      have e1 := txtB_succ n i
      rw [hW] at e1
      simp only [wayT, ht, if_true, Bool.false_eq_true, if_false] at e1
      have hwx := wtx_len hv hw (txtB n i ++ (119 :: 97 :: 121 :: (nums [W.id] ++ [32, 102]))) (Nat.le_refl W.nodes.length)
      have hw0 : wtx (txtB n i ++ (119 :: 97 :: 121 :: (nums [W.id] ++ [32, 102]))) W 0 = txtB n i ++ (119 :: 97 :: 121 :: (nums [W.id] ++ [32, 102])) := by simp [wtx, wayU, nums]
      have hw1 : wtx (txtB n i ++ (119 :: 97 :: 121 :: (nums [W.id] ++ [32, 102]))) W W.nodes.length = txtB n i ++ (119 :: 97 :: 121 :: (nums [W.id] ++ (32 :: 102 :: nums (wayV W W.lens.length)))) := by rw [hln]; simp [wtx, wayU_all]
      repeat' (first
       | refine wp2_seq fun K hK => ?_
       | refine M_cons fun K hK => ?_
       | (refine hK _ ?_; clear hK K)
       | (refine hX _ ?_; clear hX hY X Y)
       | (refine hY _ ?_; clear hX hY X Y)
       | refine wp2_block ?_
       | refine wp2_canon (ops := ⟨some 59, _, _⟩ :: _) [(3, 60003)] ?_
       | refine wp2_region ?_
       | refine wp2_cond fun X Y hX hY => ?_
       | (refine condK_of (fun c => ?_) (fun c => ?_) <;> (try simp [-List.length_eq_zero_iff] at c))
       | (refine callT_gen true (c1) (fun _ => ⟨(by first | (simp [RV.flat, RV.flats, T.flat]; done) | ((repeat' first | exact flat_intRow _ | exact flat_boolRow _ | exact flat_byteR _ | exact trivial | constructor | unfold RV.flat | unfold RV.flats); first | done | fail)), (by (repeat' first | exact flat_intRow _ | exact flat_boolRow _ | exact flat_byteR _ | exact trivial | constructor | unfold Arg.flats | unfold Arg.flat); first | done | fail)⟩) (by simp [St.args, St.arg, s1, o1, s3, o3, s42, s43, s44, hlt, encW, hW, ht] <;> first | rfl | ((repeat' first | rfl | apply And.intro); first | done | fail)) (by simp [apartArgs, mutsOf, noRow, valsOf]) (by simp) ?_)
       | simp (maxSteps := 4000000) (disch := omega) [s1, o1, s3, o3, s42, s43, s44, hlt, encW, hW, ht])
      refine wp2_loop _ W.nodes.length ?_ (hI (txtB n i ++ (119 :: 97 :: 121 :: (nums [W.id] ++ [32, 102]))) hB (by omega) hlt _ ?_)
      · refine ⟨0, ?_⟩
        rw [hw0]
        simp [s1, o1, s42, s43, s44, objN, objW, hW, ht]
        omega
      · rintro s ⟨s1, o1, s42, s43, s44, s7, o7, s3, o3⟩
        simp only [objN] at o1
        repeat' (first
         | refine M_cons fun K hK => ?_
         | (refine hK _ ?_; clear hK K)
         | refine wp2_canon (ops := ⟨some 88, _, _⟩ :: _) [(3, 60003)] ?_
         | refine wp2_region ?_
         | simp (maxSteps := 4000000) (disch := omega) [s1, o1, s42, s43, s44, s7, o7, s3, o3])
        refine hN (n.ways.length - (i + 1)) _ (by omega) ⟨i + 1, ?_⟩
        rw [hw1]
        simp [s1, o1, s42, s43, s44, s3, objN, e1]
        omega
  · have e1 : i = n.ways.length := by omega
    subst e1
    repeat' (first
     | refine wp2_seq fun K hK => ?_
     | refine M_cons fun K hK => ?_
     | (refine hK _ ?_; clear hK K)
     | (refine hY _ ?_; clear hX hY X Y)
     | refine wp2_region ?_
     | refine wp2_cond fun X Y hX hY => ?_
     | (refine condK_of (fun c => ?_) (fun c => ?_) <;> (try simp [-List.length_eq_zero_iff] at c))
     | simp (maxSteps := 4000000) (disch := omega) [s1, o1, s3, o3, s42, s43, s44])
    all_goals first | omega | skip
    exact hE _ ⟨by simp [s1], by simp [o1, objN], by simp [s3], by simp [o3]⟩
set_option maxHeartbeats 0 in
theorem ei_l3 (n : Net) (hv : VNet n)  {Q : Ex → St → Prop}
    (hE : ∀ s : St, (s.tm 1 = .ptr (1, 0) 0 0 ∧ s.ob (1, 0) = objN n ∧ s.tm 3 = .row (60003, 0) 1 0 (txtC n n.rels.length).length ∧ s.ob (60003, 0) = some (.row 1 (byteR (txtC n n.rels.length)))) → Q .normal s)
    (m : Nat) (s : St) (hs : (fun (m : Nat) (s : St) => ∃ i : Nat, s.tm 1 = .ptr (1, 0) 0 0 ∧ s.ob (1, 0) = objN n ∧ s.tm 3 = .row (60003, 0) 1 0 (txtC n i).length ∧ s.ob (60003, 0) = some (.row 1 (byteR (txtC n i))) ∧ s.tm 90 = .t (recs encR n.rels) ∧ s.tm 91 = .t (.v (.int .i64 n.rels.length)) ∧ s.tm 92 = .t (.v (.int .i64 i)) ∧ i ≤ n.rels.length ∧ m = n.rels.length - i) m s) (K' : St → Prop)
    (hN : ∀ (m' : Nat) (s' : St), m' < m → (fun (m : Nat) (s : St) => ∃ i : Nat, s.tm 1 = .ptr (1, 0) 0 0 ∧ s.ob (1, 0) = objN n ∧ s.tm 3 = .row (60003, 0) 1 0 (txtC n i).length ∧ s.ob (60003, 0) = some (.row 1 (byteR (txtC n i))) ∧ s.tm 90 = .t (recs encR n.rels) ∧ s.tm 91 = .t (.v (.int .i64 n.rels.length)) ∧ s.tm 92 = .t (.v (.int .i64 i)) ∧ i ≤ n.rels.length ∧ m = n.rels.length - i) m' s' → K' s') :
    wp2 Tryd.prog k8_l3 (thenQ K' (inBlk 6 Q)) s := by
  obtain ⟨i, s1, o1, s3, o3, s90, s91, s92, hi, rfl⟩ := hs
  unfold k8_l3
  simp only [objN] at o1
  have hc := hv.c3
  by_cases hlt : i < n.rels.length
  · have b1 := txtC_len hv hi
    have hr := (hv.ri i hlt).1
    generalize hR : nth n.rels (i : Int) = R at *
    have x1 := okV_inR hr.id
    have x2 := way_ok hv hr.fr
    have x3 := way_ok hv hr.to
    have b2 : (nums [R.id, R.fr]).length ≤ 42 := by simpa using nums_le (v := [R.id, R.fr]) (by simpa using ⟨x1, x2⟩)
    have b3 : (nums [R.to]).length ≤ 21 := by simpa using nums_le (v := [R.to]) (by simpa using x3)
    cases ha : R.atNode with
    | true =>
      have hvv : ∀ x ∈ [R.node], okV x := by simpa using node_ok hv (hr.at1 ha).2
      have b4 : (nums [R.node]).length ≤ 21 := by simpa using nums_le hvv
      cases ho : R.only with
      | true =>
        have c1 := put_c (txtC n i) [111, 110, 108, 121] [R.id, R.fr] (okB_end _ [111, 110, 108] 121 (by decide)) (by omega) (by simp) (by simp) (okV_rd (by simpa using ⟨x1, x2⟩))
        have l1 : (txtC n i ++ (111 :: 110 :: 108 :: 121 :: nums [R.id, R.fr])).length = (txtC n i).length + ((nums [R.id, R.fr]).length + 4) := by simp
        have l2 : ([32, 97, 116] : List UInt8).length = 3 := rfl
        have l3 : (txtC n i ++ (111 :: 110 :: 108 :: 121 :: (nums [R.id, R.fr] ++ [32, 97, 116]))).length = (txtC n i).length + ((nums [R.id, R.fr]).length + 7) := by simp; try omega
        have hok2 : okB (txtC n i ++ (111 :: 110 :: 108 :: 121 :: (nums [R.id, R.fr] ++ [32, 97, 116]))) := ⟨txtC n i ++ (111 :: 110 :: 108 :: 121 :: (nums [R.id, R.fr] ++ [32, 97])), 116, by simp, by decide⟩
        have c2 := put_c (txtC n i ++ (111 :: 110 :: 108 :: 121 :: (nums [R.id, R.fr] ++ [32, 97, 116]))) [] [R.node] (okB_nil hok2) (by omega) (by simp) (by first | (simp; done) | omega) (okV_rd hvv)
        rw [List.append_nil] at c2
        have q3 : (txtC n i ++ (111 :: 110 :: 108 :: 121 :: (nums [R.id, R.fr] ++ [32, 97, 116]))) ++ nums [R.node] = (txtC n i ++ (111 :: 110 :: 108 :: 121 :: (nums [R.id, R.fr] ++ (32 :: 97 :: 116 :: nums [R.node])))) := by simp
        rw [q3] at c2
        have l4 : (txtC n i ++ (111 :: 110 :: 108 :: 121 :: (nums [R.id, R.fr] ++ (32 :: 97 :: 116 :: nums [R.node])))).length = (txtC n i).length + ((nums [R.id, R.fr]).length + ((nums [R.node]).length + 7)) := by simp; omega
        have c3 := put_c (txtC n i ++ (111 :: 110 :: 108 :: 121 :: (nums [R.id, R.fr] ++ (32 :: 97 :: 116 :: nums [R.node])))) [] [R.to] (okB_nil (q3 ▸ okB_app hok2 _)) (by omega) (by simp) (by simp) (okV_rd (by simpa using x3))
        rw [List.append_nil] at c3
        have q4 : (txtC n i ++ (111 :: 110 :: 108 :: 121 :: (nums [R.id, R.fr] ++ (32 :: 97 :: 116 :: nums [R.node])))) ++ nums [R.to] = (txtC n i ++ (111 :: 110 :: 108 :: 121 :: (nums [R.id, R.fr] ++ (32 :: 97 :: 116 :: (nums [R.node] ++ nums [R.to]))))) := by simp
        rw [q4] at c3
        have l5 : (txtC n i ++ (111 :: 110 :: 108 :: 121 :: (nums [R.id, R.fr] ++ (32 :: 97 :: 116 :: (nums [R.node] ++ nums [R.to]))))).length = (txtC n i).length + ((nums [R.id, R.fr]).length + ((nums [R.node]).length + ((nums [R.to]).length + 7))) := by simp; omega
        have nn : (txtC n i).length + ((nums [R.id, R.fr]).length + 1 + 1 + 1 + 1) + 3 = (txtC n i).length + ((nums [R.id, R.fr]).length + 3 + 1 + 1 + 1 + 1) := by omega
        have e1 := txtC_succ n i
        rw [hR] at e1
        simp only [relT, relW, ho, ha, if_true, Bool.false_eq_true, if_false] at e1
        repeat' (first
         | refine wp2_seq fun K hK => ?_
         | refine M_cons fun K hK => ?_
         | (refine hK _ ?_; clear hK K)
         | (refine hX _ ?_; clear hX hY X Y)
         | refine wp2_block ?_
         | refine wp2_region ?_
         | refine wp2_cond fun X Y hX hY => ?_
         | (refine condK_of (fun c => ?_) (fun c => ?_) <;> (try simp [-List.length_eq_zero_iff] at c))
         | simp (maxSteps := 4000000) (disch := omega) [s1, o1, s3, o3, s90, s91, s92, hlt, encR, hR, ho])
        (refine callT_gen true (c1) (fun _ => ⟨(by first | (simp [RV.flat, RV.flats, T.flat]; done) | ((repeat' first | exact flat_intRow _ | exact flat_boolRow _ | exact flat_byteR _ | exact trivial | constructor | unfold RV.flat | unfold RV.flats); first | done | fail)), (by (repeat' first | exact flat_intRow _ | exact flat_boolRow _ | exact flat_byteR _ | exact trivial | constructor | unfold Arg.flats | unfold Arg.flat); first | done | fail)⟩) (by simp [St.args, St.arg, s1, o1, s3, o3] <;> first | rfl | ((repeat' first | rfl | apply And.intro); first | done | fail)) (by simp [apartArgs, mutsOf, noRow, valsOf]) (by simp) ?_)
        repeat' (first
         | refine wp2_seq fun K hK => ?_
         | refine M_cons fun K hK => ?_
         | (refine hK _ ?_; clear hK K)
         | (refine hX _ ?_; clear hX hY X Y)
         | refine wp2_regionD (by rfl) ?_
         | refine MD_cons ?_ fun K hK => ?_
         | refine wp2_region ?_
         | refine wp2_cond fun X Y hX hY => ?_
         | (refine condK_of (fun c => ?_) (fun c => ?_) <;> (try simp [-List.length_eq_zero_iff] at c))
         | simp (maxSteps := 4000000) (disch := omega) [s1, o1, s3, o3, s90, s91, s92, hlt, encR, hR, ho, ha, mk_bs])
        (refine callT_gen true (c2) (fun _ => ⟨(by first | (simp [RV.flat, RV.flats, T.flat]; done) | ((repeat' first | exact flat_intRow _ | exact flat_boolRow _ | exact flat_byteR _ | exact trivial | constructor | unfold RV.flat | unfold RV.flats); first | done | fail)), (by (repeat' first | exact flat_intRow _ | exact flat_boolRow _ | exact flat_byteR _ | exact trivial | constructor | unfold Arg.flats | unfold Arg.flat); first | done | fail)⟩) (by simp [St.args, St.arg, s1, o1, s3, o3, nn] <;> first | rfl | ((repeat' first | rfl | apply And.intro); first | done | fail)) (by simp [apartArgs, mutsOf, noRow, valsOf]) (by simp) ?_)
        repeat' (first
         | refine M_cons fun K hK => ?_
         | (refine hK _ ?_; clear hK K)
         | refine MD_cons ?_ fun K hK => ?_
         | refine wp2_region ?_
         | simp (maxSteps := 4000000) (disch := omega) [s1, o1, s3, o3, s90, s91, s92, hlt, encR, hR, ho, ha, mk_bs])
        (refine callT_gen true (c3) (fun _ => ⟨(by first | (simp [RV.flat, RV.flats, T.flat]; done) | ((repeat' first | exact flat_intRow _ | exact flat_boolRow _ | exact flat_byteR _ | exact trivial | constructor | unfold RV.flat | unfold RV.flats); first | done | fail)), (by (repeat' first | exact flat_intRow _ | exact flat_boolRow _ | exact flat_byteR _ | exact trivial | constructor | unfold Arg.flats | unfold Arg.flat); first | done | fail)⟩) (by simp [St.args, St.arg, s1, o1, s3, o3, nn] <;> first | rfl | ((repeat' first | rfl | apply And.intro); first | done | fail)) (by simp [apartArgs, mutsOf, noRow, valsOf]) (by simp) ?_)
        repeat' (first
         | refine M_cons fun K hK => ?_
         | (refine hK _ ?_; clear hK K)
         | refine wp2_canon (ops := ⟨some 126, _, _⟩ :: _) [(3, 60003)] ?_
         | simp (maxSteps := 4000000) (disch := omega) [s1, o1, s3, o3, s90, s91, s92, hlt, encR, hR, ho, ha])
        refine hN (n.rels.length - (i + 1)) _ (by omega) ⟨i + 1, ?_⟩
        simp [s1, o1, s3, s90, s91, s92, objN, e1, nums, nums_append]
        omega
      | false =>
        have c1 := put_c (txtC n i) [110, 111] [R.id, R.fr] (okB_end _ [110] 111 (by decide)) (by omega) (by simp) (by simp) (okV_rd (by simpa using ⟨x1, x2⟩))
        have l1 : (txtC n i ++ (110 :: 111 :: nums [R.id, R.fr])).length = (txtC n i).length + ((nums [R.id, R.fr]).length + 2) := by simp
        have l2 : ([32, 97, 116] : List UInt8).length = 3 := rfl
        have l3 : (txtC n i ++ (110 :: 111 :: (nums [R.id, R.fr] ++ [32, 97, 116]))).length = (txtC n i).length + ((nums [R.id, R.fr]).length + 5) := by simp; try omega
        have hok2 : okB (txtC n i ++ (110 :: 111 :: (nums [R.id, R.fr] ++ [32, 97, 116]))) := ⟨txtC n i ++ (110 :: 111 :: (nums [R.id, R.fr] ++ [32, 97])), 116, by simp, by decide⟩
        have c2 := put_c (txtC n i ++ (110 :: 111 :: (nums [R.id, R.fr] ++ [32, 97, 116]))) [] [R.node] (okB_nil hok2) (by omega) (by simp) (by first | (simp; done) | omega) (okV_rd hvv)
        rw [List.append_nil] at c2
        have q3 : (txtC n i ++ (110 :: 111 :: (nums [R.id, R.fr] ++ [32, 97, 116]))) ++ nums [R.node] = (txtC n i ++ (110 :: 111 :: (nums [R.id, R.fr] ++ (32 :: 97 :: 116 :: nums [R.node])))) := by simp
        rw [q3] at c2
        have l4 : (txtC n i ++ (110 :: 111 :: (nums [R.id, R.fr] ++ (32 :: 97 :: 116 :: nums [R.node])))).length = (txtC n i).length + ((nums [R.id, R.fr]).length + ((nums [R.node]).length + 5)) := by simp; omega
        have c3 := put_c (txtC n i ++ (110 :: 111 :: (nums [R.id, R.fr] ++ (32 :: 97 :: 116 :: nums [R.node])))) [] [R.to] (okB_nil (q3 ▸ okB_app hok2 _)) (by omega) (by simp) (by simp) (okV_rd (by simpa using x3))
        rw [List.append_nil] at c3
        have q4 : (txtC n i ++ (110 :: 111 :: (nums [R.id, R.fr] ++ (32 :: 97 :: 116 :: nums [R.node])))) ++ nums [R.to] = (txtC n i ++ (110 :: 111 :: (nums [R.id, R.fr] ++ (32 :: 97 :: 116 :: (nums [R.node] ++ nums [R.to]))))) := by simp
        rw [q4] at c3
        have l5 : (txtC n i ++ (110 :: 111 :: (nums [R.id, R.fr] ++ (32 :: 97 :: 116 :: (nums [R.node] ++ nums [R.to]))))).length = (txtC n i).length + ((nums [R.id, R.fr]).length + ((nums [R.node]).length + ((nums [R.to]).length + 5))) := by simp; omega
        have nn : (txtC n i).length + ((nums [R.id, R.fr]).length + 1 + 1) + 3 = (txtC n i).length + ((nums [R.id, R.fr]).length + 3 + 1 + 1) := by omega
        have e1 := txtC_succ n i
        rw [hR] at e1
        simp only [relT, relW, ho, ha, if_true, Bool.false_eq_true, if_false] at e1
        repeat' (first
         | refine wp2_seq fun K hK => ?_
         | refine M_cons fun K hK => ?_
         | (refine hK _ ?_; clear hK K)
         | (refine hX _ ?_; clear hX hY X Y)
         | (refine hY _ ?_; clear hX hY X Y)
         | refine wp2_block ?_
         | refine wp2_region ?_
         | refine wp2_cond fun X Y hX hY => ?_
         | (refine condK_of (fun c => ?_) (fun c => ?_) <;> (try simp [-List.length_eq_zero_iff] at c))
         | simp (maxSteps := 4000000) (disch := omega) [s1, o1, s3, o3, s90, s91, s92, hlt, encR, hR, ho])
        (refine callT_gen true (c1) (fun _ => ⟨(by first | (simp [RV.flat, RV.flats, T.flat]; done) | ((repeat' first | exact flat_intRow _ | exact flat_boolRow _ | exact flat_byteR _ | exact trivial | constructor | unfold RV.flat | unfold RV.flats); first | done | fail)), (by (repeat' first | exact flat_intRow _ | exact flat_boolRow _ | exact flat_byteR _ | exact trivial | constructor | unfold Arg.flats | unfold Arg.flat); first | done | fail)⟩) (by simp [St.args, St.arg, s1, o1, s3, o3] <;> first | rfl | ((repeat' first | rfl | apply And.intro); first | done | fail)) (by simp [apartArgs, mutsOf, noRow, valsOf]) (by simp) ?_)
        repeat' (first
         | refine wp2_seq fun K hK => ?_
         | refine M_cons fun K hK => ?_
         | (refine hK _ ?_; clear hK K)
         | (refine hX _ ?_; clear hX hY X Y)
         | refine wp2_regionD (by rfl) ?_
         | refine MD_cons ?_ fun K hK => ?_
         | refine wp2_region ?_
         | refine wp2_cond fun X Y hX hY => ?_
         | (refine condK_of (fun c => ?_) (fun c => ?_) <;> (try simp [-List.length_eq_zero_iff] at c))
         | simp (maxSteps := 4000000) (disch := omega) [s1, o1, s3, o3, s90, s91, s92, hlt, encR, hR, ho, ha, mk_bs])
        (refine callT_gen true (c2) (fun _ => ⟨(by first | (simp [RV.flat, RV.flats, T.flat]; done) | ((repeat' first | exact flat_intRow _ | exact flat_boolRow _ | exact flat_byteR _ | exact trivial | constructor | unfold RV.flat | unfold RV.flats); first | done | fail)), (by (repeat' first | exact flat_intRow _ | exact flat_boolRow _ | exact flat_byteR _ | exact trivial | constructor | unfold Arg.flats | unfold Arg.flat); first | done | fail)⟩) (by simp [St.args, St.arg, s1, o1, s3, o3, nn] <;> first | rfl | ((repeat' first | rfl | apply And.intro); first | done | fail)) (by simp [apartArgs, mutsOf, noRow, valsOf]) (by simp) ?_)
        repeat' (first
         | refine M_cons fun K hK => ?_
         | (refine hK _ ?_; clear hK K)
         | refine MD_cons ?_ fun K hK => ?_
         | refine wp2_region ?_
         | simp (maxSteps := 4000000) (disch := omega) [s1, o1, s3, o3, s90, s91, s92, hlt, encR, hR, ho, ha, mk_bs])
        (refine callT_gen true (c3) (fun _ => ⟨(by first | (simp [RV.flat, RV.flats, T.flat]; done) | ((repeat' first | exact flat_intRow _ | exact flat_boolRow _ | exact flat_byteR _ | exact trivial | constructor | unfold RV.flat | unfold RV.flats); first | done | fail)), (by (repeat' first | exact flat_intRow _ | exact flat_boolRow _ | exact flat_byteR _ | exact trivial | constructor | unfold Arg.flats | unfold Arg.flat); first | done | fail)⟩) (by simp [St.args, St.arg, s1, o1, s3, o3, nn] <;> first | rfl | ((repeat' first | rfl | apply And.intro); first | done | fail)) (by simp [apartArgs, mutsOf, noRow, valsOf]) (by simp) ?_)
        repeat' (first
         | refine M_cons fun K hK => ?_
         | (refine hK _ ?_; clear hK K)
         | refine wp2_canon (ops := ⟨some 126, _, _⟩ :: _) [(3, 60003)] ?_
         | simp (maxSteps := 4000000) (disch := omega) [s1, o1, s3, o3, s90, s91, s92, hlt, encR, hR, ho, ha])
        refine hN (n.rels.length - (i + 1)) _ (by omega) ⟨i + 1, ?_⟩
        simp [s1, o1, s3, s90, s91, s92, objN, e1, nums, nums_append]
        omega
    | false =>
      have hvv : ∀ x ∈ R.via, okV x := fun x hx => by
        obtain ⟨j, hj, rfl⟩ := mem_rd.1 hx
        exact way_ok hv ((hr.at0 ha).2.2.2 j hj)
      have h4 := (hr.at0 ha).2.2.1
      have b4 := nums_le hvv
      cases ho : R.only with
      | true =>
        have c1 := put_c (txtC n i) [111, 110, 108, 121] [R.id, R.fr] (okB_end _ [111, 110, 108] 121 (by decide)) (by omega) (by simp) (by simp) (okV_rd (by simpa using ⟨x1, x2⟩))
        have l1 : (txtC n i ++ (111 :: 110 :: 108 :: 121 :: nums [R.id, R.fr])).length = (txtC n i).length + ((nums [R.id, R.fr]).length + 4) := by simp
        have l2 : ([32, 98, 121] : List UInt8).length = 3 := rfl
        have l3 : (txtC n i ++ (111 :: 110 :: 108 :: 121 :: (nums [R.id, R.fr] ++ [32, 98, 121]))).length = (txtC n i).length + ((nums [R.id, R.fr]).length + 7) := by simp; try omega
        have hok2 : okB (txtC n i ++ (111 :: 110 :: 108 :: 121 :: (nums [R.id, R.fr] ++ [32, 98, 121]))) := ⟨txtC n i ++ (111 :: 110 :: 108 :: 121 :: (nums [R.id, R.fr] ++ [32, 98])), 121, by simp, by decide⟩
        have c2 := put_c (txtC n i ++ (111 :: 110 :: 108 :: 121 :: (nums [R.id, R.fr] ++ [32, 98, 121]))) [] R.via (okB_nil hok2) (by omega) (by simp) (by first | (simp; done) | omega) (okV_rd hvv)
        rw [List.append_nil] at c2
        have q3 : (txtC n i ++ (111 :: 110 :: 108 :: 121 :: (nums [R.id, R.fr] ++ [32, 98, 121]))) ++ nums R.via = (txtC n i ++ (111 :: 110 :: 108 :: 121 :: (nums [R.id, R.fr] ++ (32 :: 98 :: 121 :: nums R.via)))) := by simp
        rw [q3] at c2
        have l4 : (txtC n i ++ (111 :: 110 :: 108 :: 121 :: (nums [R.id, R.fr] ++ (32 :: 98 :: 121 :: nums R.via)))).length = (txtC n i).length + ((nums [R.id, R.fr]).length + ((nums R.via).length + 7)) := by simp; omega
        have c3 := put_c (txtC n i ++ (111 :: 110 :: 108 :: 121 :: (nums [R.id, R.fr] ++ (32 :: 98 :: 121 :: nums R.via)))) [] [R.to] (okB_nil (q3 ▸ okB_app hok2 _)) (by omega) (by simp) (by simp) (okV_rd (by simpa using x3))
        rw [List.append_nil] at c3
        have q4 : (txtC n i ++ (111 :: 110 :: 108 :: 121 :: (nums [R.id, R.fr] ++ (32 :: 98 :: 121 :: nums R.via)))) ++ nums [R.to] = (txtC n i ++ (111 :: 110 :: 108 :: 121 :: (nums [R.id, R.fr] ++ (32 :: 98 :: 121 :: (nums R.via ++ nums [R.to]))))) := by simp
        rw [q4] at c3
        have l5 : (txtC n i ++ (111 :: 110 :: 108 :: 121 :: (nums [R.id, R.fr] ++ (32 :: 98 :: 121 :: (nums R.via ++ nums [R.to]))))).length = (txtC n i).length + ((nums [R.id, R.fr]).length + ((nums R.via).length + ((nums [R.to]).length + 7))) := by simp; omega
        have nn : (txtC n i).length + ((nums [R.id, R.fr]).length + 1 + 1 + 1 + 1) + 3 = (txtC n i).length + ((nums [R.id, R.fr]).length + 3 + 1 + 1 + 1 + 1) := by omega
        have e1 := txtC_succ n i
        rw [hR] at e1
        simp only [relT, relW, ho, ha, if_true, Bool.false_eq_true, if_false] at e1
        repeat' (first
         | refine wp2_seq fun K hK => ?_
         | refine M_cons fun K hK => ?_
         | (refine hK _ ?_; clear hK K)
         | (refine hX _ ?_; clear hX hY X Y)
         | refine wp2_block ?_
         | refine wp2_region ?_
         | refine wp2_cond fun X Y hX hY => ?_
         | (refine condK_of (fun c => ?_) (fun c => ?_) <;> (try simp [-List.length_eq_zero_iff] at c))
         | simp (maxSteps := 4000000) (disch := omega) [s1, o1, s3, o3, s90, s91, s92, hlt, encR, hR, ho])
        (refine callT_gen true (c1) (fun _ => ⟨(by first | (simp [RV.flat, RV.flats, T.flat]; done) | ((repeat' first | exact flat_intRow _ | exact flat_boolRow _ | exact flat_byteR _ | exact trivial | constructor | unfold RV.flat | unfold RV.flats); first | done | fail)), (by (repeat' first | exact flat_intRow _ | exact flat_boolRow _ | exact flat_byteR _ | exact trivial | constructor | unfold Arg.flats | unfold Arg.flat); first | done | fail)⟩) (by simp [St.args, St.arg, s1, o1, s3, o3] <;> first | rfl | ((repeat' first | rfl | apply And.intro); first | done | fail)) (by simp [apartArgs, mutsOf, noRow, valsOf]) (by simp) ?_)
        repeat' (first
         | refine wp2_seq fun K hK => ?_
         | refine M_cons fun K hK => ?_
         | (refine hK _ ?_; clear hK K)
         | (refine hY _ ?_; clear hX hY X Y)
         | refine wp2_regionD (by rfl) ?_
         | refine MD_cons ?_ fun K hK => ?_
         | refine wp2_region ?_
         | refine wp2_cond fun X Y hX hY => ?_
         | (refine condK_of (fun c => ?_) (fun c => ?_) <;> (try simp [-List.length_eq_zero_iff] at c))
         | simp (maxSteps := 4000000) (disch := omega) [s1, o1, s3, o3, s90, s91, s92, hlt, encR, hR, ho, ha, mk_bs])
        (refine callT_gen true (c2) (fun _ => ⟨(by first | (simp [RV.flat, RV.flats, T.flat]; done) | ((repeat' first | exact flat_intRow _ | exact flat_boolRow _ | exact flat_byteR _ | exact trivial | constructor | unfold RV.flat | unfold RV.flats); first | done | fail)), (by (repeat' first | exact flat_intRow _ | exact flat_boolRow _ | exact flat_byteR _ | exact trivial | constructor | unfold Arg.flats | unfold Arg.flat); first | done | fail)⟩) (by simp [St.args, St.arg, s1, o1, s3, o3, nn] <;> first | rfl | ((repeat' first | rfl | apply And.intro); first | done | fail)) (by simp [apartArgs, mutsOf, noRow, valsOf]) (by simp) ?_)
        repeat' (first
         | refine M_cons fun K hK => ?_
         | (refine hK _ ?_; clear hK K)
         | refine MD_cons ?_ fun K hK => ?_
         | refine wp2_region ?_
         | simp (maxSteps := 4000000) (disch := omega) [s1, o1, s3, o3, s90, s91, s92, hlt, encR, hR, ho, ha, mk_bs])
        (refine callT_gen true (c3) (fun _ => ⟨(by first | (simp [RV.flat, RV.flats, T.flat]; done) | ((repeat' first | exact flat_intRow _ | exact flat_boolRow _ | exact flat_byteR _ | exact trivial | constructor | unfold RV.flat | unfold RV.flats); first | done | fail)), (by (repeat' first | exact flat_intRow _ | exact flat_boolRow _ | exact flat_byteR _ | exact trivial | constructor | unfold Arg.flats | unfold Arg.flat); first | done | fail)⟩) (by simp [St.args, St.arg, s1, o1, s3, o3, nn] <;> first | rfl | ((repeat' first | rfl | apply And.intro); first | done | fail)) (by simp [apartArgs, mutsOf, noRow, valsOf]) (by simp) ?_)
        repeat' (first
         | refine M_cons fun K hK => ?_
         | (refine hK _ ?_; clear hK K)
         | refine wp2_canon (ops := ⟨some 126, _, _⟩ :: _) [(3, 60003)] ?_
         | simp (maxSteps := 4000000) (disch := omega) [s1, o1, s3, o3, s90, s91, s92, hlt, encR, hR, ho, ha])
        refine hN (n.rels.length - (i + 1)) _ (by omega) ⟨i + 1, ?_⟩
        simp [s1, o1, s3, s90, s91, s92, objN, e1, nums, nums_append]
        omega
      | false =>
        have c1 := put_c (txtC n i) [110, 111] [R.id, R.fr] (okB_end _ [110] 111 (by decide)) (by omega) (by simp) (by simp) (okV_rd (by simpa using ⟨x1, x2⟩))
        have l1 : (txtC n i ++ (110 :: 111 :: nums [R.id, R.fr])).length = (txtC n i).length + ((nums [R.id, R.fr]).length + 2) := by simp
        have l2 : ([32, 98, 121] : List UInt8).length = 3 := rfl
        have l3 : (txtC n i ++ (110 :: 111 :: (nums [R.id, R.fr] ++ [32, 98, 121]))).length = (txtC n i).length + ((nums [R.id, R.fr]).length + 5) := by simp; try omega
        have hok2 : okB (txtC n i ++ (110 :: 111 :: (nums [R.id, R.fr] ++ [32, 98, 121]))) := ⟨txtC n i ++ (110 :: 111 :: (nums [R.id, R.fr] ++ [32, 98])), 121, by simp, by decide⟩
        have c2 := put_c (txtC n i ++ (110 :: 111 :: (nums [R.id, R.fr] ++ [32, 98, 121]))) [] R.via (okB_nil hok2) (by omega) (by simp) (by first | (simp; done) | omega) (okV_rd hvv)
        rw [List.append_nil] at c2
        have q3 : (txtC n i ++ (110 :: 111 :: (nums [R.id, R.fr] ++ [32, 98, 121]))) ++ nums R.via = (txtC n i ++ (110 :: 111 :: (nums [R.id, R.fr] ++ (32 :: 98 :: 121 :: nums R.via)))) := by simp
        rw [q3] at c2
        have l4 : (txtC n i ++ (110 :: 111 :: (nums [R.id, R.fr] ++ (32 :: 98 :: 121 :: nums R.via)))).length = (txtC n i).length + ((nums [R.id, R.fr]).length + ((nums R.via).length + 5)) := by simp; omega
        have c3 := put_c (txtC n i ++ (110 :: 111 :: (nums [R.id, R.fr] ++ (32 :: 98 :: 121 :: nums R.via)))) [] [R.to] (okB_nil (q3 ▸ okB_app hok2 _)) (by omega) (by simp) (by simp) (okV_rd (by simpa using x3))
        rw [List.append_nil] at c3
        have q4 : (txtC n i ++ (110 :: 111 :: (nums [R.id, R.fr] ++ (32 :: 98 :: 121 :: nums R.via)))) ++ nums [R.to] = (txtC n i ++ (110 :: 111 :: (nums [R.id, R.fr] ++ (32 :: 98 :: 121 :: (nums R.via ++ nums [R.to]))))) := by simp
        rw [q4] at c3
        have l5 : (txtC n i ++ (110 :: 111 :: (nums [R.id, R.fr] ++ (32 :: 98 :: 121 :: (nums R.via ++ nums [R.to]))))).length = (txtC n i).length + ((nums [R.id, R.fr]).length + ((nums R.via).length + ((nums [R.to]).length + 5))) := by simp; omega
        have nn : (txtC n i).length + ((nums [R.id, R.fr]).length + 1 + 1) + 3 = (txtC n i).length + ((nums [R.id, R.fr]).length + 3 + 1 + 1) := by omega
        have e1 := txtC_succ n i
        rw [hR] at e1
        simp only [relT, relW, ho, ha, if_true, Bool.false_eq_true, if_false] at e1
        repeat' (first
         | refine wp2_seq fun K hK => ?_
         | refine M_cons fun K hK => ?_
         | (refine hK _ ?_; clear hK K)
         | (refine hX _ ?_; clear hX hY X Y)
         | (refine hY _ ?_; clear hX hY X Y)
         | refine wp2_block ?_
         | refine wp2_region ?_
         | refine wp2_cond fun X Y hX hY => ?_
         | (refine condK_of (fun c => ?_) (fun c => ?_) <;> (try simp [-List.length_eq_zero_iff] at c))
         | simp (maxSteps := 4000000) (disch := omega) [s1, o1, s3, o3, s90, s91, s92, hlt, encR, hR, ho])
        (refine callT_gen true (c1) (fun _ => ⟨(by first | (simp [RV.flat, RV.flats, T.flat]; done) | ((repeat' first | exact flat_intRow _ | exact flat_boolRow _ | exact flat_byteR _ | exact trivial | constructor | unfold RV.flat | unfold RV.flats); first | done | fail)), (by (repeat' first | exact flat_intRow _ | exact flat_boolRow _ | exact flat_byteR _ | exact trivial | constructor | unfold Arg.flats | unfold Arg.flat); first | done | fail)⟩) (by simp [St.args, St.arg, s1, o1, s3, o3] <;> first | rfl | ((repeat' first | rfl | apply And.intro); first | done | fail)) (by simp [apartArgs, mutsOf, noRow, valsOf]) (by simp) ?_)
        repeat' (first
         | refine wp2_seq fun K hK => ?_
         | refine M_cons fun K hK => ?_
         | (refine hK _ ?_; clear hK K)
         | (refine hY _ ?_; clear hX hY X Y)
         | refine wp2_regionD (by rfl) ?_
         | refine MD_cons ?_ fun K hK => ?_
         | refine wp2_region ?_
         | refine wp2_cond fun X Y hX hY => ?_
         | (refine condK_of (fun c => ?_) (fun c => ?_) <;> (try simp [-List.length_eq_zero_iff] at c))
         | simp (maxSteps := 4000000) (disch := omega) [s1, o1, s3, o3, s90, s91, s92, hlt, encR, hR, ho, ha, mk_bs])
        (refine callT_gen true (c2) (fun _ => ⟨(by first | (simp [RV.flat, RV.flats, T.flat]; done) | ((repeat' first | exact flat_intRow _ | exact flat_boolRow _ | exact flat_byteR _ | exact trivial | constructor | unfold RV.flat | unfold RV.flats); first | done | fail)), (by (repeat' first | exact flat_intRow _ | exact flat_boolRow _ | exact flat_byteR _ | exact trivial | constructor | unfold Arg.flats | unfold Arg.flat); first | done | fail)⟩) (by simp [St.args, St.arg, s1, o1, s3, o3, nn] <;> first | rfl | ((repeat' first | rfl | apply And.intro); first | done | fail)) (by simp [apartArgs, mutsOf, noRow, valsOf]) (by simp) ?_)
        repeat' (first
         | refine M_cons fun K hK => ?_
         | (refine hK _ ?_; clear hK K)
         | refine MD_cons ?_ fun K hK => ?_
         | refine wp2_region ?_
         | simp (maxSteps := 4000000) (disch := omega) [s1, o1, s3, o3, s90, s91, s92, hlt, encR, hR, ho, ha, mk_bs])
        (refine callT_gen true (c3) (fun _ => ⟨(by first | (simp [RV.flat, RV.flats, T.flat]; done) | ((repeat' first | exact flat_intRow _ | exact flat_boolRow _ | exact flat_byteR _ | exact trivial | constructor | unfold RV.flat | unfold RV.flats); first | done | fail)), (by (repeat' first | exact flat_intRow _ | exact flat_boolRow _ | exact flat_byteR _ | exact trivial | constructor | unfold Arg.flats | unfold Arg.flat); first | done | fail)⟩) (by simp [St.args, St.arg, s1, o1, s3, o3, nn] <;> first | rfl | ((repeat' first | rfl | apply And.intro); first | done | fail)) (by simp [apartArgs, mutsOf, noRow, valsOf]) (by simp) ?_)
        repeat' (first
         | refine M_cons fun K hK => ?_
         | (refine hK _ ?_; clear hK K)
         | refine wp2_canon (ops := ⟨some 126, _, _⟩ :: _) [(3, 60003)] ?_
         | simp (maxSteps := 4000000) (disch := omega) [s1, o1, s3, o3, s90, s91, s92, hlt, encR, hR, ho, ha])
        refine hN (n.rels.length - (i + 1)) _ (by omega) ⟨i + 1, ?_⟩
        simp [s1, o1, s3, s90, s91, s92, objN, e1, nums, nums_append]
        omega
  · have e1 : i = n.rels.length := by omega
    subst e1
    repeat' (first
     | refine wp2_seq fun K hK => ?_
     | refine M_cons fun K hK => ?_
     | (refine hK _ ?_; clear hK K)
     | (refine hY _ ?_; clear hX hY X Y)
     | refine wp2_region ?_
     | refine wp2_cond fun X Y hX hY => ?_
     | (refine condK_of (fun c => ?_) (fun c => ?_) <;> (try simp [-List.length_eq_zero_iff] at c))
     | simp (maxSteps := 4000000) (disch := omega) [s1, o1, s3, o3, s90, s91, s92])
    all_goals first | omega | skip
    exact hE _ ⟨by simp [s1], by simp [o1, objN], by simp [s3], by simp [o3]⟩
set_option maxHeartbeats 0 in
theorem ei_l4 (n : Net) (hv : VNet n)  {Q : Ex → St → Prop}
    (hE : ∀ s : St, (s.tm 1 = .ptr (1, 0) 0 0 ∧ s.ob (1, 0) = objN n ∧ s.tm 3 = .row (60003, 0) 1 0 (txtD n n.tcs.length).length ∧ s.ob (60003, 0) = some (.row 1 (byteR (txtD n n.tcs.length)))) → Q .normal s)
    (m : Nat) (s : St) (hs : (fun (m : Nat) (s : St) => ∃ i : Nat, s.tm 1 = .ptr (1, 0) 0 0 ∧ s.ob (1, 0) = objN n ∧ s.tm 3 = .row (60003, 0) 1 0 (txtD n i).length ∧ s.ob (60003, 0) = some (.row 1 (byteR (txtD n i))) ∧ s.tm 128 = .t (recs encC n.tcs) ∧ s.tm 129 = .t (.v (.int .i64 n.tcs.length)) ∧ s.tm 130 = .t (.v (.int .i64 i)) ∧ i ≤ n.tcs.length ∧ m = n.tcs.length - i) m s) (K' : St → Prop)
    (hN : ∀ (m' : Nat) (s' : St), m' < m → (fun (m : Nat) (s : St) => ∃ i : Nat, s.tm 1 = .ptr (1, 0) 0 0 ∧ s.ob (1, 0) = objN n ∧ s.tm 3 = .row (60003, 0) 1 0 (txtD n i).length ∧ s.ob (60003, 0) = some (.row 1 (byteR (txtD n i))) ∧ s.tm 128 = .t (recs encC n.tcs) ∧ s.tm 129 = .t (.v (.int .i64 n.tcs.length)) ∧ s.tm 130 = .t (.v (.int .i64 i)) ∧ i ≤ n.tcs.length ∧ m = n.tcs.length - i) m' s' → K' s') :
    wp2 Tryd.prog k8_l4 (thenQ K' (inBlk 8 Q)) s := by
  obtain ⟨i, s1, o1, s3, o3, s128, s129, s130, hi, rfl⟩ := hs
  unfold k8_l4
  simp only [objN] at o1
  have hc := hv.c4
  by_cases hlt : i < n.tcs.length
  · have b1 := txtD_len hv hi
    have ht := (hv.ti i hlt).1
    have e1 := txtD_succ n i
    unfold tcT at e1
    generalize hR : nth n.tcs (i : Int) = R at *
    have hvv : ∀ x ∈ [R.fr, R.to, R.cost], okV x := by simpa using ⟨way_ok hv ht.2.1, way_ok hv ht.2.2, okV_inR ht.1⟩
    have b2 : (nums [R.fr, R.to, R.cost]).length ≤ 63 := by simpa using nums_le hvv
    have c1 := put_c (txtD n i) [116, 117, 114, 110] [R.fr, R.to, R.cost] (okB_end _ [116, 117, 114] 110 (by decide)) (by omega) (by simp) (by simp) (okV_rd hvv)
    have l1 : (txtD n i ++ 116 :: 117 :: 114 :: 110 :: nums [R.fr, R.to, R.cost]).length = (txtD n i).length + ((nums [R.fr, R.to, R.cost]).length + 4) := by simp
    repeat' (first
     | refine wp2_seq fun K hK => ?_
     | refine M_cons fun K hK => ?_
     | (refine hK _ ?_; clear hK K)
     | (refine hX _ ?_; clear hX hY X Y)
     | refine wp2_block ?_
     | refine wp2_canon (ops := ⟨some 145, _, _⟩ :: _) [(3, 60003)] ?_
     | refine wp2_region ?_
     | refine wp2_cond fun X Y hX hY => ?_
     | (refine condK_of (fun c => ?_) (fun c => ?_) <;> (try simp [-List.length_eq_zero_iff] at c))
     | (refine callT_gen true (c1) (fun _ => ⟨(by first | (simp [RV.flat, RV.flats, T.flat]; done) | ((repeat' first | exact flat_intRow _ | exact flat_boolRow _ | exact flat_byteR _ | exact trivial | constructor | unfold RV.flat | unfold RV.flats); first | done | fail)), (by (repeat' first | exact flat_intRow _ | exact flat_boolRow _ | exact flat_byteR _ | exact trivial | constructor | unfold Arg.flats | unfold Arg.flat); first | done | fail)⟩) (by simp [St.args, St.arg, s1, o1, s3, o3, s128, s129, s130, hlt, encC, hR] <;> first | rfl | ((repeat' first | rfl | apply And.intro); first | done | fail)) (by simp [apartArgs, mutsOf, noRow, valsOf]) (by simp) ?_)
     | simp (maxSteps := 4000000) (disch := omega) [s1, o1, s3, o3, s128, s129, s130, hlt, encC, hR])
    refine hN (n.tcs.length - (i + 1)) _ (by omega) ⟨i + 1, ?_⟩
    simp [s1, o1, s3, s128, s129, s130, objN, e1]
    omega
  · have e1 : i = n.tcs.length := by omega
    subst e1
    repeat' (first
     | refine wp2_seq fun K hK => ?_
     | refine M_cons fun K hK => ?_
     | (refine hK _ ?_; clear hK K)
     | (refine hY _ ?_; clear hX hY X Y)
     | refine wp2_region ?_
     | refine wp2_cond fun X Y hX hY => ?_
     | (refine condK_of (fun c => ?_) (fun c => ?_) <;> (try simp [-List.length_eq_zero_iff] at c))
     | simp (maxSteps := 4000000) (disch := omega) [s1, o1, s3, o3, s128, s129, s130])
    all_goals first | omega | skip
    exact hE _ ⟨by simp [s1], by simp [o1, objN], by simp [s3], by simp [o3]⟩
end Cal

/- spec.EncodeNet: a network's text. -/
set_option linter.unusedSimpArgs false
set_option linter.unusedVariables false
namespace Cal
open Go Go.Proofs
set_option maxRecDepth 100000
/-- The body of a loop. -/
def k6_l0 : Code1 :=
 (.seq
 (.seq
 (.region [] false ([]) [
 ⟨some 28,Op.move (Operand.tmp 4),none⟩,
 ⟨some 29,Op.fieldAddr 35 (Operand.tmp 1) 0,none⟩,
 ⟨some 30,Op.load 22 (Operand.tmp 29),none⟩,
 ⟨some 31,Op.call {callee:=Callee.builtin Builtin.len,args:=#[Operand.tmp 30],argTypes:=#[22]},none⟩,
 ⟨some 32,Op.binOp BinOp.lss 3 (Operand.tmp 28) (Operand.tmp 31) 3,none⟩])
 (.cond (Operand.tmp 32)
 .skip
 (.exit 0)))
 (.seq
 (.block 1
 (.region [41,42] false ([]) [
 ⟨some 35,Op.move (Operand.tmp 3),none⟩,
 ⟨some 36,Op.fieldAddr 35 (Operand.tmp 1) 0,none⟩,
 ⟨some 37,Op.load 22 (Operand.tmp 36),none⟩,
 ⟨some 38,Op.move (Operand.tmp 4),none⟩,
 ⟨some 39,Op.indexAddr 22 (Operand.tmp 37) (Operand.tmp 38),none⟩,
 ⟨some 40,Op.load 2 (Operand.tmp 39),none⟩,
 ⟨some 41,Op.buildSlice 22 1 #[(0,Operand.tmp 40)],none⟩,
 ⟨some 42,Op.call {callee:=Callee.value (Operand.func 25),args:=#[Operand.tmp 35,Operand.const (Value.string {data:=#[110,111,100,101]}),Operand.tmp 41],argTypes:=#[29,9,22]},none⟩,
 ⟨some 3,Op.assign (Operand.tmp 42),none⟩]))
 (.region [] false ([]) [
 ⟨some 33,Op.move (Operand.tmp 4),none⟩,
 ⟨some 34,Op.binOp BinOp.add 3 (Operand.tmp 33) (Operand.const (Value.int IntKind.i64 1)) 3,none⟩,
 ⟨some 4,Op.assign (Operand.tmp 34),none⟩])))
/-- The body of a loop. -/
def k6_l2 : Code1 :=
 (.seq
 (.seq
 (.region [] false ([]) [
 ⟨some 72,Op.move (Operand.tmp 9),none⟩,
 ⟨some 73,Op.fieldAddr 55 (Operand.tmp 6) 3,none⟩,
 ⟨some 74,Op.load 22 (Operand.tmp 73),none⟩,
 ⟨some 75,Op.call {callee:=Callee.builtin Builtin.len,args:=#[Operand.tmp 74],argTypes:=#[22]},none⟩,
 ⟨some 76,Op.binOp BinOp.lss 3 (Operand.tmp 72) (Operand.tmp 75) 3,none⟩])
 (.cond (Operand.tmp 76)
 .skip
 (.exit 4)))
 (.seq
 (.block 5
 (.seq
 (.region [85,86] false ([]) [
 ⟨some 79,Op.move (Operand.tmp 8),none⟩,
 ⟨some 80,Op.fieldAddr 55 (Operand.tmp 6) 3,none⟩,
 ⟨some 81,Op.load 22 (Operand.tmp 80),none⟩,
 ⟨some 82,Op.move (Operand.tmp 9),none⟩,
 ⟨some 83,Op.indexAddr 22 (Operand.tmp 81) (Operand.tmp 82),none⟩,
 ⟨some 84,Op.load 2 (Operand.tmp 83),none⟩,
 ⟨some 85,Op.buildSlice 22 1 #[(0,Operand.tmp 84)],none⟩,
 ⟨some 86,Op.call {callee:=Callee.builtin Builtin.append,args:=#[Operand.tmp 79,Operand.tmp 85],argTypes:=#[22,22]},none⟩,
 ⟨some 8,Op.assign (Operand.tmp 86),none⟩])
 (.region [94,95] false ([]) [
 ⟨some 87,Op.move (Operand.tmp 8),none⟩,
 ⟨some 88,Op.fieldAddr 55 (Operand.tmp 6) 2,none⟩,
 ⟨some 89,Op.load 22 (Operand.tmp 88),none⟩,
 ⟨some 90,Op.move (Operand.tmp 9),none⟩,
 ⟨some 91,Op.binOp BinOp.add 3 (Operand.tmp 90) (Operand.const (Value.int IntKind.i64 1)) 3,none⟩,
 ⟨some 92,Op.indexAddr 22 (Operand.tmp 89) (Operand.tmp 91),none⟩,
 ⟨some 93,Op.load 2 (Operand.tmp 92),none⟩,
 ⟨some 94,Op.buildSlice 22 1 #[(0,Operand.tmp 93)],none⟩,
 ⟨some 95,Op.call {callee:=Callee.builtin Builtin.append,args:=#[Operand.tmp 87,Operand.tmp 94],argTypes:=#[22,22]},none⟩,
 ⟨some 8,Op.assign (Operand.tmp 95),none⟩])))
 (.region [] false ([]) [
 ⟨some 77,Op.move (Operand.tmp 9),none⟩,
 ⟨some 78,Op.binOp BinOp.add 3 (Operand.tmp 77) (Operand.const (Value.int IntKind.i64 1)) 3,none⟩,
 ⟨some 9,Op.assign (Operand.tmp 78),none⟩])))
/-- The body of a loop. -/
def k6_l1 : Code1 :=
 (.seq
 (.seq
 (.region [] false ([]) [
 ⟨some 43,Op.move (Operand.tmp 5),none⟩,
 ⟨some 44,Op.fieldAddr 35 (Operand.tmp 1) 1,none⟩,
 ⟨some 45,Op.load 31 (Operand.tmp 44),none⟩,
 ⟨some 46,Op.call {callee:=Callee.builtin Builtin.len,args:=#[Operand.tmp 45],argTypes:=#[31]},none⟩,
 ⟨some 47,Op.binOp BinOp.lss 3 (Operand.tmp 43) (Operand.tmp 46) 3,none⟩])
 (.cond (Operand.tmp 47)
 .skip
 (.exit 2)))
 (.seq
 (.block 3
 (.seq
 (.region [6] false ([]) [
 ⟨some 50,Op.fieldAddr 35 (Operand.tmp 1) 1,none⟩,
 ⟨some 51,Op.load 31 (Operand.tmp 50),none⟩,
 ⟨some 52,Op.move (Operand.tmp 5),none⟩,
 ⟨some 53,Op.indexAddr 31 (Operand.tmp 51) (Operand.tmp 52),none⟩,
 ⟨some 54,Op.load 55 (Operand.tmp 53),none⟩,
 ⟨some 6,Op.alloc 55,none⟩,
 ⟨none,Op.store 55 (Operand.tmp 6) (Operand.tmp 54),none⟩])
 (.seq
 (.region [57] false ([]) [
 ⟨some 55,Op.fieldAddr 55 (Operand.tmp 6) 0,none⟩,
 ⟨some 56,Op.load 2 (Operand.tmp 55),none⟩,
 ⟨some 57,Op.call {callee:=Callee.value (Operand.func 26),args:=#[Operand.tmp 56],argTypes:=#[2]},none⟩,
 ⟨some 58,Op.binOp BinOp.add 9 (Operand.const (Value.string {data:=#[119,97,121,32]})) (Operand.tmp 57) 9,none⟩,
 ⟨some 59,Op.binOp BinOp.add 9 (Operand.tmp 58) (Operand.const (Value.string {data:=#[32,102]})) 9,none⟩,
 ⟨some 7,Op.assign (Operand.tmp 59),none⟩])
 (.seq
 (.seq
 (.region [] false ([]) [
 ⟨some 60,Op.fieldAddr 55 (Operand.tmp 6) 1,none⟩,
 ⟨some 61,Op.load 4 (Operand.tmp 60),none⟩])
 (.cond (Operand.tmp 61)
 (.region [64] false ([]) [
 ⟨some 62,Op.fieldAddr 55 (Operand.tmp 6) 0,none⟩,
 ⟨some 63,Op.load 2 (Operand.tmp 62),none⟩,
 ⟨some 64,Op.call {callee:=Callee.value (Operand.func 26),args:=#[Operand.tmp 63],argTypes:=#[2]},none⟩,
 ⟨some 65,Op.binOp BinOp.add 9 (Operand.const (Value.string {data:=#[119,97,121,32]})) (Operand.tmp 64) 9,none⟩,
 ⟨some 66,Op.binOp BinOp.add 9 (Operand.tmp 65) (Operand.const (Value.string {data:=#[32,98]})) 9,none⟩,
 ⟨some 7,Op.assign (Operand.tmp 66),none⟩])
 .skip))
 (.seq
 (.region [71] false ([]) [
 ⟨some 67,Op.fieldAddr 55 (Operand.tmp 6) 2,none⟩,
 ⟨some 68,Op.load 22 (Operand.tmp 67),none⟩,
 ⟨some 69,Op.indexAddr 22 (Operand.tmp 68) (Operand.const (Value.int IntKind.i64 0)),none⟩,
 ⟨some 70,Op.load 2 (Operand.tmp 69),none⟩,
 ⟨some 71,Op.buildSlice 22 1 #[(0,Operand.tmp 70)],none⟩,
 ⟨some 8,Op.assign (Operand.tmp 71),none⟩])
 (.seq
 (.seq
 (.region [] false ([]) [
 ⟨some 9,Op.assign (Operand.const (Value.int IntKind.i64 0)),none⟩])
 (.block 4
 (.loop k6_l2)))
 (.region [99] false ([]) [
 ⟨some 96,Op.move (Operand.tmp 3),none⟩,
 ⟨some 97,Op.move (Operand.tmp 7),none⟩,
 ⟨some 98,Op.move (Operand.tmp 8),none⟩,
 ⟨some 99,Op.call {callee:=Callee.value (Operand.func 25),args:=#[Operand.tmp 96,Operand.tmp 97,Operand.tmp 98],argTypes:=#[29,9,22]},none⟩,
 ⟨some 3,Op.assign (Operand.tmp 99),none⟩])))))))
 (.region [] false ([]) [
 ⟨some 48,Op.move (Operand.tmp 5),none⟩,
 ⟨some 49,Op.binOp BinOp.add 3 (Operand.tmp 48) (Operand.const (Value.int IntKind.i64 1)) 3,none⟩,
 ⟨some 5,Op.assign (Operand.tmp 49),none⟩])))
/-- The body of a loop. -/
def k6_l4 : Code1 :=
 (.seq
 (.seq
 (.region [] false ([]) [
 ⟨some 136,Op.move (Operand.tmp 14),none⟩,
 ⟨some 137,Op.fieldAddr 58 (Operand.tmp 11) 6,none⟩,
 ⟨some 138,Op.load 22 (Operand.tmp 137),none⟩,
 ⟨some 139,Op.call {callee:=Callee.builtin Builtin.len,args:=#[Operand.tmp 138],argTypes:=#[22]},none⟩,
 ⟨some 140,Op.binOp BinOp.lss 3 (Operand.tmp 136) (Operand.tmp 139) 3,none⟩])
 (.cond (Operand.tmp 140)
 .skip
 (.exit 8)))
 (.seq
 (.block 9
 (.region [149,150] false ([]) [
 ⟨some 143,Op.move (Operand.tmp 13),none⟩,
 ⟨some 144,Op.fieldAddr 58 (Operand.tmp 11) 6,none⟩,
 ⟨some 145,Op.load 22 (Operand.tmp 144),none⟩,
 ⟨some 146,Op.move (Operand.tmp 14),none⟩,
 ⟨some 147,Op.indexAddr 22 (Operand.tmp 145) (Operand.tmp 146),none⟩,
 ⟨some 148,Op.load 2 (Operand.tmp 147),none⟩,
 ⟨some 149,Op.buildSlice 22 1 #[(0,Operand.tmp 148)],none⟩,
 ⟨some 150,Op.call {callee:=Callee.builtin Builtin.append,args:=#[Operand.tmp 143,Operand.tmp 149],argTypes:=#[22,22]},none⟩,
 ⟨some 13,Op.assign (Operand.tmp 150),none⟩]))
 (.region [] false ([]) [
 ⟨some 141,Op.move (Operand.tmp 14),none⟩,
 ⟨some 142,Op.binOp BinOp.add 3 (Operand.tmp 141) (Operand.const (Value.int IntKind.i64 1)) 3,none⟩,
 ⟨some 14,Op.assign (Operand.tmp 142),none⟩])))
/-- The body of a loop. -/
def k6_l3 : Code1 :=
 (.seq
 (.seq
 (.region [] false ([]) [
 ⟨some 100,Op.move (Operand.tmp 10),none⟩,
 ⟨some 101,Op.fieldAddr 35 (Operand.tmp 1) 2,none⟩,
 ⟨some 102,Op.load 32 (Operand.tmp 101),none⟩,
 ⟨some 103,Op.call {callee:=Callee.builtin Builtin.len,args:=#[Operand.tmp 102],argTypes:=#[32]},none⟩,
 ⟨some 104,Op.binOp BinOp.lss 3 (Operand.tmp 100) (Operand.tmp 103) 3,none⟩])
 (.cond (Operand.tmp 104)
 .skip
 (.exit 6)))
 (.seq
 (.block 7
 (.seq
 (.region [11] false ([]) [
 ⟨some 107,Op.fieldAddr 35 (Operand.tmp 1) 2,none⟩,
 ⟨some 108,Op.load 32 (Operand.tmp 107),none⟩,
 ⟨some 109,Op.move (Operand.tmp 10),none⟩,
 ⟨some 110,Op.indexAddr 32 (Operand.tmp 108) (Operand.tmp 109),none⟩,
 ⟨some 111,Op.load 58 (Operand.tmp 110),none⟩,
 ⟨some 11,Op.alloc 58,none⟩,
 ⟨none,Op.store 58 (Operand.tmp 11) (Operand.tmp 111),none⟩])
 (.seq
 (.region [] false ([]) [
 ⟨some 12,Op.assign (Operand.const (Value.string {data:=#[110,111,32]})),none⟩])
 (.seq
 (.seq
 (.region [] false ([]) [
 ⟨some 112,Op.fieldAddr 58 (Operand.tmp 11) 1,none⟩,
 ⟨some 113,Op.load 4 (Operand.tmp 112),none⟩])
 (.cond (Operand.tmp 113)
 (.region [] false ([]) [
 ⟨some 12,Op.assign (Operand.const (Value.string {data:=#[111,110,108,121,32]})),none⟩])
 .skip))
 (.seq
 (.region [117,121] true ([]) [
 ⟨some 114,Op.move (Operand.tmp 12),none⟩,
 ⟨some 115,Op.fieldAddr 58 (Operand.tmp 11) 0,none⟩,
 ⟨some 116,Op.load 2 (Operand.tmp 115),none⟩,
 ⟨some 117,Op.call {callee:=Callee.value (Operand.func 26),args:=#[Operand.tmp 116],argTypes:=#[2]},none⟩,
 ⟨some 118,Op.binOp BinOp.add 9 (Operand.tmp 117) (Operand.const (Value.string {data:=#[32]})) 9,none⟩,
 ⟨some 119,Op.fieldAddr 58 (Operand.tmp 11) 2,none⟩,
 ⟨some 120,Op.load 2 (Operand.tmp 119),none⟩,
 ⟨some 121,Op.call {callee:=Callee.value (Operand.func 26),args:=#[Operand.tmp 120],argTypes:=#[2]},none⟩,
 ⟨some 122,Op.binOp BinOp.add 9 (Operand.tmp 118) (Operand.tmp 121) 9,none⟩,
 ⟨some 123,Op.binOp BinOp.add 9 (Operand.tmp 114) (Operand.tmp 122) 9,none⟩,
 ⟨some 12,Op.assign (Operand.tmp 123),none⟩])
 (.seq
 (.region [] false ([]) [
 ⟨some 124,Op.fieldAddr 58 (Operand.tmp 11) 4,none⟩,
 ⟨some 125,Op.load 4 (Operand.tmp 124),none⟩])
 (.cond (Operand.tmp 125)
 (.region [133,134] false ([]) [
 ⟨some 126,Op.move (Operand.tmp 3),none⟩,
 ⟨some 127,Op.move (Operand.tmp 12),none⟩,
 ⟨some 128,Op.binOp BinOp.add 9 (Operand.tmp 127) (Operand.const (Value.string {data:=#[32,97,116]})) 9,none⟩,
 ⟨some 129,Op.fieldAddr 58 (Operand.tmp 11) 5,none⟩,
 ⟨some 130,Op.load 2 (Operand.tmp 129),none⟩,
 ⟨some 131,Op.fieldAddr 58 (Operand.tmp 11) 3,none⟩,
 ⟨some 132,Op.load 2 (Operand.tmp 131),none⟩,
 ⟨some 133,Op.buildSlice 22 2 #[(0,Operand.tmp 130),(1,Operand.tmp 132)],none⟩,
 ⟨some 134,Op.call {callee:=Callee.value (Operand.func 25),args:=#[Operand.tmp 126,Operand.tmp 128,Operand.tmp 133],argTypes:=#[29,9,22]},none⟩,
 ⟨some 3,Op.assign (Operand.tmp 134),none⟩])
 (.seq
 (.region [135] false ([]) [
 ⟨some 135,Op.buildSlice 22 0 #[],none⟩,
 ⟨some 13,Op.assign (Operand.tmp 135),none⟩])
 (.seq
 (.seq
 (.region [] false ([]) [
 ⟨some 14,Op.assign (Operand.const (Value.int IntKind.i64 0)),none⟩])
 (.block 8
 (.loop k6_l4)))
 (.seq
 (.region [154,155] false ([]) [
 ⟨some 151,Op.move (Operand.tmp 13),none⟩,
 ⟨some 152,Op.fieldAddr 58 (Operand.tmp 11) 3,none⟩,
 ⟨some 153,Op.load 2 (Operand.tmp 152),none⟩,
 ⟨some 154,Op.buildSlice 22 1 #[(0,Operand.tmp 153)],none⟩,
 ⟨some 155,Op.call {callee:=Callee.builtin Builtin.append,args:=#[Operand.tmp 151,Operand.tmp 154],argTypes:=#[22,22]},none⟩,
 ⟨some 13,Op.assign (Operand.tmp 155),none⟩])
 (.region [160] false ([]) [
 ⟨some 156,Op.move (Operand.tmp 3),none⟩,
 ⟨some 157,Op.move (Operand.tmp 12),none⟩,
 ⟨some 158,Op.binOp BinOp.add 9 (Operand.tmp 157) (Operand.const (Value.string {data:=#[32,98,121]})) 9,none⟩,
 ⟨some 159,Op.move (Operand.tmp 13),none⟩,
 ⟨some 160,Op.call {callee:=Callee.value (Operand.func 25),args:=#[Operand.tmp 156,Operand.tmp 158,Operand.tmp 159],argTypes:=#[29,9,22]},none⟩,
 ⟨some 3,Op.assign (Operand.tmp 160),none⟩])))))))))))
 (.region [] false ([]) [
 ⟨some 105,Op.move (Operand.tmp 10),none⟩,
 ⟨some 106,Op.binOp BinOp.add 3 (Operand.tmp 105) (Operand.const (Value.int IntKind.i64 1)) 3,none⟩,
 ⟨some 10,Op.assign (Operand.tmp 106),none⟩])))
/-- The body of a loop. -/
def k6_l5 : Code1 :=
 (.seq
 (.seq
 (.region [] false ([]) [
 ⟨some 161,Op.move (Operand.tmp 15),none⟩,
 ⟨some 162,Op.fieldAddr 35 (Operand.tmp 1) 3,none⟩,
 ⟨some 163,Op.load 33 (Operand.tmp 162),none⟩,
 ⟨some 164,Op.call {callee:=Callee.builtin Builtin.len,args:=#[Operand.tmp 163],argTypes:=#[33]},none⟩,
 ⟨some 165,Op.binOp BinOp.lss 3 (Operand.tmp 161) (Operand.tmp 164) 3,none⟩])
 (.cond (Operand.tmp 165)
 .skip
 (.exit 10)))
 (.seq
 (.block 11
 (.region [187,188] true ([188]) [
 ⟨some 168,Op.move (Operand.tmp 3),none⟩,
 ⟨some 169,Op.fieldAddr 35 (Operand.tmp 1) 3,none⟩,
 ⟨some 170,Op.load 33 (Operand.tmp 169),none⟩,
 ⟨some 171,Op.move (Operand.tmp 15),none⟩,
 ⟨some 172,Op.indexAddr 33 (Operand.tmp 170) (Operand.tmp 171),none⟩,
 ⟨some 173,Op.fieldAddr 60 (Operand.tmp 172) 0,none⟩,
 ⟨some 174,Op.load 2 (Operand.tmp 173),none⟩,
 ⟨some 175,Op.fieldAddr 35 (Operand.tmp 1) 3,none⟩,
 ⟨some 176,Op.load 33 (Operand.tmp 175),none⟩,
 ⟨some 177,Op.move (Operand.tmp 15),none⟩,
 ⟨some 178,Op.indexAddr 33 (Operand.tmp 176) (Operand.tmp 177),none⟩,
 ⟨some 179,Op.fieldAddr 60 (Operand.tmp 178) 1,none⟩,
 ⟨some 180,Op.load 2 (Operand.tmp 179),none⟩,
 ⟨some 181,Op.fieldAddr 35 (Operand.tmp 1) 3,none⟩,
 ⟨some 182,Op.load 33 (Operand.tmp 181),none⟩,
 ⟨some 183,Op.move (Operand.tmp 15),none⟩,
 ⟨some 184,Op.indexAddr 33 (Operand.tmp 182) (Operand.tmp 183),none⟩,
 ⟨some 185,Op.fieldAddr 60 (Operand.tmp 184) 2,none⟩,
 ⟨some 186,Op.load 2 (Operand.tmp 185),none⟩,
 ⟨some 187,Op.buildSlice 22 3 #[(0,Operand.tmp 174),(1,Operand.tmp 180),(2,Operand.tmp 186)],none⟩,
 ⟨some 188,Op.call {callee:=Callee.value (Operand.func 25),args:=#[Operand.tmp 168,Operand.const (Value.string {data:=#[116,117,114,110]}),Operand.tmp 187],argTypes:=#[29,9,22]},none⟩,
 ⟨some 3,Op.assign (Operand.tmp 188),none⟩]))
 (.region [] false ([]) [
 ⟨some 166,Op.move (Operand.tmp 15),none⟩,
 ⟨some 167,Op.binOp BinOp.add 3 (Operand.tmp 166) (Operand.const (Value.int IntKind.i64 1)) 3,none⟩,
 ⟨some 15,Op.assign (Operand.tmp 167),none⟩])))
/-- The code of spec.EncodeNet, its loops' bodies named. -/
def k6 : Code1 :=
 (.seq
 (.region [1] false ([]) [
 ⟨some 1,Op.box 35 (Operand.tmp 0),none⟩,
 ⟨some 2,Op.assign (Operand.const (Value.slice none 0 0)),none⟩])
 (.seq
 (.region [16] false ([]) [
 ⟨some 16,Op.buildSlice 29 0 #[],none⟩,
 ⟨some 3,Op.assign (Operand.tmp 16),none⟩])
 (.seq
 (.seq
 (.region [18] false ([]) [
 ⟨some 17,Op.load 35 (Operand.tmp 1),none⟩,
 ⟨some 18,Op.call {callee:=Callee.value (Operand.func 15),args:=#[Operand.tmp 17],argTypes:=#[35]},none⟩,
 ⟨some 19,Op.unOp UnOp.not 4 (Operand.tmp 18),none⟩])
 (.cond (Operand.tmp 19)
 (.seq
 (.region [] false ([]) [
 ⟨some 20,Op.move (Operand.tmp 3),none⟩,
 ⟨some 2,Op.assign (Operand.tmp 20),none⟩])
 .ret)
 .skip))
 (.seq
 (.region [22] false ([]) [
 ⟨some 21,Op.move (Operand.tmp 3),none⟩,
 ⟨some 22,Op.call {callee:=Callee.value (Operand.func 24),args:=#[Operand.tmp 21,Operand.const (Value.string {data:=#[114,111,97,100,110,101,116,32,49,10]})],argTypes:=#[29,9]},none⟩,
 ⟨some 3,Op.assign (Operand.tmp 22),none⟩])
 (.seq
 (.region [26,27] false ([]) [
 ⟨some 23,Op.move (Operand.tmp 3),none⟩,
 ⟨some 24,Op.fieldAddr 35 (Operand.tmp 1) 4,none⟩,
 ⟨some 25,Op.load 2 (Operand.tmp 24),none⟩,
 ⟨some 26,Op.buildSlice 22 1 #[(0,Operand.tmp 25)],none⟩,
 ⟨some 27,Op.call {callee:=Callee.value (Operand.func 25),args:=#[Operand.tmp 23,Operand.const (Value.string {data:=#[117,116,117,114,110]}),Operand.tmp 26],argTypes:=#[29,9,22]},none⟩,
 ⟨some 3,Op.assign (Operand.tmp 27),none⟩])
 (.seq
 (.seq
 (.region [] false ([]) [
 ⟨some 4,Op.assign (Operand.const (Value.int IntKind.i64 0)),none⟩])
 (.block 0
 (.loop k6_l0)))
 (.seq
 (.seq
 (.region [] false ([]) [
 ⟨some 5,Op.assign (Operand.const (Value.int IntKind.i64 0)),none⟩])
 (.block 2
 (.loop k6_l1)))
 (.seq
 (.seq
 (.region [] false ([]) [
 ⟨some 10,Op.assign (Operand.const (Value.int IntKind.i64 0)),none⟩])
 (.block 6
 (.loop k6_l3)))
 (.seq
 (.seq
 (.region [] false ([]) [
 ⟨some 15,Op.assign (Operand.const (Value.int IntKind.i64 0)),none⟩])
 (.block 10
 (.loop k6_l5)))
 (.seq
 (.region [] false ([]) [
 ⟨some 189,Op.move (Operand.tmp 3),none⟩,
 ⟨some 2,Op.assign (Operand.tmp 189),none⟩])
 .ret))))))))))
set_option maxHeartbeats 0 in
theorem es_l0 (n : Net) (hv : VNet n)  {Q : Ex → St → Prop}
    (hE : ∀ s : St, (s.tm 1 = .ptr (1, 0) 0 0 ∧ s.ob (1, 0) = objN n ∧ s.tm 3 = .row (60003, 0) 1 0 (txtA n n.nodes.length).length ∧ s.ob (60003, 0) = some (.row 1 (byteR (txtA n n.nodes.length)))) → Q .normal s)
    (m : Nat) (s : St) (hs : (fun (m : Nat) (s : St) => ∃ k : Nat, s.tm 1 = .ptr (1, 0) 0 0 ∧ s.ob (1, 0) = objN n ∧ s.tm 3 = .row (60003, 0) 1 0 (txtA n k).length ∧ s.ob (60003, 0) = some (.row 1 (byteR (txtA n k))) ∧ s.tm 4 = .t (.v (.int .i64 k)) ∧ k ≤ n.nodes.length ∧ m = n.nodes.length - k) m s) (K' : St → Prop)
    (hN : ∀ (m' : Nat) (s' : St), m' < m → (fun (m : Nat) (s : St) => ∃ k : Nat, s.tm 1 = .ptr (1, 0) 0 0 ∧ s.ob (1, 0) = objN n ∧ s.tm 3 = .row (60003, 0) 1 0 (txtA n k).length ∧ s.ob (60003, 0) = some (.row 1 (byteR (txtA n k))) ∧ s.tm 4 = .t (.v (.int .i64 k)) ∧ k ≤ n.nodes.length ∧ m = n.nodes.length - k) m' s' → K' s') :
    wp2 Tryd.prog k6_l0 (thenQ K' (inBlk 0 Q)) s := by
  obtain ⟨k, s1, o1, s3, o3, s4, hk, rfl⟩ := hs
  unfold k6_l0
  simp only [objN] at o1
  have hc := hv.c1
  by_cases hlt : k < n.nodes.length
  · have b1 := txtA_len hv hk
    have x1 := okV_inR (hv.ni k hlt).1
    have c1 := line_c (txtA n k) [110, 111, 100, 101] [rd n.nodes k] (by omega) (by simp) (by simp) (okV_rd (by simpa using x1))
    have e1 := txtA_succ n k
    unfold nodeT at e1
    repeat' (first
     | refine wp2_seq fun K hK => ?_
     | refine M_cons fun K hK => ?_
     | (refine hK _ ?_; clear hK K)
     | (refine hX _ ?_; clear hX hY X Y)
     | refine wp2_block ?_
     | refine wp2_canon (ops := ⟨some 33, _, _⟩ :: _) [(3, 60003)] ?_
     | refine wp2_region ?_
     | refine wp2_cond fun X Y hX hY => ?_
     | (refine condK_of (fun c => ?_) (fun c => ?_) <;> (try simp [-List.length_eq_zero_iff] at c))
     | (refine callT_gen true (c1) (fun _ => ⟨(by first | (simp [RV.flat, RV.flats, T.flat]; done) | ((repeat' first | exact flat_intRow _ | exact flat_boolRow _ | exact flat_byteR _ | exact trivial | constructor | unfold RV.flat | unfold RV.flats); first | done | fail)), (by (repeat' first | exact flat_intRow _ | exact flat_boolRow _ | exact flat_byteR _ | exact trivial | constructor | unfold Arg.flats | unfold Arg.flat); first | done | fail)⟩) (by simp [St.args, St.arg, s1, o1, s3, o3, s4, hlt] <;> first | rfl | ((repeat' first | rfl | apply And.intro); first | done | fail)) (by simp [apartArgs, mutsOf, noRow, valsOf]) (by simp) ?_)
     | simp (maxSteps := 4000000) (disch := omega) [s1, o1, s3, o3, s4, hlt])
    refine hN (n.nodes.length - (k + 1)) _ (by omega) ⟨k + 1, ?_⟩
    simp [s1, o1, s3, s4, objN, e1]
    omega
  · have e1 : k = n.nodes.length := by omega
    subst e1
    repeat' (first
     | refine wp2_seq fun K hK => ?_
     | refine M_cons fun K hK => ?_
     | (refine hK _ ?_; clear hK K)
     | (refine hY _ ?_; clear hX hY X Y)
     | refine wp2_region ?_
     | refine wp2_cond fun X Y hX hY => ?_
     | (refine condK_of (fun c => ?_) (fun c => ?_) <;> (try simp [-List.length_eq_zero_iff] at c))
     | simp (maxSteps := 4000000) (disch := omega) [s1, o1, s3, o3, s4])
    all_goals first | omega | skip
    exact hE _ ⟨by simp [s1], by simp [o1, objN], by simp [s3], by simp [o3]⟩
set_option maxHeartbeats 0 in
theorem es_l2 (n : Net) (hv : VNet n) (i : Nat) (h : List UInt8) (hi : i < n.ways.length) {Q : Ex → St → Prop}
    (hE : ∀ s : St, (s.tm 1 = .ptr (1, 0) 0 0 ∧ s.ob (1, 0) = objN n ∧ s.tm 3 = .row (60003, 0) 1 0 (txtB n i).length ∧ s.ob (60003, 0) = some (.row 1 (byteR (txtB n i))) ∧ s.tm 5 = .t (.v (.int .i64 i)) ∧ s.tm 6 = .ptr (6, 0) 0 0 ∧ s.ob (6, 0) = objW (nth n.ways (i : Int)) ∧ s.tm 7 = .t (.v (.string (bs h))) ∧ ∃ id, (id = (71, 0) ∨ id = (95, 0)) ∧ s.tm 8 = .row id 1 0 (wayV (nth n.ways (i : Int)) (nth n.ways (i : Int)).lens.length).length ∧ s.ob id = some (.row 1 (intRow (wayV (nth n.ways (i : Int)) (nth n.ways (i : Int)).lens.length)))) → Q .normal s)
    (m : Nat) (s : St) (hs : (fun (m : Nat) (s : St) => ∃ (j : Nat) (id : Id), (id = (71, 0) ∨ id = (95, 0)) ∧ s.tm 1 = .ptr (1, 0) 0 0 ∧ s.ob (1, 0) = objN n ∧ s.tm 3 = .row (60003, 0) 1 0 (txtB n i).length ∧ s.ob (60003, 0) = some (.row 1 (byteR (txtB n i))) ∧ s.tm 5 = .t (.v (.int .i64 i)) ∧ s.tm 6 = .ptr (6, 0) 0 0 ∧ s.ob (6, 0) = objW (nth n.ways (i : Int)) ∧ s.tm 7 = .t (.v (.string (bs h))) ∧ s.tm 8 = .row id 1 0 (2 * j + 1) ∧ s.ob id = some (.row 1 (intRow (wayV (nth n.ways (i : Int)) j))) ∧ s.tm 9 = .t (.v (.int .i64 j)) ∧ j ≤ (nth n.ways (i : Int)).lens.length ∧ m = (nth n.ways (i : Int)).lens.length - j) m s) (K' : St → Prop)
    (hN : ∀ (m' : Nat) (s' : St), m' < m → (fun (m : Nat) (s : St) => ∃ (j : Nat) (id : Id), (id = (71, 0) ∨ id = (95, 0)) ∧ s.tm 1 = .ptr (1, 0) 0 0 ∧ s.ob (1, 0) = objN n ∧ s.tm 3 = .row (60003, 0) 1 0 (txtB n i).length ∧ s.ob (60003, 0) = some (.row 1 (byteR (txtB n i))) ∧ s.tm 5 = .t (.v (.int .i64 i)) ∧ s.tm 6 = .ptr (6, 0) 0 0 ∧ s.ob (6, 0) = objW (nth n.ways (i : Int)) ∧ s.tm 7 = .t (.v (.string (bs h))) ∧ s.tm 8 = .row id 1 0 (2 * j + 1) ∧ s.ob id = some (.row 1 (intRow (wayV (nth n.ways (i : Int)) j))) ∧ s.tm 9 = .t (.v (.int .i64 j)) ∧ j ≤ (nth n.ways (i : Int)).lens.length ∧ m = (nth n.ways (i : Int)).lens.length - j) m' s' → K' s') :
    wp2 Tryd.prog k6_l2 (thenQ K' (inBlk 4 Q)) s := by
  obtain ⟨j, id, hid, s1, o1, s3, o3, s5, s6, o6, s7, s8, o8, s9, hj, rfl⟩ := hs
  unfold k6_l2
  simp only [objN] at o1
  have hw := (hv.wi i hi).1
  have hl2 := hw.l2
  have hln := hw.ln
  generalize hW : nth n.ways (i : Int) = W at *
  simp only [objW] at o6
  by_cases hlt : j < W.lens.length
  · have hvl := wayV_length W j
    have e1 : wayV W (j + 1) = wayV W j ++ [rd W.lens j, rd W.nodes ((j : Int) + 1)] := rfl
    have hvl2 : (wayV W j ++ [rd W.lens j]).length = 2 * j + 1 + 1 := by rw [List.length_append, hvl]; rfl
    have hp : ∀ (id : Id), (id = (71, 0) ∨ id = (95, 0)) → True := fun _ _ => trivial
    rcases hid with rfl | rfl
    · repeat' (first
     | refine wp2_seq fun K hK => ?_
     | refine M_cons fun K hK => ?_
     | (refine hK _ ?_; clear hK K)
     | (refine hX _ ?_; clear hX hY X Y)
     | refine wp2_block ?_
     | refine wp2_region ?_
     | refine wp2_cond fun X Y hX hY => ?_
     | (refine condK_of (fun c => ?_) (fun c => ?_) <;> (try simp [-List.length_eq_zero_iff] at c))
     | simp (maxSteps := 4000000) (disch := omega) [s1, o1, s3, o3, s5, s6, o6, s7, s8, o8, s9, hlt])
      refine hN (W.lens.length - (j + 1)) _ (by omega) ⟨j + 1, (95, 0), .inr rfl, ?_⟩
      simp [s1, o1, s3, o3, s5, s6, o6, s7, s8, s9, objN, objW, e1]
      omega
    · repeat' (first
     | refine wp2_seq fun K hK => ?_
     | refine M_cons fun K hK => ?_
     | (refine hK _ ?_; clear hK K)
     | (refine hX _ ?_; clear hX hY X Y)
     | refine wp2_block ?_
     | refine wp2_region ?_
     | refine wp2_cond fun X Y hX hY => ?_
     | (refine condK_of (fun c => ?_) (fun c => ?_) <;> (try simp [-List.length_eq_zero_iff] at c))
     | simp (maxSteps := 4000000) (disch := omega) [s1, o1, s3, o3, s5, s6, o6, s7, s8, o8, s9, hlt])
      refine hN (W.lens.length - (j + 1)) _ (by omega) ⟨j + 1, (95, 0), .inr rfl, ?_⟩
      simp [s1, o1, s3, o3, s5, s6, o6, s7, s8, s9, objN, objW, e1]
      omega
  · have e1 : j = W.lens.length := by omega
    subst e1
    repeat' (first
     | refine wp2_seq fun K hK => ?_
     | refine M_cons fun K hK => ?_
     | (refine hK _ ?_; clear hK K)
     | (refine hY _ ?_; clear hX hY X Y)
     | refine wp2_region ?_
     | refine wp2_cond fun X Y hX hY => ?_
     | (refine condK_of (fun c => ?_) (fun c => ?_) <;> (try simp [-List.length_eq_zero_iff] at c))
     | simp (maxSteps := 4000000) (disch := omega) [s1, o1, s3, o3, s5, s6, o6, s7, s8, o8, s9])
    all_goals first | omega | skip
    refine hE _ ⟨by simp [s1], by simp [o1, objN], by simp [s3], by simp [o3], by simp [s5], by simp [s6], by simp [o6, objW], by simp [s7], id, hid, ?_, ?_⟩
    · simp [s8, wayV_length]
    · simp [o8]
set_option maxHeartbeats 0 in
theorem es_l1 (n : Net) (hv : VNet n)  {Q : Ex → St → Prop}
    (hE : ∀ s : St, (s.tm 1 = .ptr (1, 0) 0 0 ∧ s.ob (1, 0) = objN n ∧ s.tm 3 = .row (60003, 0) 1 0 (txtB n n.ways.length).length ∧ s.ob (60003, 0) = some (.row 1 (byteR (txtB n n.ways.length)))) → Q .normal s)
    (m : Nat) (s : St) (hs : (fun (m : Nat) (s : St) => ∃ i : Nat, s.tm 1 = .ptr (1, 0) 0 0 ∧ s.ob (1, 0) = objN n ∧ s.tm 3 = .row (60003, 0) 1 0 (txtB n i).length ∧ s.ob (60003, 0) = some (.row 1 (byteR (txtB n i))) ∧ s.tm 5 = .t (.v (.int .i64 i)) ∧ i ≤ n.ways.length ∧ m = n.ways.length - i) m s) (K' : St → Prop)
    (hN : ∀ (m' : Nat) (s' : St), m' < m → (fun (m : Nat) (s : St) => ∃ i : Nat, s.tm 1 = .ptr (1, 0) 0 0 ∧ s.ob (1, 0) = objN n ∧ s.tm 3 = .row (60003, 0) 1 0 (txtB n i).length ∧ s.ob (60003, 0) = some (.row 1 (byteR (txtB n i))) ∧ s.tm 5 = .t (.v (.int .i64 i)) ∧ i ≤ n.ways.length ∧ m = n.ways.length - i) m' s' → K' s') :
    wp2 Tryd.prog k6_l1 (thenQ K' (inBlk 2 Q)) s := by
  obtain ⟨i, s1, o1, s3, o3, s5, hi, rfl⟩ := hs
  unfold k6_l1
  simp only [objN] at o1
  have hc := hv.c2
  by_cases hlt : i < n.ways.length
  · have b1 := txtB_len hv hi
    have hw := (hv.wi i hlt).1
    have x1 := okV_inR hw.id
    have h2 := hw.l2
    have hln := hw.ln
    have d1 := dec_cI (nth n.ways (i : Int)).id x1.1 x1.2
    have d2 := dec_lenI x1.2
    have l1 : ([119, 97, 121, 32] : List UInt8).length = 4 := rfl
    have l2 : (119 :: 97 :: 121 :: 32 :: Lib.decDigits (nth n.ways (i : Int)).id.toNat).length = (Lib.decDigits (nth n.ways (i : Int)).id.toNat).length + 4 := rfl
    have l3 : ([32, 102] : List UInt8).length = 2 := rfl
    have l4 : ([32, 98] : List UInt8).length = 2 := rfl
    have hvl := wayV_length (nth n.ways (i : Int)) (nth n.ways (i : Int)).lens.length
    cases ht : (nth n.ways (i : Int)).two with
    | false =>
      have c1 := line_c (txtB n i) (119 :: 97 :: 121 :: 32 :: (Lib.decDigits (nth n.ways (i : Int)).id.toNat ++ [32, 102])) (wayV (nth n.ways (i : Int)) (nth n.ways (i : Int)).lens.length) (by omega) (by simp; omega) (by omega) (okV_rd (wayV_ok hv hw _ (Nat.le_refl _)))
      have e1 := txtB_succ n i
      unfold wayT at e1
      repeat' (first
       | refine wp2_seq fun K hK => ?_
       | refine M_cons fun K hK => ?_
       | (refine hK _ ?_; clear hK K)
       | (refine hX _ ?_; clear hX hY X Y)
       | (refine hY _ ?_; clear hX hY X Y)
       | refine wp2_block ?_
       | refine wp2_region ?_
       | refine wp2_cond fun X Y hX hY => ?_
       | (refine condK_of (fun c => ?_) (fun c => ?_) <;> (try simp [-List.length_eq_zero_iff] at c))
       | (refine callT_fl (d1) (by simp [St.args, St.arg, s1, o1, s3, o3, s5, hlt, encW, ht] <;> first | rfl | ((repeat' first | rfl | apply And.intro); first | done | fail)) ?_)
       | simp (maxSteps := 4000000) (disch := omega) [s1, o1, s3, o3, s5, hlt, encW, ht])
      refine wp2_loop _ (nth n.ways (i : Int)).lens.length ?_ (es_l2 n hv i (119 :: 97 :: 121 :: 32 :: (Lib.decDigits (nth n.ways (i : Int)).id.toNat ++ [32, 102])) hlt ?_)
      · refine ⟨0, (71, 0), .inl rfl, ?_⟩
        simp [s1, o1, s3, o3, s5, objN, objW, ht, wayV]
      · rintro s ⟨s1, o1, s3, o3, s5, s6, o6, s7, id, hid, s8, o8⟩
        simp only [objN] at o1
        rcases hid with rfl | rfl
        · repeat' (first
         | refine M_cons fun K hK => ?_
         | (refine hK _ ?_; clear hK K)
         | refine wp2_canon (ops := ⟨some 48, _, _⟩ :: _) [(3, 60003)] ?_
         | refine wp2_region ?_
         | (refine callT_gen true (c1) (fun _ => ⟨(by first | (simp [RV.flat, RV.flats, T.flat]; done) | ((repeat' first | exact flat_intRow _ | exact flat_boolRow _ | exact flat_byteR _ | exact trivial | constructor | unfold RV.flat | unfold RV.flats); first | done | fail)), (by (repeat' first | exact flat_intRow _ | exact flat_boolRow _ | exact flat_byteR _ | exact trivial | constructor | unfold Arg.flats | unfold Arg.flat); first | done | fail)⟩) (by simp [St.args, St.arg, s1, o1, s3, o3, s5, s6, o6, s7, s8, o8] <;> first | rfl | ((repeat' first | rfl | apply And.intro); first | done | fail)) (by simp [apartArgs, mutsOf, noRow, valsOf]) (by simp) ?_)
         | simp (maxSteps := 4000000) (disch := omega) [s1, o1, s3, o3, s5, s6, o6, s7, s8, o8])
          refine hN (n.ways.length - (i + 1)) _ (by omega) ⟨i + 1, ?_⟩
          simp [s1, o1, s3, s5, objN, e1, ht, nums]
          omega
        · repeat' (first
         | refine M_cons fun K hK => ?_
         | (refine hK _ ?_; clear hK K)
         | refine wp2_canon (ops := ⟨some 48, _, _⟩ :: _) [(3, 60003)] ?_
         | refine wp2_region ?_
         | (refine callT_gen true (c1) (fun _ => ⟨(by first | (simp [RV.flat, RV.flats, T.flat]; done) | ((repeat' first | exact flat_intRow _ | exact flat_boolRow _ | exact flat_byteR _ | exact trivial | constructor | unfold RV.flat | unfold RV.flats); first | done | fail)), (by (repeat' first | exact flat_intRow _ | exact flat_boolRow _ | exact flat_byteR _ | exact trivial | constructor | unfold Arg.flats | unfold Arg.flat); first | done | fail)⟩) (by simp [St.args, St.arg, s1, o1, s3, o3, s5, s6, o6, s7, s8, o8] <;> first | rfl | ((repeat' first | rfl | apply And.intro); first | done | fail)) (by simp [apartArgs, mutsOf, noRow, valsOf]) (by simp) ?_)
         | simp (maxSteps := 4000000) (disch := omega) [s1, o1, s3, o3, s5, s6, o6, s7, s8, o8])
          refine hN (n.ways.length - (i + 1)) _ (by omega) ⟨i + 1, ?_⟩
          simp [s1, o1, s3, s5, objN, e1, ht, nums]
          omega
    | true =>
      have c1 := line_c (txtB n i) (119 :: 97 :: 121 :: 32 :: (Lib.decDigits (nth n.ways (i : Int)).id.toNat ++ [32, 98])) (wayV (nth n.ways (i : Int)) (nth n.ways (i : Int)).lens.length) (by omega) (by simp; omega) (by omega) (okV_rd (wayV_ok hv hw _ (Nat.le_refl _)))
      have e1 := txtB_succ n i
      unfold wayT at e1
      repeat' (first
       | refine wp2_seq fun K hK => ?_
       | refine M_cons fun K hK => ?_
       | (refine hK _ ?_; clear hK K)
       | (refine hX _ ?_; clear hX hY X Y)
       | refine wp2_block ?_
       | refine wp2_region ?_
       | refine wp2_cond fun X Y hX hY => ?_
       | (refine condK_of (fun c => ?_) (fun c => ?_) <;> (try simp [-List.length_eq_zero_iff] at c))
       | (refine callT_fl (d1) (by simp [St.args, St.arg, s1, o1, s3, o3, s5, hlt, encW, ht] <;> first | rfl | ((repeat' first | rfl | apply And.intro); first | done | fail)) ?_)
       | simp (maxSteps := 4000000) (disch := omega) [s1, o1, s3, o3, s5, hlt, encW, ht])
      refine wp2_loop _ (nth n.ways (i : Int)).lens.length ?_ (es_l2 n hv i (119 :: 97 :: 121 :: 32 :: (Lib.decDigits (nth n.ways (i : Int)).id.toNat ++ [32, 98])) hlt ?_)
      · refine ⟨0, (71, 0), .inl rfl, ?_⟩
        simp [s1, o1, s3, o3, s5, objN, objW, ht, wayV]
      · rintro s ⟨s1, o1, s3, o3, s5, s6, o6, s7, id, hid, s8, o8⟩
        simp only [objN] at o1
        rcases hid with rfl | rfl
        · repeat' (first
         | refine M_cons fun K hK => ?_
         | (refine hK _ ?_; clear hK K)
         | refine wp2_canon (ops := ⟨some 48, _, _⟩ :: _) [(3, 60003)] ?_
         | refine wp2_region ?_
         | (refine callT_gen true (c1) (fun _ => ⟨(by first | (simp [RV.flat, RV.flats, T.flat]; done) | ((repeat' first | exact flat_intRow _ | exact flat_boolRow _ | exact flat_byteR _ | exact trivial | constructor | unfold RV.flat | unfold RV.flats); first | done | fail)), (by (repeat' first | exact flat_intRow _ | exact flat_boolRow _ | exact flat_byteR _ | exact trivial | constructor | unfold Arg.flats | unfold Arg.flat); first | done | fail)⟩) (by simp [St.args, St.arg, s1, o1, s3, o3, s5, s6, o6, s7, s8, o8] <;> first | rfl | ((repeat' first | rfl | apply And.intro); first | done | fail)) (by simp [apartArgs, mutsOf, noRow, valsOf]) (by simp) ?_)
         | simp (maxSteps := 4000000) (disch := omega) [s1, o1, s3, o3, s5, s6, o6, s7, s8, o8])
          refine hN (n.ways.length - (i + 1)) _ (by omega) ⟨i + 1, ?_⟩
          simp [s1, o1, s3, s5, objN, e1, ht, nums]
          omega
        · repeat' (first
         | refine M_cons fun K hK => ?_
         | (refine hK _ ?_; clear hK K)
         | refine wp2_canon (ops := ⟨some 48, _, _⟩ :: _) [(3, 60003)] ?_
         | refine wp2_region ?_
         | (refine callT_gen true (c1) (fun _ => ⟨(by first | (simp [RV.flat, RV.flats, T.flat]; done) | ((repeat' first | exact flat_intRow _ | exact flat_boolRow _ | exact flat_byteR _ | exact trivial | constructor | unfold RV.flat | unfold RV.flats); first | done | fail)), (by (repeat' first | exact flat_intRow _ | exact flat_boolRow _ | exact flat_byteR _ | exact trivial | constructor | unfold Arg.flats | unfold Arg.flat); first | done | fail)⟩) (by simp [St.args, St.arg, s1, o1, s3, o3, s5, s6, o6, s7, s8, o8] <;> first | rfl | ((repeat' first | rfl | apply And.intro); first | done | fail)) (by simp [apartArgs, mutsOf, noRow, valsOf]) (by simp) ?_)
         | simp (maxSteps := 4000000) (disch := omega) [s1, o1, s3, o3, s5, s6, o6, s7, s8, o8])
          refine hN (n.ways.length - (i + 1)) _ (by omega) ⟨i + 1, ?_⟩
          simp [s1, o1, s3, s5, objN, e1, ht, nums]
          omega
  · have e1 : i = n.ways.length := by omega
    subst e1
    repeat' (first
     | refine wp2_seq fun K hK => ?_
     | refine M_cons fun K hK => ?_
     | (refine hK _ ?_; clear hK K)
     | (refine hY _ ?_; clear hX hY X Y)
     | refine wp2_region ?_
     | refine wp2_cond fun X Y hX hY => ?_
     | (refine condK_of (fun c => ?_) (fun c => ?_) <;> (try simp [-List.length_eq_zero_iff] at c))
     | simp (maxSteps := 4000000) (disch := omega) [s1, o1, s3, o3, s5])
    all_goals first | omega | skip
    exact hE _ ⟨by simp [s1], by simp [o1, objN], by simp [s3], by simp [o3]⟩
set_option maxHeartbeats 0 in
theorem es_l4 (n : Net) (hv : VNet n) (i : Nat) (h : List UInt8) (hl : (nth n.rels (i : Int)).via.length ≤ 4) {Q : Ex → St → Prop}
    (hE : ∀ s : St, (s.tm 1 = .ptr (1, 0) 0 0 ∧ s.ob (1, 0) = objN n ∧ s.tm 3 = .row (60003, 0) 1 0 (txtC n i).length ∧ s.ob (60003, 0) = some (.row 1 (byteR (txtC n i))) ∧ s.tm 10 = .t (.v (.int .i64 i)) ∧ s.tm 11 = .ptr (11, 0) 0 0 ∧ s.ob (11, 0) = objR (nth n.rels (i : Int)) ∧ s.tm 12 = .t (.v (.string (bs h))) ∧ ∃ id, (id = (135, 0) ∨ id = (150, 0)) ∧ s.tm 13 = .row id 1 0 (nth n.rels (i : Int)).via.length ∧ s.ob id = some (.row 1 (intRow (nth n.rels (i : Int)).via))) → Q .normal s)
    (m : Nat) (s : St) (hs : (fun (m : Nat) (s : St) => ∃ (j : Nat) (id : Id), (id = (135, 0) ∨ id = (150, 0)) ∧ s.tm 1 = .ptr (1, 0) 0 0 ∧ s.ob (1, 0) = objN n ∧ s.tm 3 = .row (60003, 0) 1 0 (txtC n i).length ∧ s.ob (60003, 0) = some (.row 1 (byteR (txtC n i))) ∧ s.tm 10 = .t (.v (.int .i64 i)) ∧ s.tm 11 = .ptr (11, 0) 0 0 ∧ s.ob (11, 0) = objR (nth n.rels (i : Int)) ∧ s.tm 12 = .t (.v (.string (bs h))) ∧ s.tm 13 = .row id 1 0 j ∧ s.ob id = some (.row 1 (intRow ((nth n.rels (i : Int)).via.take j))) ∧ s.tm 14 = .t (.v (.int .i64 j)) ∧ j ≤ (nth n.rels (i : Int)).via.length ∧ m = (nth n.rels (i : Int)).via.length - j) m s) (K' : St → Prop)
    (hN : ∀ (m' : Nat) (s' : St), m' < m → (fun (m : Nat) (s : St) => ∃ (j : Nat) (id : Id), (id = (135, 0) ∨ id = (150, 0)) ∧ s.tm 1 = .ptr (1, 0) 0 0 ∧ s.ob (1, 0) = objN n ∧ s.tm 3 = .row (60003, 0) 1 0 (txtC n i).length ∧ s.ob (60003, 0) = some (.row 1 (byteR (txtC n i))) ∧ s.tm 10 = .t (.v (.int .i64 i)) ∧ s.tm 11 = .ptr (11, 0) 0 0 ∧ s.ob (11, 0) = objR (nth n.rels (i : Int)) ∧ s.tm 12 = .t (.v (.string (bs h))) ∧ s.tm 13 = .row id 1 0 j ∧ s.ob id = some (.row 1 (intRow ((nth n.rels (i : Int)).via.take j))) ∧ s.tm 14 = .t (.v (.int .i64 j)) ∧ j ≤ (nth n.rels (i : Int)).via.length ∧ m = (nth n.rels (i : Int)).via.length - j) m' s' → K' s') :
    wp2 Tryd.prog k6_l4 (thenQ K' (inBlk 8 Q)) s := by
  obtain ⟨j, id, hid, s1, o1, s3, o3, s10, s11, o11, s12, s13, o13, s14, hj, rfl⟩ := hs
  unfold k6_l4
  simp only [objN] at o1
  generalize hR : nth n.rels (i : Int) = R at *
  simp only [objR] at o11
  by_cases hlt : j < R.via.length
  · have tl : (R.via.take j).length = j := by rw [List.length_take]; omega
    have e1 := take_snoc hlt
    rcases hid with rfl | rfl
    · repeat' (first
     | refine wp2_seq fun K hK => ?_
     | refine M_cons fun K hK => ?_
     | (refine hK _ ?_; clear hK K)
     | (refine hX _ ?_; clear hX hY X Y)
     | refine wp2_block ?_
     | refine wp2_region ?_
     | refine wp2_cond fun X Y hX hY => ?_
     | (refine condK_of (fun c => ?_) (fun c => ?_) <;> (try simp [-List.length_eq_zero_iff] at c))
     | simp (maxSteps := 4000000) (disch := omega) [s1, o1, s3, o3, s10, s11, o11, s12, s13, o13, s14, hlt])
      refine hN (R.via.length - (j + 1)) _ (by omega) ⟨j + 1, (150, 0), .inr rfl, ?_⟩
      simp [s1, o1, s3, o3, s10, s11, o11, s12, s13, objN, objR, e1]
      omega
    · repeat' (first
     | refine wp2_seq fun K hK => ?_
     | refine M_cons fun K hK => ?_
     | (refine hK _ ?_; clear hK K)
     | (refine hX _ ?_; clear hX hY X Y)
     | refine wp2_block ?_
     | refine wp2_rename (mk := [149, 150]) 150 60150 (by decide) ?_
     | refine wp2_region ?_
     | refine wp2_cond fun X Y hX hY => ?_
     | (refine condK_of (fun c => ?_) (fun c => ?_) <;> (try simp [-List.length_eq_zero_iff] at c))
     | simp (maxSteps := 4000000) (disch := omega) [s1, o1, s3, o3, s10, s11, o11, s12, s13, o13, s14, hlt])
      refine hN (R.via.length - (j + 1)) _ (by omega) ⟨j + 1, (150, 0), .inr rfl, ?_⟩
      simp [s1, o1, s3, o3, s10, s11, o11, s12, s13, objN, objR, e1]
      omega
  · have e1 : j = R.via.length := by omega
    subst e1
    rw [List.take_length] at o13
    repeat' (first
     | refine wp2_seq fun K hK => ?_
     | refine M_cons fun K hK => ?_
     | (refine hK _ ?_; clear hK K)
     | (refine hY _ ?_; clear hX hY X Y)
     | refine wp2_region ?_
     | refine wp2_cond fun X Y hX hY => ?_
     | (refine condK_of (fun c => ?_) (fun c => ?_) <;> (try simp [-List.length_eq_zero_iff] at c))
     | simp (maxSteps := 4000000) (disch := omega) [s1, o1, s3, o3, s10, s11, o11, s12, s13, o13, s14])
    all_goals first | omega | skip
    exact hE _ ⟨by simp [s1], by simp [o1, objN], by simp [s3], by simp [o3], by simp [s10], by simp [s11], by simp [o11, objR], by simp [s12], id, hid, by simp [s13], by simp [o13]⟩
set_option maxHeartbeats 0 in
theorem es_l5 (n : Net) (hv : VNet n)  {Q : Ex → St → Prop}
    (hE : ∀ s : St, (s.tm 1 = .ptr (1, 0) 0 0 ∧ s.ob (1, 0) = objN n ∧ s.tm 3 = .row (60003, 0) 1 0 (txtD n n.tcs.length).length ∧ s.ob (60003, 0) = some (.row 1 (byteR (txtD n n.tcs.length)))) → Q .normal s)
    (m : Nat) (s : St) (hs : (fun (m : Nat) (s : St) => ∃ i : Nat, s.tm 1 = .ptr (1, 0) 0 0 ∧ s.ob (1, 0) = objN n ∧ s.tm 3 = .row (60003, 0) 1 0 (txtD n i).length ∧ s.ob (60003, 0) = some (.row 1 (byteR (txtD n i))) ∧ s.tm 15 = .t (.v (.int .i64 i)) ∧ i ≤ n.tcs.length ∧ m = n.tcs.length - i) m s) (K' : St → Prop)
    (hN : ∀ (m' : Nat) (s' : St), m' < m → (fun (m : Nat) (s : St) => ∃ i : Nat, s.tm 1 = .ptr (1, 0) 0 0 ∧ s.ob (1, 0) = objN n ∧ s.tm 3 = .row (60003, 0) 1 0 (txtD n i).length ∧ s.ob (60003, 0) = some (.row 1 (byteR (txtD n i))) ∧ s.tm 15 = .t (.v (.int .i64 i)) ∧ i ≤ n.tcs.length ∧ m = n.tcs.length - i) m' s' → K' s') :
    wp2 Tryd.prog k6_l5 (thenQ K' (inBlk 10 Q)) s := by
  obtain ⟨i, s1, o1, s3, o3, s15, hi, rfl⟩ := hs
  unfold k6_l5
  simp only [objN] at o1
  have hc := hv.c4
  by_cases hlt : i < n.tcs.length
  · have b1 := txtD_len hv hi
    have ht := (hv.ti i hlt).1
    have e1 := txtD_succ n i
    unfold tcT at e1
    generalize hR : nth n.tcs (i : Int) = R at *
    have c1 := line_c (txtD n i) [116, 117, 114, 110] [R.fr, R.to, R.cost] (by omega) (by simp) (by simp) (okV_rd (by simpa using ⟨way_ok hv ht.2.1, way_ok hv ht.2.2, okV_inR ht.1⟩))
    repeat' (first
     | refine wp2_seq fun K hK => ?_
     | refine M_cons fun K hK => ?_
     | (refine hK _ ?_; clear hK K)
     | (refine hX _ ?_; clear hX hY X Y)
     | refine wp2_block ?_
     | refine wp2_canon (ops := ⟨some 166, _, _⟩ :: _) [(3, 60003)] ?_
     | refine wp2_region ?_
     | refine wp2_cond fun X Y hX hY => ?_
     | (refine condK_of (fun c => ?_) (fun c => ?_) <;> (try simp [-List.length_eq_zero_iff] at c))
     | (refine callT_gen true (c1) (fun _ => ⟨(by first | (simp [RV.flat, RV.flats, T.flat]; done) | ((repeat' first | exact flat_intRow _ | exact flat_boolRow _ | exact flat_byteR _ | exact trivial | constructor | unfold RV.flat | unfold RV.flats); first | done | fail)), (by (repeat' first | exact flat_intRow _ | exact flat_boolRow _ | exact flat_byteR _ | exact trivial | constructor | unfold Arg.flats | unfold Arg.flat); first | done | fail)⟩) (by simp [St.args, St.arg, s1, o1, s3, o3, s15, hlt, encC, hR] <;> first | rfl | ((repeat' first | rfl | apply And.intro); first | done | fail)) (by simp [apartArgs, mutsOf, noRow, valsOf]) (by simp) ?_)
     | simp (maxSteps := 4000000) (disch := omega) [s1, o1, s3, o3, s15, hlt, encC, hR])
    refine hN (n.tcs.length - (i + 1)) _ (by omega) ⟨i + 1, ?_⟩
    simp [s1, o1, s3, s15, objN, e1, nums]
    omega
  · have e1 : i = n.tcs.length := by omega
    subst e1
    repeat' (first
     | refine wp2_seq fun K hK => ?_
     | refine M_cons fun K hK => ?_
     | (refine hK _ ?_; clear hK K)
     | (refine hY _ ?_; clear hX hY X Y)
     | refine wp2_region ?_
     | refine wp2_cond fun X Y hX hY => ?_
     | (refine condK_of (fun c => ?_) (fun c => ?_) <;> (try simp [-List.length_eq_zero_iff] at c))
     | simp (maxSteps := 4000000) (disch := omega) [s1, o1, s3, o3, s15])
    all_goals first | omega | skip
    exact hE _ ⟨by simp [s1], by simp [o1, objN], by simp [s3], by simp [o3]⟩
set_option maxHeartbeats 0 in
theorem es_l3 (n : Net) (hv : VNet n)  {Q : Ex → St → Prop}
    (hE : ∀ s : St, (s.tm 1 = .ptr (1, 0) 0 0 ∧ s.ob (1, 0) = objN n ∧ s.tm 3 = .row (60003, 0) 1 0 (txtC n n.rels.length).length ∧ s.ob (60003, 0) = some (.row 1 (byteR (txtC n n.rels.length)))) → Q .normal s)
    (m : Nat) (s : St) (hs : (fun (m : Nat) (s : St) => ∃ i : Nat, s.tm 1 = .ptr (1, 0) 0 0 ∧ s.ob (1, 0) = objN n ∧ s.tm 3 = .row (60003, 0) 1 0 (txtC n i).length ∧ s.ob (60003, 0) = some (.row 1 (byteR (txtC n i))) ∧ s.tm 10 = .t (.v (.int .i64 i)) ∧ i ≤ n.rels.length ∧ m = n.rels.length - i) m s) (K' : St → Prop)
    (hN : ∀ (m' : Nat) (s' : St), m' < m → (fun (m : Nat) (s : St) => ∃ i : Nat, s.tm 1 = .ptr (1, 0) 0 0 ∧ s.ob (1, 0) = objN n ∧ s.tm 3 = .row (60003, 0) 1 0 (txtC n i).length ∧ s.ob (60003, 0) = some (.row 1 (byteR (txtC n i))) ∧ s.tm 10 = .t (.v (.int .i64 i)) ∧ i ≤ n.rels.length ∧ m = n.rels.length - i) m' s' → K' s') :
    wp2 Tryd.prog k6_l3 (thenQ K' (inBlk 6 Q)) s := by
  obtain ⟨i, s1, o1, s3, o3, s10, hi, rfl⟩ := hs
  unfold k6_l3
  simp only [objN] at o1
  have hc := hv.c3
  by_cases hlt : i < n.rels.length
  · have b1 := txtC_len hv hi
    have hr := (hv.ri i hlt).1
    have e1 := txtC_succ n i
    have hI := fun (h : List UInt8) (hl : (nth n.rels (i : Int)).via.length ≤ 4) (Q : Ex → St → Prop) => es_l4 n hv i h hl (Q := Q)
    generalize hR : nth n.rels (i : Int) = R at *
    have x1 := okV_inR hr.id
    have x2 := way_ok hv hr.fr
    have x3 := way_ok hv hr.to
    have d1 := dec_cI R.id x1.1 x1.2
    have d2 := dec_lenI x1.2
    have d3 := dec_cI R.fr x2.1 x2.2
    have d4 := dec_lenI x2.2
    have l1 : ([32] : List UInt8).length = 1 := rfl
    have l2 : (Lib.decDigits R.id.toNat ++ [32]).length = (Lib.decDigits R.id.toNat).length + 1 := by simp
    have l3 : (Lib.decDigits R.id.toNat ++ 32 :: Lib.decDigits R.fr.toNat).length = (Lib.decDigits R.id.toNat).length + (Lib.decDigits R.fr.toNat).length + 1 := by simp; omega
    cases ha : R.atNode with
    | true =>
      have hok : ∀ x ∈ [R.node, R.to], okV x := by simpa using ⟨node_ok hv (hr.at1 ha).2, x3⟩
      cases ho : R.only with
      | true =>
        have l5 : ([111, 110, 108, 121, 32] : List UInt8).length = 5 := rfl
        have l6 : (111 :: 110 :: 108 :: 121 :: 32 :: (Lib.decDigits R.id.toNat ++ 32 :: Lib.decDigits R.fr.toNat)).length = (Lib.decDigits R.id.toNat).length + (Lib.decDigits R.fr.toNat).length + 6 := by simp; omega
        have l7 : ([32, 97, 116] : List UInt8).length = 3 := rfl
        have c1 := line_c (txtC n i) (111 :: 110 :: 108 :: 121 :: 32 :: (Lib.decDigits R.id.toNat ++ 32 :: (Lib.decDigits R.fr.toNat ++ [32, 97, 116]))) [R.node, R.to] (by omega) (by simp; omega) (by simp; try omega) (okV_rd hok)
        simp only [relT, relW, ho, ha, Bool.false_eq_true, if_false, if_true] at e1
        repeat' (first
         | refine wp2_seq fun K hK => ?_
         | refine M_cons fun K hK => ?_
         | (refine hK _ ?_; clear hK K)
         | (refine hX _ ?_; clear hX hY X Y)
         | refine wp2_block ?_
         | refine wp2_region ?_
         | refine wp2_cond fun X Y hX hY => ?_
         | (refine condK_of (fun c => ?_) (fun c => ?_) <;> (try simp [-List.length_eq_zero_iff] at c))
         | simp (maxSteps := 4000000) (disch := omega) [s1, o1, s3, o3, s10, hlt, encR, hR, ho])
        (refine callT_fl (d1) (by simp [St.args, St.arg, s1] <;> first | rfl | ((repeat' first | rfl | apply And.intro); first | done | fail)) ?_)
        repeat' (first
         | refine M_cons fun K hK => ?_
         | (refine hK _ ?_; clear hK K)
         | simp (maxSteps := 4000000) (disch := omega) [s1, o1, s3, o3, s10, hlt, encR, hR, ho])
        (refine callT_fl (d3) (by simp [St.args, St.arg, s1] <;> first | rfl | ((repeat' first | rfl | apply And.intro); first | done | fail)) ?_)
        repeat' (first
         | refine wp2_seq fun K hK => ?_
         | refine M_cons fun K hK => ?_
         | (refine hK _ ?_; clear hK K)
         | (refine hX _ ?_; clear hX hY X Y)
         | refine wp2_canon (ops := ⟨some 105, _, _⟩ :: _) [(3, 60003)] ?_
         | refine wp2_region ?_
         | refine wp2_cond fun X Y hX hY => ?_
         | (refine condK_of (fun c => ?_) (fun c => ?_) <;> (try simp [-List.length_eq_zero_iff] at c))
         | (refine callT_gen true (c1) (fun _ => ⟨(by first | (simp [RV.flat, RV.flats, T.flat]; done) | ((repeat' first | exact flat_intRow _ | exact flat_boolRow _ | exact flat_byteR _ | exact trivial | constructor | unfold RV.flat | unfold RV.flats); first | done | fail)), (by (repeat' first | exact flat_intRow _ | exact flat_boolRow _ | exact flat_byteR _ | exact trivial | constructor | unfold Arg.flats | unfold Arg.flat); first | done | fail)⟩) (by simp [St.args, St.arg, s1, o1, s3, o3, s10, hlt, encR, hR, ho, ha] <;> first | rfl | ((repeat' first | rfl | apply And.intro); first | done | fail)) (by simp [apartArgs, mutsOf, noRow, valsOf]) (by simp) ?_)
         | simp (maxSteps := 4000000) (disch := omega) [s1, o1, s3, o3, s10, hlt, encR, hR, ho, ha])
        refine hN (n.rels.length - (i + 1)) _ (by omega) ⟨i + 1, ?_⟩
        simp [s1, o1, s3, s10, objN, e1, nums]
        omega
      | false =>
        have l5 : ([110, 111, 32] : List UInt8).length = 3 := rfl
        have l6 : (110 :: 111 :: 32 :: (Lib.decDigits R.id.toNat ++ 32 :: Lib.decDigits R.fr.toNat)).length = (Lib.decDigits R.id.toNat).length + (Lib.decDigits R.fr.toNat).length + 4 := by simp; omega
        have l7 : ([32, 97, 116] : List UInt8).length = 3 := rfl
        have c1 := line_c (txtC n i) (110 :: 111 :: 32 :: (Lib.decDigits R.id.toNat ++ 32 :: (Lib.decDigits R.fr.toNat ++ [32, 97, 116]))) [R.node, R.to] (by omega) (by simp; omega) (by simp; try omega) (okV_rd hok)
        simp only [relT, relW, ho, ha, Bool.false_eq_true, if_false, if_true] at e1
        repeat' (first
         | refine wp2_seq fun K hK => ?_
         | refine M_cons fun K hK => ?_
         | (refine hK _ ?_; clear hK K)
         | (refine hX _ ?_; clear hX hY X Y)
         | (refine hY _ ?_; clear hX hY X Y)
         | refine wp2_block ?_
         | refine wp2_region ?_
         | refine wp2_cond fun X Y hX hY => ?_
         | (refine condK_of (fun c => ?_) (fun c => ?_) <;> (try simp [-List.length_eq_zero_iff] at c))
         | simp (maxSteps := 4000000) (disch := omega) [s1, o1, s3, o3, s10, hlt, encR, hR, ho])
        (refine callT_fl (d1) (by simp [St.args, St.arg, s1] <;> first | rfl | ((repeat' first | rfl | apply And.intro); first | done | fail)) ?_)
        repeat' (first
         | refine M_cons fun K hK => ?_
         | (refine hK _ ?_; clear hK K)
         | simp (maxSteps := 4000000) (disch := omega) [s1, o1, s3, o3, s10, hlt, encR, hR, ho])
        (refine callT_fl (d3) (by simp [St.args, St.arg, s1] <;> first | rfl | ((repeat' first | rfl | apply And.intro); first | done | fail)) ?_)
        repeat' (first
         | refine wp2_seq fun K hK => ?_
         | refine M_cons fun K hK => ?_
         | (refine hK _ ?_; clear hK K)
         | (refine hX _ ?_; clear hX hY X Y)
         | refine wp2_canon (ops := ⟨some 105, _, _⟩ :: _) [(3, 60003)] ?_
         | refine wp2_region ?_
         | refine wp2_cond fun X Y hX hY => ?_
         | (refine condK_of (fun c => ?_) (fun c => ?_) <;> (try simp [-List.length_eq_zero_iff] at c))
         | (refine callT_gen true (c1) (fun _ => ⟨(by first | (simp [RV.flat, RV.flats, T.flat]; done) | ((repeat' first | exact flat_intRow _ | exact flat_boolRow _ | exact flat_byteR _ | exact trivial | constructor | unfold RV.flat | unfold RV.flats); first | done | fail)), (by (repeat' first | exact flat_intRow _ | exact flat_boolRow _ | exact flat_byteR _ | exact trivial | constructor | unfold Arg.flats | unfold Arg.flat); first | done | fail)⟩) (by simp [St.args, St.arg, s1, o1, s3, o3, s10, hlt, encR, hR, ho, ha] <;> first | rfl | ((repeat' first | rfl | apply And.intro); first | done | fail)) (by simp [apartArgs, mutsOf, noRow, valsOf]) (by simp) ?_)
         | simp (maxSteps := 4000000) (disch := omega) [s1, o1, s3, o3, s10, hlt, encR, hR, ho, ha])
        refine hN (n.rels.length - (i + 1)) _ (by omega) ⟨i + 1, ?_⟩
        simp [s1, o1, s3, s10, objN, e1, nums]
        omega
    | false =>
      have hok : ∀ x ∈ R.via ++ [R.to], okV x := fun x hx => by
        rcases List.mem_append.1 hx with hx | hx
        · obtain ⟨j, hj, rfl⟩ := mem_rd.1 hx
          exact way_ok hv ((hr.at0 ha).2.2.2 j hj)
        · simp at hx; subst hx; exact x3
      have h4 := (hr.at0 ha).2.2.1
      have hT : List.take (R.via.length + 1) (intRow (R.via ++ [R.to])) = intRow (R.via ++ [R.to]) := by
        have h := take_intRow (R.via ++ [R.to])
        rwa [show (R.via ++ [R.to]).length = R.via.length + 1 by simp] at h
      replace hI := fun (h : List UInt8) (Q : Ex → St → Prop) => hI h h4 Q
      cases ho : R.only with
      | true =>
        have l5 : ([111, 110, 108, 121, 32] : List UInt8).length = 5 := rfl
        have l6 : (111 :: 110 :: 108 :: 121 :: 32 :: (Lib.decDigits R.id.toNat ++ 32 :: Lib.decDigits R.fr.toNat)).length = (Lib.decDigits R.id.toNat).length + (Lib.decDigits R.fr.toNat).length + 6 := by simp; omega
        have l7 : ([32, 98, 121] : List UInt8).length = 3 := rfl
        have c1 := line_c (txtC n i) (111 :: 110 :: 108 :: 121 :: 32 :: (Lib.decDigits R.id.toNat ++ 32 :: (Lib.decDigits R.fr.toNat ++ [32, 98, 121]))) (R.via ++ [R.to]) (by omega) (by simp; omega) (by simp; try omega) (okV_rd hok)
        simp only [relT, relW, ho, ha, Bool.false_eq_true, if_false, if_true] at e1
        repeat' (first
         | refine wp2_seq fun K hK => ?_
         | refine M_cons fun K hK => ?_
         | (refine hK _ ?_; clear hK K)
         | (refine hX _ ?_; clear hX hY X Y)
         | refine wp2_block ?_
         | refine wp2_region ?_
         | refine wp2_cond fun X Y hX hY => ?_
         | (refine condK_of (fun c => ?_) (fun c => ?_) <;> (try simp [-List.length_eq_zero_iff] at c))
         | simp (maxSteps := 4000000) (disch := omega) [s1, o1, s3, o3, s10, hlt, encR, hR, ho])
        (refine callT_fl (d1) (by simp [St.args, St.arg, s1] <;> first | rfl | ((repeat' first | rfl | apply And.intro); first | done | fail)) ?_)
        repeat' (first
         | refine M_cons fun K hK => ?_
         | (refine hK _ ?_; clear hK K)
         | simp (maxSteps := 4000000) (disch := omega) [s1, o1, s3, o3, s10, hlt, encR, hR, ho])
        (refine callT_fl (d3) (by simp [St.args, St.arg, s1] <;> first | rfl | ((repeat' first | rfl | apply And.intro); first | done | fail)) ?_)
        repeat' (first
         | refine wp2_seq fun K hK => ?_
         | refine M_cons fun K hK => ?_
         | (refine hK _ ?_; clear hK K)
         | (refine hY _ ?_; clear hX hY X Y)
         | refine wp2_block ?_
         | refine wp2_region ?_
         | refine wp2_cond fun X Y hX hY => ?_
         | (refine condK_of (fun c => ?_) (fun c => ?_) <;> (try simp [-List.length_eq_zero_iff] at c))
         | simp (maxSteps := 4000000) (disch := omega) [s1, o1, s3, o3, s10, hlt, encR, hR, ho, ha])
        refine wp2_loop _ R.via.length ?_ (hI (111 :: 110 :: 108 :: 121 :: 32 :: (Lib.decDigits R.id.toNat ++ 32 :: Lib.decDigits R.fr.toNat)) _ ?_)
        · refine ⟨0, (135, 0), .inl rfl, ?_⟩
          simp [s1, o1, s3, o3, s10, objN, objR, hR, ho, ha, intRow]
        · rintro s ⟨s1, o1, s3, o3, s10, s11, o11, s12, id, hid, s13, o13⟩
          simp only [objN] at o1
          simp only [objR] at o11
          rcases hid with rfl | rfl
          · repeat' (first
           | refine wp2_seq fun K hK => ?_
           | refine M_cons fun K hK => ?_
           | (refine hK _ ?_; clear hK K)
           | refine wp2_canon (ops := ⟨some 105, _, _⟩ :: _) [(3, 60003)] ?_
           | refine wp2_region ?_
           | (refine callT_gen true (c1) (fun _ => ⟨(by first | (simp [RV.flat, RV.flats, T.flat]; done) | ((repeat' first | exact flat_intRow _ | exact flat_boolRow _ | exact flat_byteR _ | exact trivial | constructor | unfold RV.flat | unfold RV.flats); first | done | fail)), (by (repeat' first | exact flat_intRow _ | exact flat_boolRow _ | exact flat_byteR _ | exact trivial | constructor | unfold Arg.flats | unfold Arg.flat); first | done | fail)⟩) (by simp [St.args, St.arg, s1, o1, s3, o3, s10, s11, o11, s12, s13, o13, hT] <;> first | rfl | ((repeat' first | rfl | apply And.intro); first | done | fail)) (by simp [apartArgs, mutsOf, noRow, valsOf]) (by simp) ?_)
           | simp (maxSteps := 4000000) (disch := omega) [s1, o1, s3, o3, s10, s11, o11, s12, s13, o13, hT])
            refine hN (n.rels.length - (i + 1)) _ (by omega) ⟨i + 1, ?_⟩
            simp [s1, o1, s3, s10, objN, e1, nums]
            omega
          · repeat' (first
           | refine wp2_seq fun K hK => ?_
           | refine M_cons fun K hK => ?_
           | (refine hK _ ?_; clear hK K)
           | refine wp2_canon (ops := ⟨some 105, _, _⟩ :: _) [(3, 60003)] ?_
           | refine wp2_region ?_
           | (refine callT_gen true (c1) (fun _ => ⟨(by first | (simp [RV.flat, RV.flats, T.flat]; done) | ((repeat' first | exact flat_intRow _ | exact flat_boolRow _ | exact flat_byteR _ | exact trivial | constructor | unfold RV.flat | unfold RV.flats); first | done | fail)), (by (repeat' first | exact flat_intRow _ | exact flat_boolRow _ | exact flat_byteR _ | exact trivial | constructor | unfold Arg.flats | unfold Arg.flat); first | done | fail)⟩) (by simp [St.args, St.arg, s1, o1, s3, o3, s10, s11, o11, s12, s13, o13, hT] <;> first | rfl | ((repeat' first | rfl | apply And.intro); first | done | fail)) (by simp [apartArgs, mutsOf, noRow, valsOf]) (by simp) ?_)
           | simp (maxSteps := 4000000) (disch := omega) [s1, o1, s3, o3, s10, s11, o11, s12, s13, o13, hT])
            refine hN (n.rels.length - (i + 1)) _ (by omega) ⟨i + 1, ?_⟩
            simp [s1, o1, s3, s10, objN, e1, nums]
            omega
      | false =>
        have l5 : ([110, 111, 32] : List UInt8).length = 3 := rfl
        have l6 : (110 :: 111 :: 32 :: (Lib.decDigits R.id.toNat ++ 32 :: Lib.decDigits R.fr.toNat)).length = (Lib.decDigits R.id.toNat).length + (Lib.decDigits R.fr.toNat).length + 4 := by simp; omega
        have l7 : ([32, 98, 121] : List UInt8).length = 3 := rfl
        have c1 := line_c (txtC n i) (110 :: 111 :: 32 :: (Lib.decDigits R.id.toNat ++ 32 :: (Lib.decDigits R.fr.toNat ++ [32, 98, 121]))) (R.via ++ [R.to]) (by omega) (by simp; omega) (by simp; try omega) (okV_rd hok)
        simp only [relT, relW, ho, ha, Bool.false_eq_true, if_false, if_true] at e1
        repeat' (first
         | refine wp2_seq fun K hK => ?_
         | refine M_cons fun K hK => ?_
         | (refine hK _ ?_; clear hK K)
         | (refine hX _ ?_; clear hX hY X Y)
         | (refine hY _ ?_; clear hX hY X Y)
         | refine wp2_block ?_
         | refine wp2_region ?_
         | refine wp2_cond fun X Y hX hY => ?_
         | (refine condK_of (fun c => ?_) (fun c => ?_) <;> (try simp [-List.length_eq_zero_iff] at c))
         | simp (maxSteps := 4000000) (disch := omega) [s1, o1, s3, o3, s10, hlt, encR, hR, ho])
        (refine callT_fl (d1) (by simp [St.args, St.arg, s1] <;> first | rfl | ((repeat' first | rfl | apply And.intro); first | done | fail)) ?_)
        repeat' (first
         | refine M_cons fun K hK => ?_
         | (refine hK _ ?_; clear hK K)
         | simp (maxSteps := 4000000) (disch := omega) [s1, o1, s3, o3, s10, hlt, encR, hR, ho])
        (refine callT_fl (d3) (by simp [St.args, St.arg, s1] <;> first | rfl | ((repeat' first | rfl | apply And.intro); first | done | fail)) ?_)
        repeat' (first
         | refine wp2_seq fun K hK => ?_
         | refine M_cons fun K hK => ?_
         | (refine hK _ ?_; clear hK K)
         | (refine hY _ ?_; clear hX hY X Y)
         | refine wp2_block ?_
         | refine wp2_region ?_
         | refine wp2_cond fun X Y hX hY => ?_
         | (refine condK_of (fun c => ?_) (fun c => ?_) <;> (try simp [-List.length_eq_zero_iff] at c))
         | simp (maxSteps := 4000000) (disch := omega) [s1, o1, s3, o3, s10, hlt, encR, hR, ho, ha])
        refine wp2_loop _ R.via.length ?_ (hI (110 :: 111 :: 32 :: (Lib.decDigits R.id.toNat ++ 32 :: Lib.decDigits R.fr.toNat)) _ ?_)
        · refine ⟨0, (135, 0), .inl rfl, ?_⟩
          simp [s1, o1, s3, o3, s10, objN, objR, hR, ho, ha, intRow]
        · rintro s ⟨s1, o1, s3, o3, s10, s11, o11, s12, id, hid, s13, o13⟩
          simp only [objN] at o1
          simp only [objR] at o11
          rcases hid with rfl | rfl
          · repeat' (first
           | refine wp2_seq fun K hK => ?_
           | refine M_cons fun K hK => ?_
           | (refine hK _ ?_; clear hK K)
           | refine wp2_canon (ops := ⟨some 105, _, _⟩ :: _) [(3, 60003)] ?_
           | refine wp2_region ?_
           | (refine callT_gen true (c1) (fun _ => ⟨(by first | (simp [RV.flat, RV.flats, T.flat]; done) | ((repeat' first | exact flat_intRow _ | exact flat_boolRow _ | exact flat_byteR _ | exact trivial | constructor | unfold RV.flat | unfold RV.flats); first | done | fail)), (by (repeat' first | exact flat_intRow _ | exact flat_boolRow _ | exact flat_byteR _ | exact trivial | constructor | unfold Arg.flats | unfold Arg.flat); first | done | fail)⟩) (by simp [St.args, St.arg, s1, o1, s3, o3, s10, s11, o11, s12, s13, o13, hT] <;> first | rfl | ((repeat' first | rfl | apply And.intro); first | done | fail)) (by simp [apartArgs, mutsOf, noRow, valsOf]) (by simp) ?_)
           | simp (maxSteps := 4000000) (disch := omega) [s1, o1, s3, o3, s10, s11, o11, s12, s13, o13, hT])
            refine hN (n.rels.length - (i + 1)) _ (by omega) ⟨i + 1, ?_⟩
            simp [s1, o1, s3, s10, objN, e1, nums]
            omega
          · repeat' (first
           | refine wp2_seq fun K hK => ?_
           | refine M_cons fun K hK => ?_
           | (refine hK _ ?_; clear hK K)
           | refine wp2_canon (ops := ⟨some 105, _, _⟩ :: _) [(3, 60003)] ?_
           | refine wp2_region ?_
           | (refine callT_gen true (c1) (fun _ => ⟨(by first | (simp [RV.flat, RV.flats, T.flat]; done) | ((repeat' first | exact flat_intRow _ | exact flat_boolRow _ | exact flat_byteR _ | exact trivial | constructor | unfold RV.flat | unfold RV.flats); first | done | fail)), (by (repeat' first | exact flat_intRow _ | exact flat_boolRow _ | exact flat_byteR _ | exact trivial | constructor | unfold Arg.flats | unfold Arg.flat); first | done | fail)⟩) (by simp [St.args, St.arg, s1, o1, s3, o3, s10, s11, o11, s12, s13, o13, hT] <;> first | rfl | ((repeat' first | rfl | apply And.intro); first | done | fail)) (by simp [apartArgs, mutsOf, noRow, valsOf]) (by simp) ?_)
           | simp (maxSteps := 4000000) (disch := omega) [s1, o1, s3, o3, s10, s11, o11, s12, s13, o13, hT])
            refine hN (n.rels.length - (i + 1)) _ (by omega) ⟨i + 1, ?_⟩
            simp [s1, o1, s3, s10, objN, e1, nums]
            omega
  · have e1 : i = n.rels.length := by omega
    subst e1
    repeat' (first
     | refine wp2_seq fun K hK => ?_
     | refine M_cons fun K hK => ?_
     | (refine hK _ ?_; clear hK K)
     | (refine hY _ ?_; clear hX hY X Y)
     | refine wp2_region ?_
     | refine wp2_cond fun X Y hX hY => ?_
     | (refine condK_of (fun c => ?_) (fun c => ?_) <;> (try simp [-List.length_eq_zero_iff] at c))
     | simp (maxSteps := 4000000) (disch := omega) [s1, o1, s3, o3, s10])
    all_goals first | omega | skip
    exact hE _ ⟨by simp [s1], by simp [o1, objN], by simp [s3], by simp [o3]⟩
end Cal

/- spec.EncodeNet, as a contract. -/
set_option linter.unusedSimpArgs false
set_option linter.unusedVariables false
namespace Cal
open Go Go.Proofs
set_option maxRecDepth 100000
noncomputable def encT (n : Net) : List UInt8 := if VNet n then txtD n n.tcs.length else []
set_option maxHeartbeats 0 in
theorem encS (n : Net) (h : LN n) : CallsF Tryd.prog 6 [.agg (encN n)] (.own 1 (byteR (encT n))) [] := by
  refine callsF_of_wp2 (fn := Tryd.f6) (k := k6) (fun | 44 => (188 :: .nil) | _ => .nil) mixed (by kernel_rfl) rfl (by kernel_rfl) (by kernel_rfl) (by kernel_rfl) rfl (by simp [Tryd.f6]) (by simp [Arg.like]) ?_
  generalize hst : St.enter [.agg (encN n)] = st0
  have t0 : st0.tm 0 = .agg ((encN n) |>.map .t) := by rw [← hst]; rfl
  clear hst
  unfold k6
  simp [encN] at t0
  by_cases hv : VNet n
  · have c0 := putS_c [] hdT (by decide)
    rw [byteR_nil, List.nil_append] at c0
    simp only [hdT] at c0
    have c1 := line_c hdT [117, 116, 117, 114, 110] [n.uturn] (by decide) (by decide) (by simp) (okV_rd (by simpa using okV_inR hv.u))
    simp only [hdT] at c1
    have eA : txtA n 0 = hdT ++ ([117, 116, 117, 114, 110] ++ nums [n.uturn] ++ [10]) := by simp [txtA, upT]
    simp only [hdT] at eA
    have eT : encT n = txtD n n.tcs.length := if_pos hv
    rw [eT]
    have b := txtD_len hv (Nat.le_refl n.tcs.length)
    repeat' (first
     | refine wp2_seq fun K hK => ?_
     | refine M_cons fun K hK => ?_
     | (refine hK _ ?_; clear hK K)
     | (refine hY _ ?_; clear hX hY X Y)
     | refine wp2_block ?_
     | refine wp2_canon (ops := ⟨some 4, _, _⟩ :: _) [(3, 60003)] ?_
     | refine wp2_region ?_
     | refine wp2_cond fun X Y hX hY => ?_
     | (refine condK_of (fun c => ?_) (fun c => ?_) <;> (try simp [-List.length_eq_zero_iff] at c))
     | (refine callT_fl (vnS n h) (by simp [St.args, St.arg, t0, hv, encN] <;> first | rfl | ((repeat' first | rfl | apply And.intro); first | done | fail)) ?_)
     | (refine callT_gen true (c0) (fun _ => ⟨(by first | (simp [RV.flat, RV.flats, T.flat]; done) | ((repeat' first | exact flat_intRow _ | exact flat_boolRow _ | exact flat_byteR _ | exact trivial | constructor | unfold RV.flat | unfold RV.flats); first | done | fail)), (by (repeat' first | exact flat_intRow _ | exact flat_boolRow _ | exact flat_byteR _ | exact trivial | constructor | unfold Arg.flats | unfold Arg.flat); first | done | fail)⟩) (by simp [St.args, St.arg, t0, hv, encN] <;> first | rfl | ((repeat' first | rfl | apply And.intro); first | done | fail)) (by simp [apartArgs, mutsOf, noRow, valsOf]) (by simp) ?_)
     | (refine callT_gen true (c1) (fun _ => ⟨(by first | (simp [RV.flat, RV.flats, T.flat]; done) | ((repeat' first | exact flat_intRow _ | exact flat_boolRow _ | exact flat_byteR _ | exact trivial | constructor | unfold RV.flat | unfold RV.flats); first | done | fail)), (by (repeat' first | exact flat_intRow _ | exact flat_boolRow _ | exact flat_byteR _ | exact trivial | constructor | unfold Arg.flats | unfold Arg.flat); first | done | fail)⟩) (by simp [St.args, St.arg, t0, hv, encN] <;> first | rfl | ((repeat' first | rfl | apply And.intro); first | done | fail)) (by simp [apartArgs, mutsOf, noRow, valsOf]) (by simp) ?_)
     | simp (maxSteps := 4000000) (disch := omega) [t0, hv, encN])
    refine wp2_loop _ n.nodes.length ?_ (es_l0 n hv ?_)
    · refine ⟨0, ?_⟩
      simp [objN, eA, t0]
    · rintro s ⟨s1, o1, s3, o3⟩
      simp only [objN] at o1
      rw [← txtB_zero] at s3 o3
      repeat' (first
       | refine wp2_seq fun K hK => ?_
       | refine M_cons fun K hK => ?_
       | (refine hK _ ?_; clear hK K)
       | refine wp2_block ?_
       | refine wp2_canon (ops := ⟨some 5, _, _⟩ :: _) [(3, 60003)] ?_
       | simp (maxSteps := 4000000) (disch := omega) [s1, o1, s3, o3])
      refine wp2_loop _ n.ways.length ?_ (es_l1 n hv ?_)
      · refine ⟨0, ?_⟩
        simp [s1, o1, s3, o3, objN]
      · rintro s ⟨s1, o1, s3, o3⟩
        simp only [objN] at o1
        rw [← txtC_zero] at s3 o3
        repeat' (first
         | refine wp2_seq fun K hK => ?_
         | refine M_cons fun K hK => ?_
         | (refine hK _ ?_; clear hK K)
         | refine wp2_block ?_
         | refine wp2_canon (ops := ⟨some 10, _, _⟩ :: _) [(3, 60003)] ?_
         | simp (maxSteps := 4000000) (disch := omega) [s1, o1, s3, o3])
        refine wp2_loop _ n.rels.length ?_ (es_l3 n hv ?_)
        · refine ⟨0, ?_⟩
          simp [s1, o1, s3, o3, objN]
        · rintro s ⟨s1, o1, s3, o3⟩
          simp only [objN] at o1
          rw [← txtD_zero] at s3 o3
          repeat' (first
           | refine wp2_seq fun K hK => ?_
           | refine M_cons fun K hK => ?_
           | (refine hK _ ?_; clear hK K)
           | refine wp2_block ?_
           | refine wp2_canon (ops := ⟨some 15, _, _⟩ :: _) [(3, 60003)] ?_
           | simp (maxSteps := 4000000) (disch := omega) [s1, o1, s3, o3])
          refine wp2_loop _ n.tcs.length ?_ (es_l5 n hv ?_)
          · refine ⟨0, ?_⟩
            simp [s1, o1, s3, o3, objN]
          · rintro s ⟨s1, o1, s3, o3⟩
            repeat' (first
             | refine wp2_seq fun K hK => ?_
             | refine M_cons fun K hK => ?_
             | (refine hK _ ?_; clear hK K)
             | refine wp2_region ?_
             | simp (maxSteps := 4000000) (disch := omega) [s1, s3, o3])
            all_goals try (simp [s1, s3, o3, Back]; done)
  · have eT : encT n = [] := if_neg hv
    rw [eT, byteR_nil]
    repeat' (first
     | refine wp2_seq fun K hK => ?_
     | refine M_cons fun K hK => ?_
     | (refine hK _ ?_; clear hK K)
     | (refine hX _ ?_; clear hX hY X Y)
     | refine wp2_region ?_
     | refine wp2_cond fun X Y hX hY => ?_
     | (refine condK_of (fun c => ?_) (fun c => ?_) <;> (try simp [-List.length_eq_zero_iff] at c))
     | (refine callT_fl (vnS n h) (by simp [St.args, St.arg, t0, hv, encN] <;> first | rfl | ((repeat' first | rfl | apply And.intro); first | done | fail)) ?_)
     | simp (maxSteps := 4000000) (disch := omega) [t0, hv, encN])
    all_goals try (simp [t0, hv, encN, Back]; done)
end Cal

/- impl.EncodeNet, as a contract. -/
set_option linter.unusedSimpArgs false
set_option linter.unusedVariables false
namespace Cal
open Go Go.Proofs
set_option maxRecDepth 100000
def encR1 (b : Prop) [Decidable b] (l : List UInt8) : RV := if b then .own 1 (byteR l) else .t (.v (.slice none 0 0))
set_option maxHeartbeats 0 in
theorem encI (n : Net) (h : LN n) (h64 : N64 n) : CallsF Tryd.prog 8 [.agg (encN n)] (encR1 (VNet n) (encT n)) [] := by
  refine callsF_of_wp2 (fn := Tryd.f8) (k := k8) (fun | 34 => (999999 :: 109 :: 113 :: .nil) | 35 => (999999 :: 115 :: 118 :: .nil) | _ => .nil) mixed (by kernel_rfl) rfl (by kernel_rfl) (by kernel_rfl) (by kernel_rfl) rfl (by simp [Tryd.f8]) (by simp [Arg.like]) ?_
  generalize hst : St.enter [.agg (encN n)] = st0
  have t0 : st0.tm 0 = .agg ((encN n) |>.map .t) := by rw [← hst]; rfl
  clear hst
  unfold k8
  simp [encN] at t0
  by_cases hv : VNet n
  · have eT : encR1 (VNet n) (encT n) = .own 1 (byteR (txtD n n.tcs.length)) := by rw [encR1, if_pos hv, encT, if_pos hv]
    rw [eT]
    have hok : ∀ x ∈ [n.uturn], okV x := by simpa using okV_inR hv.u
    have cF := put_full hdT [117, 116, 117, 114, 110] [n.uturn] ⟨hdT ++ [117, 116, 117, 114], 110, by simp, by decide⟩ (by decide) (by decide) (by decide) (by simp) (okV_rd hok)
    have b := txtD_len hv (Nat.le_refl n.tcs.length)
    have b2 : (nums [n.uturn]).length ≤ 21 := by simpa using nums_le hok
    repeat' (first
     | refine wp2_seq fun K hK => ?_
     | refine M_cons fun K hK => ?_
     | (refine hK _ ?_; clear hK K)
     | (refine hY _ ?_; clear hX hY X Y)
     | refine wp2_inl (mk := [23, 24, 25, 26]) 4 rfl ?_
     | refine wp2_regI (mk := [18]) (regI_bytes (es := byteR hdT) el_29 un_5 rfl (by decide) (by simp [hdT]) (by decide) (fun st' => by simp [byteR, hdT]) ?_)
     | refine wp2_region ?_
     | refine wp2_cond fun X Y hX hY => ?_
     | (refine condK_of (fun c => ?_) (fun c => ?_) <;> (try simp [-List.length_eq_zero_iff] at c))
     | (refine callT_fl (vnI n h h64) (by simp [St.args, St.arg, t0, hv, encN] <;> first | rfl | ((repeat' first | rfl | apply And.intro); first | done | fail)) ?_)
     | simp (maxSteps := 4000000) (disch := omega) [t0, hv, encN])
    refine callI_full (t := 24) (x0 := .tmp 20) (xs := [.const (.string (bs [117, 116, 117, 114, 110])), .tmp 23]) cF (by simp) (by simp [St.argsR, St.argR, St.toTR]) (by first | (simp [RV.flat, RV.flats, T.flat]; done) | ((repeat' first | exact flat_byteR _ | exact trivial | constructor | unfold RV.flat | unfold RV.flats); first | done | fail)) ?_
    simp only [hdT]
    have eA : txtA n 0 = hdT ++ ([117, 116, 117, 114, 110] ++ nums [n.uturn] ++ [10]) := by simp [txtA, upT]
    simp only [hdT] at eA
    have l1 : (114 :: 111 :: 97 :: 100 :: 110 :: 101 :: 116 :: 32 :: 49 :: 10 :: 117 :: 116 :: 117 :: 114 :: 110 :: nums [n.uturn] : List UInt8).length = (nums [n.uturn]).length + 15 := rfl
    repeat' (first
     | refine wp2_seq fun K hK => ?_
     | refine M_cons fun K hK => ?_
     | (refine hK _ ?_; clear hK K)
     | refine wp2_block ?_
     | refine wp2_canon (ops := ⟨some 27, _, _⟩ :: _) [(3, 60003)] ?_
     | simp (maxSteps := 4000000) (disch := omega) [t0, mk1, makes, encN])
    refine wp2_loop _ n.nodes.length ?_ (ei_l0 n hv ?_)
    · refine ⟨0, ?_⟩
      simp [objN, eA, t0]
    · rintro s ⟨s1, o1, s3, o3⟩
      simp only [objN] at o1
      rw [← txtB_zero] at s3 o3
      repeat' (first
       | refine wp2_seq fun K hK => ?_
       | refine M_cons fun K hK => ?_
       | (refine hK _ ?_; clear hK K)
       | refine wp2_block ?_
       | refine wp2_canon (ops := ⟨some 41, _, _⟩ :: _) [(3, 60003)] ?_
       | simp (maxSteps := 4000000) (disch := omega) [s1, o1, s3, o3])
      refine wp2_loop _ n.ways.length ?_ (ei_l1 n hv ?_)
      · refine ⟨0, ?_⟩
        simp [s1, o1, s3, o3, objN]
      · rintro s ⟨s1, o1, s3, o3⟩
        simp only [objN] at o1
        rw [← txtC_zero] at s3 o3
        repeat' (first
         | refine wp2_seq fun K hK => ?_
         | refine M_cons fun K hK => ?_
         | (refine hK _ ?_; clear hK K)
         | refine wp2_block ?_
         | refine wp2_canon (ops := ⟨some 89, _, _⟩ :: _) [(3, 60003)] ?_
         | simp (maxSteps := 4000000) (disch := omega) [s1, o1, s3, o3])
        refine wp2_loop _ n.rels.length ?_ (ei_l3 n hv ?_)
        · refine ⟨0, ?_⟩
          simp [s1, o1, s3, o3, objN]
        · rintro s ⟨s1, o1, s3, o3⟩
          simp only [objN] at o1
          rw [← txtD_zero] at s3 o3
          repeat' (first
           | refine wp2_seq fun K hK => ?_
           | refine M_cons fun K hK => ?_
           | (refine hK _ ?_; clear hK K)
           | refine wp2_block ?_
           | refine wp2_canon (ops := ⟨some 127, _, _⟩ :: _) [(3, 60003)] ?_
           | simp (maxSteps := 4000000) (disch := omega) [s1, o1, s3, o3])
          refine wp2_loop _ n.tcs.length ?_ (ei_l4 n hv ?_)
          · refine ⟨0, ?_⟩
            simp [s1, o1, s3, o3, objN]
          · rintro s ⟨s1, o1, s3, o3⟩
            repeat' (first
             | refine wp2_seq fun K hK => ?_
             | refine M_cons fun K hK => ?_
             | (refine hK _ ?_; clear hK K)
             | refine wp2_region ?_
             | simp (maxSteps := 4000000) (disch := omega) [s1, s3, o3])
            all_goals try (simp [s1, s3, o3, Back]; done)
  · have eT : encR1 (VNet n) (encT n) = .t (.v (.slice none 0 0)) := if_neg hv
    rw [eT]
    repeat' (first
     | refine wp2_seq fun K hK => ?_
     | refine M_cons fun K hK => ?_
     | (refine hK _ ?_; clear hK K)
     | (refine hX _ ?_; clear hX hY X Y)
     | refine wp2_region ?_
     | refine wp2_cond fun X Y hX hY => ?_
     | (refine condK_of (fun c => ?_) (fun c => ?_) <;> (try simp [-List.length_eq_zero_iff] at c))
     | (refine callT_fl (vnI n h h64) (by simp [St.args, St.arg, t0, hv, encN] <;> first | rfl | ((repeat' first | rfl | apply And.intro); first | done | fail)) ?_)
     | simp (maxSteps := 4000000) (disch := omega) [t0, hv, encN])
    all_goals try (simp [t0, hv, encN, Back]; done)
end Cal

/- laws.eqByteS, markByteS, heldByteS. -/
set_option linter.unusedSimpArgs false
set_option linter.unusedVariables false
namespace Cal
open Go Go.Proofs
set_option maxRecDepth 100000
def bytesT (l : List UInt8) : T := .sl (byteR l)
@[simp] theorem lenA_bytes (k : Nat) (l : List UInt8) : lenA (.sl k) (.t (bytesT l)) = some l.length := by simp [lenA, bytesT]
@[simp] theorem index_bytes (e : Nat) (ag : Bool) (b : Nat) (z : List Value) (l : List UInt8) (i : Nat) (h1 : i < l.length) :
    indexAddrA (some (e, ⟨ag, 1, b, z⟩)) (.t (bytesT l)) (i : Int) = some (.roptr [.v (.int .u8 ((rb l i).toNat : Int))]) := by
  simp [indexAddrA, bytesT, byteR_rb h1]
theorem wrapU (x : Int) (h : 0 ≤ x) : IntKind.u8.wrap x = ((UInt8.ofNat x.toNat).toNat : Int) := by
  rw [UInt8.toNat_ofNat']
  simp only [IntKind.wrap, IntKind.bits, IntKind.signed]
  simp
  omega
/-- The bytes of k, k + 1, .. -/
def markedB (k : Int) (n : Nat) : List UInt8 := (List.range n).map fun (i : Nat) => UInt8.ofNat (k + (i : Int)).toNat
@[simp] theorem markedB_length (k : Int) (n : Nat) : (markedB k n).length = n := by simp [markedB]
theorem rb_marked {k : Int} {n i : Nat} (h : i < n) : rb (markedB k n) i = UInt8.ofNat (k + (i : Int)).toNat := by
  unfold rb markedB
  rw [List.getD_eq_getElem?_getD, List.getElem?_map, List.getElem?_range h]
  rfl
theorem eq_of_rb {a b : List UInt8} (hl : a.length = b.length) (h : ∀ i : Nat, i < a.length → rb a i = rb b i) : a = b := by
  apply List.ext_getElem?
  intro i
  by_cases hi : i < a.length
  · rw [get_rb hi, get_rb (by omega), h i hi]
  · rw [List.getElem?_eq_none (by omega), List.getElem?_eq_none (by omega)]
theorem rb_set_eq {l : List UInt8} {i : Nat} (h : i < l.length) (x : UInt8) : rb (l.set i x) i = x := by
  unfold rb
  rw [List.getD_eq_getElem?_getD, List.getElem?_set_self h]
  rfl
theorem rb_set_ne {l : List UInt8} {i j : Nat} (h : i ≠ j) (x : UInt8) : rb (l.set i x) j = rb l j := by
  unfold rb
  rw [List.getD_eq_getElem?_getD, List.getD_eq_getElem?_getD, List.getElem?_set_ne h]
@[simp] theorem byteR_set (l : List UInt8) (i : Nat) (x : Int) (h : 0 ≤ x) : (byteR l).set i [.v (.int .u8 (IntKind.u8.wrap x))] = byteR (l.set i (UInt8.ofNat x.toNat)) := by
  rw [wrapU x h]
  simp [byteR, List.map_set]
/-- The code of laws.eqByteS. -/
def k9 : Code1 :=
 (.seq
 (.region [] false ([]) [
 ⟨some 4,Op.assign (Operand.const (Value.bool false)),none⟩])
 (.seq
 (.seq
 (.region [] false ([]) [
 ⟨some 6,Op.move (Operand.tmp 0),none⟩,
 ⟨some 7,Op.call {callee:=Callee.builtin Builtin.len,args:=#[Operand.tmp 6],argTypes:=#[29]},none⟩,
 ⟨some 8,Op.move (Operand.tmp 1),none⟩,
 ⟨some 9,Op.call {callee:=Callee.builtin Builtin.len,args:=#[Operand.tmp 8],argTypes:=#[29]},none⟩,
 ⟨some 10,Op.binOp BinOp.neq 3 (Operand.tmp 7) (Operand.tmp 9) 3,none⟩])
 (.cond (Operand.tmp 10)
 (.seq
 (.region [] false ([]) [
 ⟨some 4,Op.assign (Operand.const (Value.bool false)),none⟩])
 .ret)
 .skip))
 (.seq
 (.seq
 (.region [] false ([]) [
 ⟨some 5,Op.assign (Operand.const (Value.int IntKind.i64 0)),none⟩])
 (.block 0
 (.loop
 (.seq
 (.seq
 (.region [] false ([]) [
 ⟨some 11,Op.move (Operand.tmp 5),none⟩,
 ⟨some 12,Op.move (Operand.tmp 0),none⟩,
 ⟨some 13,Op.call {callee:=Callee.builtin Builtin.len,args:=#[Operand.tmp 12],argTypes:=#[29]},none⟩,
 ⟨some 14,Op.binOp BinOp.lss 3 (Operand.tmp 11) (Operand.tmp 13) 3,none⟩])
 (.cond (Operand.tmp 14)
 .skip
 (.exit 0)))
 (.seq
 (.block 1
 (.seq
 (.region [] true ([]) [
 ⟨some 17,Op.move (Operand.tmp 0),none⟩,
 ⟨some 18,Op.move (Operand.tmp 5),none⟩,
 ⟨some 19,Op.indexAddr 29 (Operand.tmp 17) (Operand.tmp 18),none⟩,
 ⟨some 20,Op.load 5 (Operand.tmp 19),none⟩,
 ⟨some 21,Op.move (Operand.tmp 1),none⟩,
 ⟨some 22,Op.move (Operand.tmp 5),none⟩,
 ⟨some 23,Op.indexAddr 29 (Operand.tmp 21) (Operand.tmp 22),none⟩,
 ⟨some 24,Op.load 5 (Operand.tmp 23),none⟩,
 ⟨some 25,Op.binOp BinOp.neq 5 (Operand.tmp 20) (Operand.tmp 24) 5,none⟩])
 (.cond (Operand.tmp 25)
 (.seq
 (.region [] false ([]) [
 ⟨some 4,Op.assign (Operand.const (Value.bool false)),none⟩])
 .ret)
 .skip)))
 (.region [] false ([]) [
 ⟨some 15,Op.move (Operand.tmp 5),none⟩,
 ⟨some 16,Op.binOp BinOp.add 3 (Operand.tmp 15) (Operand.const (Value.int IntKind.i64 1)) 3,none⟩,
 ⟨some 5,Op.assign (Operand.tmp 16),none⟩]))))))
 (.seq
 (.region [] false ([]) [
 ⟨some 4,Op.assign (Operand.const (Value.bool true)),none⟩])
 .ret))))
set_option maxHeartbeats 0 in
theorem eqB (l : List UInt8) (hl : l.length ≤ 100000000) : CallsF Tryd.prog 9 [.val (bytesT l), .val (bytesT l)] (.t (.v (.bool true))) [] := by
  refine callsF_of_wp2 (fn := Tryd.f9) (k := k9) (fun _ => []) mixed (by kernel_rfl) rfl (by kernel_rfl) (by kernel_rfl) (by kernel_rfl) rfl (by simp [Tryd.f9]) (by simp [Arg.like]) ?_
  generalize hst : St.enter [.val (bytesT l), .val (bytesT l)] = st0
  have t0 : st0.tm 0 = .t (bytesT l) := by rw [← hst]; rfl
  have t1 : st0.tm 1 = .t (bytesT l) := by rw [← hst]; rfl
  clear hst
  unfold k9
  repeat' (first
   | refine wp2_seq fun K hK => ?_
   | refine M_cons fun K hK => ?_
   | (refine hK _ ?_; clear hK K)
   | (refine hY _ ?_; clear hX hY X Y)
   | refine wp2_block ?_
   | refine wp2_region ?_
   | refine wp2_cond fun X Y hX hY => ?_
   | (refine condK_of (fun c => ?_) (fun c => ?_) <;> (try simp [-List.length_eq_zero_iff] at c))
   | simp (maxSteps := 4000000) (disch := omega) [t0, t1])
  all_goals try omega
  refine wp2_loop (fun n s => ∃ k : Nat, s.tm 0 = .t (bytesT l) ∧ s.tm 1 = .t (bytesT l) ∧ s.tm 5 = .t (.v (.int .i64 k)) ∧ k ≤ l.length ∧ n = l.length - k) l.length ?_ ?_
  · exact ⟨0, by simp [t0], by simp [t1], by simp, by omega, by omega⟩
  · rintro n s ⟨k, s0, s1, s5, hk, rfl⟩ K' hK'
    by_cases hlt : k < l.length
    · repeat' (first
     | refine wp2_seq fun K hK => ?_
     | refine M_cons fun K hK => ?_
     | (refine hK _ ?_; clear hK K)
     | (refine hX _ ?_; clear hX hY X Y)
     | (refine hY _ ?_; clear hX hY X Y)
     | refine wp2_block ?_
     | refine wp2_region ?_
     | refine wp2_cond fun X Y hX hY => ?_
     | (refine condK_of (fun c => ?_) (fun c => ?_) <;> (try simp [-List.length_eq_zero_iff] at c))
     | simp (maxSteps := 4000000) (disch := omega) [s0, s1, s5, hlt])
      refine hK' (l.length - (k + 1)) _ (by omega) ⟨k + 1, ?_⟩
      simp [s0, s1]
      omega
    · have e1 : k = l.length := by omega
      subst e1
      repeat' (first
       | refine wp2_seq fun K hK => ?_
       | refine M_cons fun K hK => ?_
       | (refine hK _ ?_; clear hK K)
       | (clear hK K; refine hK _ ?_; clear hK K)
       | (refine hY _ ?_; clear hX hY X Y)
       | refine wp2_region ?_
       | refine wp2_cond fun X Y hX hY => ?_
       | (refine condK_of (fun c => ?_) (fun c => ?_) <;> (try simp [-List.length_eq_zero_iff] at c))
       | simp (maxSteps := 4000000) (disch := omega) [s0, s1, s5])
      all_goals try (simp [s0, s1, s5, Back]; done)
theorem eqB_nil : CallsF Tryd.prog 9 [.val (.v (.slice none 0 0)), .val (bytesT [])] (.t (.v (.bool true))) [] := by
  refine callsF_of_wp2 (fn := Tryd.f9) (k := k9) (fun _ => []) mixed (by kernel_rfl) rfl (by kernel_rfl) (by kernel_rfl) (by kernel_rfl) rfl (by simp [Tryd.f9]) (by simp [Arg.like]) ?_
  generalize hst : St.enter [.val (.v (.slice none 0 0)), .val (bytesT [])] = st0
  have t0 : st0.tm 0 = .t (.v (.slice none 0 0)) := by rw [← hst]; rfl
  have t1 : st0.tm 1 = .t (bytesT []) := by rw [← hst]; rfl
  clear hst
  unfold k9
  repeat' (first
   | refine wp2_seq fun K hK => ?_
   | refine M_cons fun K hK => ?_
   | (refine hK _ ?_; clear hK K)
   | (refine hY _ ?_; clear hX hY X Y)
   | refine wp2_block ?_
   | refine wp2_region ?_
   | refine wp2_cond fun X Y hX hY => ?_
   | (refine condK_of (fun c => ?_) (fun c => ?_) <;> (try simp [-List.length_eq_zero_iff] at c))
   | simp (maxSteps := 4000000) (disch := omega) [t0, t1])
  all_goals try omega
  refine wp2_loop (fun n s => s.tm 0 = .t (.v (.slice none 0 0)) ∧ s.tm 5 = .t (.v (.int .i64 0))) 0 ?_ ?_
  · exact ⟨by simp [t0], by simp⟩
  · rintro n s ⟨s0, s5⟩ K' hK'
    repeat' (first
     | refine wp2_seq fun K hK => ?_
     | refine M_cons fun K hK => ?_
     | (refine hK _ ?_; clear hK K)
     | (clear hK K; refine hK _ ?_; clear hK K)
     | (refine hY _ ?_; clear hX hY X Y)
     | refine wp2_region ?_
     | refine wp2_cond fun X Y hX hY => ?_
     | (refine condK_of (fun c => ?_) (fun c => ?_) <;> (try simp [-List.length_eq_zero_iff] at c))
     | simp (maxSteps := 4000000) (disch := omega) [s0, s5])
    all_goals try (simp [s0, s5, Back]; done)
/-- The code of laws.markByteS. -/
def k12 : Code1 :=
 (.seq
 (.region [] false ([]) [
 ⟨some 4,Op.assign (Operand.const (Value.int IntKind.i64 0)),none⟩])
 (.seq
 (.seq
 (.region [] false ([]) [
 ⟨some 5,Op.assign (Operand.const (Value.int IntKind.i64 0)),none⟩])
 (.block 0
 (.loop
 (.seq
 (.seq
 (.region [] false ([]) [
 ⟨some 6,Op.move (Operand.tmp 5),none⟩,
 ⟨some 7,Op.move (Operand.tmp 0),none⟩,
 ⟨some 8,Op.call {callee:=Callee.builtin Builtin.len,args:=#[Operand.tmp 7],argTypes:=#[29]},none⟩,
 ⟨some 9,Op.binOp BinOp.lss 3 (Operand.tmp 6) (Operand.tmp 8) 3,none⟩])
 (.cond (Operand.tmp 9)
 .skip
 (.exit 0)))
 (.seq
 (.block 1
 (.seq
 (.region [] false ([]) [
 ⟨some 12,Op.move (Operand.tmp 0),none⟩,
 ⟨some 13,Op.move (Operand.tmp 5),none⟩,
 ⟨some 14,Op.move (Operand.tmp 1),none⟩,
 ⟨some 15,Op.convert 3 5 (Operand.tmp 14),none⟩,
 ⟨some 16,Op.indexAddr 29 (Operand.tmp 12) (Operand.tmp 13),none⟩,
 ⟨none,Op.store 5 (Operand.tmp 16) (Operand.tmp 15),none⟩])
 (.region [] false ([]) [
 ⟨some 17,Op.move (Operand.tmp 1),none⟩,
 ⟨some 18,Op.binOp BinOp.add 3 (Operand.tmp 17) (Operand.const (Value.int IntKind.i64 1)) 3,none⟩,
 ⟨some 1,Op.assign (Operand.tmp 18),none⟩])))
 (.region [] false ([]) [
 ⟨some 10,Op.move (Operand.tmp 5),none⟩,
 ⟨some 11,Op.binOp BinOp.add 3 (Operand.tmp 10) (Operand.const (Value.int IntKind.i64 1)) 3,none⟩,
 ⟨some 5,Op.assign (Operand.tmp 11),none⟩]))))))
 (.seq
 (.region [] false ([]) [
 ⟨some 19,Op.move (Operand.tmp 1),none⟩,
 ⟨some 4,Op.assign (Operand.tmp 19),none⟩])
 .ret)))
set_option maxHeartbeats 0 in
theorem markB (l : List UInt8) (k : Int) (h0 : 0 ≤ k) (h1 : k ≤ 1000000000) (h2 : l.length ≤ 100000000) :
    CallsF Tryd.prog 12 [.mrow 1 (byteR l), .val (.v (.int .i64 k))] (.t (.v (.int .i64 (k + l.length)))) [some (.mrow 1 (byteR (markedB k l.length)))] := by
  refine callsF_of_wp2 (fn := Tryd.f12) (k := k12) (fun _ => []) mixed (by kernel_rfl) rfl (by kernel_rfl) (by kernel_rfl) (by kernel_rfl) rfl (by simp [Tryd.f12]) (by simp [Arg.like]) ?_
  generalize hst : St.enter [.mrow 1 (byteR l), .val (.v (.int .i64 k))] = st0
  have t0 : st0.tm 0 = .row (100000, 0) 1 0 ((byteR l)).length := by rw [← hst]; rfl
  have o0 : st0.ob (100000, 0) = some (.row 1 (byteR l)) := by rw [← hst]; rfl
  have t1 : st0.tm 1 = .t (.v (.int .i64 k)) := by rw [← hst]; rfl
  clear hst
  unfold k12
  simp at t0
  repeat' (first
   | refine wp2_seq fun K hK => ?_
   | refine M_cons fun K hK => ?_
   | (refine hK _ ?_; clear hK K)
   | refine wp2_block ?_
   | refine wp2_region ?_
   | simp (maxSteps := 4000000) (disch := omega) [t0, o0, t1])
  have hJ : ∀ s, s.tm 1 = .t (.v (.int .i64 (k + l.length))) → s.ob (100000, 0) = some (.row 1 (byteR (markedB k l.length))) → K s := by
    intro s s1 o
    have hb : base = 100000 := rfl
    repeat' (first
     | refine wp2_seq fun K hK => ?_
     | refine M_cons fun K hK => ?_
     | (refine hK _ ?_; clear hK K)
     | refine wp2_region ?_
     | simp (maxSteps := 4000000) (disch := omega) [s1, o, hb])
    all_goals try (simp [s1, o, hb, Back]; done)
  clear hK
  refine wp2_loop (fun n s => ∃ (j : Nat) (xs : List UInt8), s.tm 0 = .row (100000, 0) 1 0 l.length ∧ s.ob (100000, 0) = some (.row 1 (byteR xs)) ∧ xs.length = l.length ∧ s.tm 5 = .t (.v (.int .i64 j)) ∧ s.tm 1 = .t (.v (.int .i64 (k + j))) ∧ j ≤ l.length ∧ n = l.length - j ∧ ∀ i < j, rb xs i = UInt8.ofNat (k + (i : Int)).toNat) l.length ?_ ?_
  · exact ⟨0, l, by simp [t0, o0, t1]⟩
  · rintro n s ⟨j, xs, s0, o, hx, s5, s1, hj, rfl, hq⟩ K' hK'
    by_cases hlt : j < l.length
    · repeat' (first
     | refine wp2_seq fun K hK => ?_
     | refine M_cons fun K hK => ?_
     | (refine hK _ ?_; clear hK K)
     | (refine hX _ ?_; clear hX hY X Y)
     | refine wp2_block ?_
     | refine wp2_region ?_
     | refine wp2_cond fun X Y hX hY => ?_
     | (refine condK_of (fun c => ?_) (fun c => ?_) <;> (try simp [-List.length_eq_zero_iff] at c))
     | simp (maxSteps := 4000000) (disch := omega) [s0, o, s5, s1, hx, hlt])
      refine hK' (l.length - (j + 1)) _ (by omega) ⟨j + 1, xs.set j (UInt8.ofNat (k + (j : Int)).toNat), ?_⟩
      simp [s0, hx]
      refine ⟨by omega, by omega, below_succ (p := fun i : Nat => rb (xs.set j (UInt8.ofNat (k + (j : Int)).toNat)) i = UInt8.ofNat (k + (i : Int)).toNat) (fun i hi => ?_) (rb_set_eq (by omega) _)⟩
      rw [rb_set_ne (by omega)]
      exact hq i hi
    · have hjl : j = l.length := by omega
      subst hjl
      repeat' (first
       | refine wp2_seq fun K hK => ?_
       | refine M_cons fun K hK => ?_
       | (refine hK _ ?_; clear hK K)
       | (refine hY _ ?_; clear hX hY X Y)
       | refine wp2_region ?_
       | refine wp2_cond fun X Y hX hY => ?_
       | (refine condK_of (fun c => ?_) (fun c => ?_) <;> (try simp [-List.length_eq_zero_iff] at c))
       | simp (maxSteps := 4000000) (disch := omega) [s0, o, s5, s1, hx])
      all_goals first | omega | skip
      refine hJ _ ?_ ?_
      · simp [s1]
      · simp [o]
        rw [eq_of_rb (a := xs) (b := markedB k l.length) (by simp [hx]) fun i hi => by rw [hq i (by omega), rb_marked (by omega)]]
theorem markB0 (k : Int) : CallsF Tryd.prog 12 [.val (.v (.slice none 0 0)), .val (.v (.int .i64 k))] (.t (.v (.int .i64 k))) [] := by
  refine callsF_of_wp2 (fn := Tryd.f12) (k := k12) (fun _ => []) mixed (by kernel_rfl) rfl (by kernel_rfl) (by kernel_rfl) (by kernel_rfl) rfl (by simp [Tryd.f12]) (by simp [Arg.like]) ?_
  generalize hst : St.enter [.val (.v (.slice none 0 0)), .val (.v (.int .i64 k))] = st0
  have t0 : st0.tm 0 = .t (.v (.slice none 0 0)) := by rw [← hst]; rfl
  have t1 : st0.tm 1 = .t (.v (.int .i64 k)) := by rw [← hst]; rfl
  clear hst
  unfold k12
  repeat' (first
   | refine wp2_seq fun K hK => ?_
   | refine M_cons fun K hK => ?_
   | (refine hK _ ?_; clear hK K)
   | refine wp2_block ?_
   | refine wp2_region ?_
   | simp (maxSteps := 4000000) (disch := omega) [t0, t1])
  refine wp2_loop (fun n s => s.tm 0 = .t (.v (.slice none 0 0)) ∧ s.tm 1 = .t (.v (.int .i64 k)) ∧ s.tm 5 = .t (.v (.int .i64 0))) 0 ?_ ?_
  · exact ⟨by simp [t0], by simp [t1], by simp⟩
  · rintro n s ⟨s0, s1, s5⟩ K' hK'
    repeat' (first
     | refine wp2_seq fun K hK => ?_
     | refine M_cons fun K hK => ?_
     | (refine hK _ ?_; clear hK K)
     | (clear hK K; refine hK _ ?_; clear hK K)
     | (refine hY _ ?_; clear hX hY X Y)
     | refine wp2_region ?_
     | refine wp2_cond fun X Y hX hY => ?_
     | (refine condK_of (fun c => ?_) (fun c => ?_) <;> (try simp [-List.length_eq_zero_iff] at c))
     | simp (maxSteps := 4000000) (disch := omega) [s0, s1, s5])
    all_goals try (simp [s0, s1, s5, Back]; done)
/-- The code of laws.heldByteS. -/
def k13 : Code1 :=
 (.seq
 (.region [] false ([]) [
 ⟨some 4,Op.assign (Operand.const (Value.int IntKind.i64 0)),none⟩])
 (.seq
 (.seq
 (.region [] false ([]) [
 ⟨some 5,Op.assign (Operand.const (Value.int IntKind.i64 0)),none⟩])
 (.block 0
 (.loop
 (.seq
 (.seq
 (.region [] false ([]) [
 ⟨some 6,Op.move (Operand.tmp 5),none⟩,
 ⟨some 7,Op.move (Operand.tmp 0),none⟩,
 ⟨some 8,Op.call {callee:=Callee.builtin Builtin.len,args:=#[Operand.tmp 7],argTypes:=#[29]},none⟩,
 ⟨some 9,Op.binOp BinOp.lss 3 (Operand.tmp 6) (Operand.tmp 8) 3,none⟩])
 (.cond (Operand.tmp 9)
 .skip
 (.exit 0)))
 (.seq
 (.block 1
 (.seq
 (.seq
 (.region [] false ([]) [
 ⟨some 12,Op.move (Operand.tmp 0),none⟩,
 ⟨some 13,Op.move (Operand.tmp 5),none⟩,
 ⟨some 14,Op.indexAddr 29 (Operand.tmp 12) (Operand.tmp 13),none⟩,
 ⟨some 15,Op.load 5 (Operand.tmp 14),none⟩,
 ⟨some 16,Op.move (Operand.tmp 1),none⟩,
 ⟨some 17,Op.convert 3 5 (Operand.tmp 16),none⟩,
 ⟨some 18,Op.binOp BinOp.neq 5 (Operand.tmp 15) (Operand.tmp 17) 5,none⟩])
 (.cond (Operand.tmp 18)
 (.seq
 (.region [] false ([]) [
 ⟨some 4,Op.assign (Operand.const (Value.int IntKind.i64 (-1))),none⟩])
 .ret)
 .skip))
 (.region [] false ([]) [
 ⟨some 19,Op.move (Operand.tmp 1),none⟩,
 ⟨some 20,Op.binOp BinOp.add 3 (Operand.tmp 19) (Operand.const (Value.int IntKind.i64 1)) 3,none⟩,
 ⟨some 1,Op.assign (Operand.tmp 20),none⟩])))
 (.region [] false ([]) [
 ⟨some 10,Op.move (Operand.tmp 5),none⟩,
 ⟨some 11,Op.binOp BinOp.add 3 (Operand.tmp 10) (Operand.const (Value.int IntKind.i64 1)) 3,none⟩,
 ⟨some 5,Op.assign (Operand.tmp 11),none⟩]))))))
 (.seq
 (.region [] false ([]) [
 ⟨some 21,Op.move (Operand.tmp 1),none⟩,
 ⟨some 4,Op.assign (Operand.tmp 21),none⟩])
 .ret)))
set_option maxHeartbeats 0 in
theorem heldB (n : Nat) (k : Int) (h0 : 0 ≤ k) (h1 : k ≤ 1000000000) (h2 : n ≤ 100000000) :
    CallsF Tryd.prog 13 [.val (bytesT (markedB k n)), .val (.v (.int .i64 k))] (.t (.v (.int .i64 (k + n)))) [] := by
  refine callsF_of_wp2 (fn := Tryd.f13) (k := k13) (fun _ => []) mixed (by kernel_rfl) rfl (by kernel_rfl) (by kernel_rfl) (by kernel_rfl) rfl (by simp [Tryd.f13]) (by simp [Arg.like]) ?_
  generalize hst : St.enter [.val (bytesT (markedB k n)), .val (.v (.int .i64 k))] = st0
  have t0 : st0.tm 0 = .t (bytesT (markedB k n)) := by rw [← hst]; rfl
  have t1 : st0.tm 1 = .t (.v (.int .i64 k)) := by rw [← hst]; rfl
  clear hst
  unfold k13
  repeat' (first
   | refine wp2_seq fun K hK => ?_
   | refine M_cons fun K hK => ?_
   | (refine hK _ ?_; clear hK K)
   | refine wp2_block ?_
   | refine wp2_region ?_
   | simp (maxSteps := 4000000) (disch := omega) [t0, t1])
  refine wp2_loop (fun m s => ∃ j : Nat, s.tm 0 = .t (bytesT (markedB k n)) ∧ s.tm 5 = .t (.v (.int .i64 j)) ∧ s.tm 1 = .t (.v (.int .i64 (k + j))) ∧ j ≤ n ∧ m = n - j) n ?_ ?_
  · exact ⟨0, by simp [t0], by simp, by simp [t1], by omega, by omega⟩
  · rintro m s ⟨j, s0, s5, s1, hj, rfl⟩ K' hK'
    by_cases hlt : j < n
    · have e1 : ((rb (markedB k n) j).toNat : Int) = IntKind.u8.wrap (k + j) := by rw [rb_marked hlt, wrapU _ (by omega)]
      have l1 : (markedB k n).length = n := markedB_length k n
      repeat' (first
       | refine wp2_seq fun K hK => ?_
       | refine M_cons fun K hK => ?_
       | (refine hK _ ?_; clear hK K)
       | (refine hX _ ?_; clear hX hY X Y)
       | (refine hY _ ?_; clear hX hY X Y)
       | refine wp2_block ?_
       | refine wp2_region ?_
       | refine wp2_cond fun X Y hX hY => ?_
       | (refine condK_of (fun c => ?_) (fun c => ?_) <;> (try simp [-List.length_eq_zero_iff] at c))
       | simp (maxSteps := 4000000) (disch := omega) [s0, s5, s1, hlt, e1])
      refine hK' (n - (j + 1)) _ (by omega) ⟨j + 1, ?_⟩
      simp [s0]
      omega
    · have e1 : j = n := by omega
      subst e1
      repeat' (first
       | refine wp2_seq fun K hK => ?_
       | refine M_cons fun K hK => ?_
       | (refine hK _ ?_; clear hK K)
       | (clear hK K; refine hK _ ?_; clear hK K)
       | (refine hY _ ?_; clear hX hY X Y)
       | refine wp2_region ?_
       | refine wp2_cond fun X Y hX hY => ?_
       | (refine condK_of (fun c => ?_) (fun c => ?_) <;> (try simp [-List.length_eq_zero_iff] at c))
       | simp (maxSteps := 4000000) (disch := omega) [s0, s5, s1])
      all_goals try (simp [s0, s5, s1, Back]; done)
theorem heldB0 (k : Int) : CallsF Tryd.prog 13 [.val (.v (.slice none 0 0)), .val (.v (.int .i64 k))] (.t (.v (.int .i64 k))) [] := by
  refine callsF_of_wp2 (fn := Tryd.f13) (k := k13) (fun _ => []) mixed (by kernel_rfl) rfl (by kernel_rfl) (by kernel_rfl) (by kernel_rfl) rfl (by simp [Tryd.f13]) (by simp [Arg.like]) ?_
  generalize hst : St.enter [.val (.v (.slice none 0 0)), .val (.v (.int .i64 k))] = st0
  have t0 : st0.tm 0 = .t (.v (.slice none 0 0)) := by rw [← hst]; rfl
  have t1 : st0.tm 1 = .t (.v (.int .i64 k)) := by rw [← hst]; rfl
  clear hst
  unfold k13
  repeat' (first
   | refine wp2_seq fun K hK => ?_
   | refine M_cons fun K hK => ?_
   | (refine hK _ ?_; clear hK K)
   | refine wp2_block ?_
   | refine wp2_region ?_
   | simp (maxSteps := 4000000) (disch := omega) [t0, t1])
  refine wp2_loop (fun n s => s.tm 0 = .t (.v (.slice none 0 0)) ∧ s.tm 1 = .t (.v (.int .i64 k)) ∧ s.tm 5 = .t (.v (.int .i64 0))) 0 ?_ ?_
  · exact ⟨by simp [t0], by simp [t1], by simp⟩
  · rintro n s ⟨s0, s1, s5⟩ K' hK'
    repeat' (first
     | refine wp2_seq fun K hK => ?_
     | refine M_cons fun K hK => ?_
     | (refine hK _ ?_; clear hK K)
     | (clear hK K; refine hK _ ?_; clear hK K)
     | (refine hY _ ?_; clear hX hY X Y)
     | refine wp2_region ?_
     | refine wp2_cond fun X Y hX hY => ?_
     | (refine condK_of (fun c => ?_) (fun c => ?_) <;> (try simp [-List.length_eq_zero_iff] at c))
     | simp (maxSteps := 4000000) (disch := omega) [s0, s1, s5])
    all_goals try (simp [s0, s1, s5, Back]; done)
end Cal
