/- A part of the proof: a calculus of our own over the model's code, and contracts of the program's functions. -/
import Derived.Sort.OwnSortedInts
import Derived.Test.YthiflnpbamlinaaG3
import Derived.Test.YthiflnpbamlinaaG14
import Derived.Test.YthiflnpbamlinaaG17
/- slices.Sort of numbers, as a contract of the calculus. -/
set_option linter.unusedSimpArgs false
set_option linter.unusedVariables false
namespace Cal
open Go Go.Proofs Go.RowKit
set_option maxRecDepth 100000
def sortI (l : List Int) : List Int := l.mergeSort fun x y => decide (x ≤ y)
theorem sortI_len (l : List Int) : (sortI l).length = l.length := List.length_mergeSort l
theorem row_cells {w : World} {S : Nat → Prop} {b c : Nat} {l : List Int} {arr : Array Value} {ty : TypeId} (h1 : w.heap[b]? = some (.cells arr ty (0, 0))) (h : Ereps w S b 0 1 (intRow l)) : arr.toList.take l.length = l.map (Value.int .i64) := by
  apply List.ext_getElem?
  intro j
  rw [List.getElem?_take]
  by_cases hj : j < l.length
  · rw [if_pos hj]
    have hrow : (intRow l)[j]? = some [.v (.int .i64 (l[j]))] := by simp [intRow, hj]
    obtain ⟨_, hc⟩ := h.get hrow
    obtain ⟨u, g1, g2⟩ := hc.get (j := 0) rfl
    unfold Trep at g2
    obtain ⟨rfl, _⟩ := g2
    unfold World.cell? at g1
    simp only [h1] at g1
    simp at g1
    rw [Array.getElem?_toList, List.getElem?_map, List.getElem?_eq_getElem hj]
    exact g1
  · rw [if_neg hj, List.getElem?_eq_none (by simp; omega)]
theorem sort_c (l : List Int) (hl : l.length ≤ 1000000) : CallsF Try.prog 100 [.mrow 1 (intRow l)] (.tup []) [some (.mrow 1 (intRow (sortI l)))] := by
  refine ⟨⟨Try.f100, by kernel_rfl, by kernel_rfl, rfl⟩, by simp [Arg.like, intRow, sortI_len], fun w S us usF ab hS hfl harg hnd hlt hfx => ?_⟩
  obtain rfl := flatU_nones _ _ _ hfl
  unfold ArgsRep at harg
  obtain ⟨u1, us1, a1, c1, rfl, rfl, h1, harg⟩ := harg
  unfold ArgsRep at harg
  obtain ⟨rfl, rfl⟩ := harg
  unfold ArgRep at h1
  obtain ⟨b, cap, rfl, rfl, ⟨⟨arr, ty, k1, k2⟩, k3, k4, k5⟩, k6⟩ := h1
  have hil : (intRow l).length = l.length := by simp [intRow]
  have his : (intRow (sortI l)).length = l.length := by simp [intRow, sortI_len]
  rw [hil] at k3 ⊢
  have ht := row_cells (c := cap) k1 k5
  have hbl : b < w.heap.size := (Array.getElem?_eq_some_iff.1 k1).1
  refine Calls.mono (AnyM.slices_Sort_int Try.laysSort b 0 cap l w (holds_of_blockI k1 ht) hbl (by omega)) fun e w' he => ?_
  obtain ⟨rfl, n, os, rfl⟩ := he
  have hgr := grownBy_sortedI (w := w) (g := b) (n := n) (os := os) (l.mergeSort fun x y => decide (x ≤ y)).toArray
  have hrow := ownsRow_sortedI (w := w) (base := 0) (g := b) (cap := cap) (n := n) (e := ty) (os := os) (cur := arr) (ss := l) (ts := sortI l) (sortI_len l) (Nat.zero_le _) k1 k3 k4 k2
  refine ⟨_, S, [], rfl, ⟨hfx, hgr.os, hgr.tape, hgr.output, hgr.size, fun k hk hne => hgr.block k hk (by simpa using hne)⟩, fun _ h => h, fun k hk => ⟨Nat.lt_of_lt_of_le (hS k hk) hgr.size, .inl hk⟩, ?_, by simp [liveOuts], fun k hk => by simp at hk, ?_⟩
  · unfold RVrep
    exact ⟨[], rfl, by unfold RVreps; exact ⟨rfl, rfl⟩⟩
  · unfold OutReps OutRep
    refine ⟨⟨?_, k6⟩, by unfold OutReps; trivial⟩
    rcases hrow.2 with ⟨h0, h1⟩ | ⟨g, c, cur, hv, hg, hb, hn, hc, hcs, hct⟩
    · cases h0
    · cases hv
      refine ⟨⟨cur, ty, hb, by rw [Nat.mul_one] at hcs ⊢; exact hcs⟩, by rw [his]; exact k3, k4, intRow_reps (holds_take (n := l.length) hb (by rw [Nat.mul_one] at hct; exact hct))⟩
theorem sort_nil_c : CallsF Try.prog 100 [.val (.v (.slice none 0 0))] (.tup []) [] := by
  refine ⟨⟨Try.f100, by kernel_rfl, by kernel_rfl, rfl⟩, by simp [Arg.like], fun w S us usF ab hS hfl harg hnd hlt hfx => ?_⟩
  obtain rfl := flatU_nones _ _ _ hfl
  unfold ArgsRep at harg
  obtain ⟨u1, us1, a1, c1, rfl, rfl, h1, harg⟩ := harg
  unfold ArgsRep at harg
  obtain ⟨rfl, rfl⟩ := harg
  unfold ArgRep at h1
  obtain ⟨rfl, h1⟩ := h1
  unfold Trep at h1
  obtain ⟨rfl, _⟩ := h1
  refine Calls.mono (AnyM.slices_Sort_int_none Try.laysSort none 0 w) fun e w' he => ?_
  obtain ⟨rfl, rfl⟩ := he
  refine ⟨_, S, [], rfl, ⟨hfx, rfl, rfl, rfl, Nat.le_refl _, fun _ _ _ => rfl⟩, fun _ h => h, fun k hk => ⟨hS k hk, .inl hk⟩, ?_, by simp [liveOuts], fun k hk => by simp at hk, by unfold OutReps; trivial⟩
  unfold RVrep
  exact ⟨[], rfl, by unfold RVreps; exact ⟨rfl, rfl⟩⟩
end Cal

/- impl.BuildAuto: the search in breadth. -/
set_option linter.unusedSimpArgs false
set_option linter.unusedVariables false
namespace Cal
open Go Go.Proofs Auto AC
set_option maxRecDepth 100000
/-- The range over a map. -/
def kRange : Code1 :=
(.seq
                          (.region [] false ([]) [
                            ⟨some 143, Op.move (Operand.tmp 15), none⟩,
                            ⟨some 144, Op.nilCheck (Operand.tmp 143), none⟩,
                            ⟨some 145, Op.fieldAddr 147 (Operand.tmp 144) 0, none⟩,
                            ⟨some 146, Op.load 145 (Operand.tmp 145), none⟩,
                            ⟨some 147, Op.range 145 (Operand.tmp 146), none⟩])
                          (.block 6
                            (.loop k32_l3)))
/-- The rest of a round. -/
def kTail : Code1 :=
  (.seq
                        kRange
                        (.seq
                          (.region [157] false ([]) [
                            ⟨some 156, Op.move (Operand.tmp 17), none⟩,
                            ⟨some 157, Op.call { callee := Callee.value (Operand.func 100), args := #[Operand.tmp 156], argTypes := #[22] }, none⟩])
                          (.seq
                            (.region [] false ([]) [
                              ⟨some 158, Op.move (Operand.tmp 17), none⟩,
                              ⟨some 159, Op.call { callee := Callee.builtin Builtin.len, args := #[Operand.tmp 158], argTypes := #[22] }, none⟩,
                              ⟨some 160, Op.move (Operand.const (Value.int IntKind.i64 0)), none⟩])
                            (.block 8
                              (.loop k32_l4)))))
/-- The same, the range by itself. -/
def k32_l2r : Code1 :=
  (.seq
    (.seq
      (.region [] false ([]) [
        ⟨some 102, Op.move (Operand.tmp 14), none⟩,
        ⟨some 103, Op.move (Operand.tmp 13), none⟩,
        ⟨some 104, Op.call { callee := Callee.builtin Builtin.len, args := #[Operand.tmp 103], argTypes := #[149] }, none⟩,
        ⟨some 105, Op.binOp BinOp.lss 3 (Operand.tmp 102) (Operand.tmp 104) 3, none⟩])
      (.cond (Operand.tmp 105)
        .skip
        (.exit 4)))
    (.seq
      (.block 5
        (.seq
          (.region [] false ([]) [
            ⟨some 108, Op.move (Operand.tmp 13), none⟩,
            ⟨some 109, Op.move (Operand.tmp 14), none⟩,
            ⟨some 110, Op.indexAddr 149 (Operand.tmp 108) (Operand.tmp 109), none⟩,
            ⟨some 111, Op.load 143 (Operand.tmp 110), none⟩,
            ⟨some 15, Op.assign (Operand.tmp 111), none⟩])
          (.seq
            (.region [] false ([]) [
              ⟨some 112, Op.move (Operand.tmp 15), none⟩,
              ⟨some 113, Op.move (Operand.tmp 14), none⟩,
              ⟨some 114, Op.nilCheck (Operand.tmp 112), none⟩,
              ⟨some 115, Op.fieldAddr 147 (Operand.tmp 114) 5, none⟩,
              ⟨none, Op.store 2 (Operand.tmp 115) (Operand.tmp 113), none⟩])
            (.seq
              (.region [] false ([]) [
                ⟨some 16, Op.assign (Operand.const (Value.int IntKind.i64 (-1))), none⟩])
              (.seq
                (.seq
                  (.region [] false ([]) [
                    ⟨some 116, Op.move (Operand.tmp 15), none⟩,
                    ⟨some 117, Op.nilCheck (Operand.tmp 116), none⟩,
                    ⟨some 118, Op.fieldAddr 147 (Operand.tmp 117) 3, none⟩,
                    ⟨some 119, Op.load 143 (Operand.tmp 118), none⟩,
                    ⟨some 120, Op.binOp BinOp.neq 143 (Operand.tmp 119) (Operand.const (Value.pointer none)) 143, none⟩])
                  (.cond (Operand.tmp 120)
                    (.region [] false ([]) [
                      ⟨some 121, Op.move (Operand.tmp 15), none⟩,
                      ⟨some 122, Op.nilCheck (Operand.tmp 121), none⟩,
                      ⟨some 123, Op.fieldAddr 147 (Operand.tmp 122) 3, none⟩,
                      ⟨some 124, Op.load 143 (Operand.tmp 123), none⟩,
                      ⟨some 125, Op.nilCheck (Operand.tmp 124), none⟩,
                      ⟨some 126, Op.fieldAddr 147 (Operand.tmp 125) 5, none⟩,
                      ⟨some 127, Op.load 2 (Operand.tmp 126), none⟩,
                      ⟨some 16, Op.assign (Operand.tmp 127), none⟩])
                    .skip))
                (.seq
                  (.region [131, 132] false ([]) [
                    ⟨some 128, Op.fieldAddr 61 (Operand.tmp 12) 0, none⟩,
                    ⟨some 129, Op.load 22 (Operand.tmp 128), none⟩,
                    ⟨some 130, Op.move (Operand.tmp 16), none⟩,
                    ⟨some 131, Op.buildSlice 22 1 #[(0, Operand.tmp 130)], none⟩,
                    ⟨some 132, Op.call { callee := Callee.builtin Builtin.append, args := #[Operand.tmp 129, Operand.tmp 131], argTypes := #[22, 22] }, none⟩,
                    ⟨some 133, Op.fieldAddr 61 (Operand.tmp 12) 0, none⟩,
                    ⟨none, Op.store 22 (Operand.tmp 133) (Operand.tmp 132), none⟩])
                  (.seq
                    (.region [140, 141] true ([141]) [
                      ⟨some 134, Op.fieldAddr 61 (Operand.tmp 12) 1, none⟩,
                      ⟨some 135, Op.load 22 (Operand.tmp 134), none⟩,
                      ⟨some 136, Op.move (Operand.tmp 15), none⟩,
                      ⟨some 137, Op.nilCheck (Operand.tmp 136), none⟩,
                      ⟨some 138, Op.fieldAddr 147 (Operand.tmp 137) 4, none⟩,
                      ⟨some 139, Op.load 2 (Operand.tmp 138), none⟩,
                      ⟨some 140, Op.buildSlice 22 1 #[(0, Operand.tmp 139)], none⟩,
                      ⟨some 141, Op.call { callee := Callee.builtin Builtin.append, args := #[Operand.tmp 135, Operand.tmp 140], argTypes := #[22, 22] }, none⟩,
                      ⟨some 142, Op.fieldAddr 61 (Operand.tmp 12) 1, none⟩,
                      ⟨none, Op.store 22 (Operand.tmp 142) (Operand.tmp 141), none⟩])
                    (.seq
                      (.region [] false ([]) [
                        ⟨some 17, Op.assign (Operand.const (Value.slice none 0 0)), none⟩])
                      kTail))))))))
      (.region [] false ([]) [
        ⟨some 106, Op.move (Operand.tmp 14), none⟩,
        ⟨some 107, Op.binOp BinOp.add 3 (Operand.tmp 106) (Operand.const (Value.int IntKind.i64 1)) 3, none⟩,
        ⟨some 14, Op.assign (Operand.tmp 107), none⟩])))
theorem l2_eq : k32_l2 = k32_l2r := rfl
theorem kRange_eq : kRange =
(.seq
                          (.region [] false ([]) [
                            ⟨some 143, Op.move (Operand.tmp 15), none⟩,
                            ⟨some 144, Op.nilCheck (Operand.tmp 143), none⟩,
                            ⟨some 145, Op.fieldAddr 147 (Operand.tmp 144) 0, none⟩,
                            ⟨some 146, Op.load 145 (Operand.tmp 145), none⟩,
                            ⟨some 147, Op.range 145 (Operand.tmp 146), none⟩])
                          (.block 6
                            (.loop k32_l3))) := rfl
theorem kTail_eq : kTail =
  (.seq
                        kRange
                        (.seq
                          (.region [157] false ([]) [
                            ⟨some 156, Op.move (Operand.tmp 17), none⟩,
                            ⟨some 157, Op.call { callee := Callee.value (Operand.func 100), args := #[Operand.tmp 156], argTypes := #[22] }, none⟩])
                          (.seq
                            (.region [] false ([]) [
                              ⟨some 158, Op.move (Operand.tmp 17), none⟩,
                              ⟨some 159, Op.call { callee := Callee.builtin Builtin.len, args := #[Operand.tmp 158], argTypes := #[22] }, none⟩,
                              ⟨some 160, Op.move (Operand.const (Value.int IntKind.i64 0)), none⟩])
                            (.block 8
                              (.loop k32_l4))))) := rfl
attribute [irreducible] kRange kTail
/-- A row of nodes. -/
def ptrRow (l : List Nat) : List (List AV) := l.map fun i => [.ptr (70100, i) 0 0]
@[simp] theorem ptrRow_length (l : List Nat) : (ptrRow l).length = l.length := by simp [ptrRow]
theorem ptrRow_app (l : List Nat) (x : Nat) : ptrRow l ++ [[.ptr (70100, x) 0 0]] = ptrRow (l ++ [x]) := by simp [ptrRow]
@[simp] theorem take_ptrRow (l : List Nat) (n : Nat) (h : l.length ≤ n) : (ptrRow l).take n = ptrRow l := List.take_of_length_le (by simpa using h)
theorem ptrRow_get (l : List Nat) {n p : Nat} (h : l[n]? = some p) : (ptrRow l)[n]? = some [.ptr (70100, p) 0 0] := by simp [ptrRow, h]
theorem ptrRow_kill_c (l : List Nat) (ds : List Nat) (hd : ds.contains 70100 = false) : (ptrRow l).map (AV.kills ds) = ptrRow l := by
  have : ¬ 70100 ∈ ds := fun hm => by simp [hm] at hd
  unfold ptrRow
  rw [List.map_map]
  refine List.map_congr_left fun i _ => ?_
  simp [AV.kills, AV.kill, this]
theorem ptrRow_ren_c (l : List Nat) (a b : Nat) (q : Id) (h : a ≠ 70100) : (ptrRow l).map (AV.rensG (ren1 (a, b) q)) = ptrRow l := by
  have h' : ¬ 70100 = a := fun e => h e.symm
  unfold ptrRow
  rw [List.map_map]
  refine List.map_congr_left fun i _ => ?_
  simp [ren1, h']
theorem ptrRow_renI_c (l : List Nat) (a b : Nat) (h : a ≠ 70100) : (ptrRow l).map (AV.rensG (renI a b)) = ptrRow l := by
  have h' : ¬ 70100 = a := fun e => h e.symm
  unfold ptrRow
  rw [List.map_map]
  refine List.map_congr_left fun i _ => ?_
  simp [h']
theorem ptrRow_k1_c (l : List Nat) (a b : Nat) (h : a ≠ 70100) : (ptrRow l).map (AV.kills1 (a, b)) = ptrRow l := by
  have h' : ¬ 70100 = a := fun e => h e.symm
  unfold ptrRow
  rw [List.map_map]
  refine List.map_congr_left fun i _ => ?_
  simp [h']
@[simp] theorem ptrRow_kill (l : List Nat) (ds : List Nat) : (ptrRow l).map (AV.kills ds) = if ds.contains 70100 = true then asIs ((ptrRow l).map (AV.kills ds)) else ptrRow l := by
  split
  · rfl
  · exact ptrRow_kill_c l ds (Bool.eq_false_iff.2 (by assumption))
@[simp] theorem ptrRow_ren (l : List Nat) (a b : Nat) (q : Id) : (ptrRow l).map (AV.rensG (ren1 (a, b) q)) = if a = 70100 then asIs ((ptrRow l).map (AV.rensG (ren1 (a, b) q))) else ptrRow l := by
  split
  · rfl
  · exact ptrRow_ren_c l a b q (by assumption)
@[simp] theorem ptrRow_renI (l : List Nat) (a b : Nat) : (ptrRow l).map (AV.rensG (renI a b)) = if a = 70100 then asIs ((ptrRow l).map (AV.rensG (renI a b))) else ptrRow l := by
  split
  · rfl
  · exact ptrRow_renI_c l a b (by assumption)
@[simp] theorem ptrRow_k1 (l : List Nat) (a b : Nat) : (ptrRow l).map (AV.kills1 (a, b)) = if a = 70100 then asIs ((ptrRow l).map (AV.kills1 (a, b))) else ptrRow l := by
  split
  · rfl
  · exact ptrRow_k1_c l a b (by assumption)
/-- The queue: the numbers of its nodes. -/
def qs (us ws : List (List Int)) (i : Nat) : List Nat := (bfs ws i).map (ix us)
/-- The numbers that the nodes bear so far. -/
def nmF (us ws : List (List Int)) (i : Nat) (j : Nat) : Int := if ix ws (gw us j) < i then (ix ws (gw us j) : Int) else 0
theorem nmF_zero (us ws : List (List Int)) : nmF us ws 0 = fun _ => 0 := by
  funext j
  simp [nmF]
def rvQ (d n : Nat) : AV := if n = 0 then .t (.v (.slice none 0 0)) else .row (d, 0) 1 0 n
/-- What is known of the words. -/
structure WQ (us ws : List (List Int)) : Prop where
  same : SameW us ws
  rise : Short.Rising ws
  pc : PC ws
  len : ws.length ≤ 2000
  each : ∀ w ∈ ws, EOK w
/-- At the head of the search's loop. -/
structure SQ (us ws : List (List Int)) (en : List Int → Bool) (mu : List Int → Int) (i : Nat) (st0 s : St) : Prop where
  s2 : s.tm 2 = .ptr (79002, 0) 0 0
  o2 : s.ob (79002, 0) = some (.var (emptyA 0))
  s12 : s.tm 12 = .ptr (79012, 0) 0 0
  o12 : s.ob (79012, 0) = some (.var [rvQ 70102 i, rvQ 70103 i, .t (.v (.slice none 0 0)), .t (.v (.slice none 0 0)), .t (.v (.slice none 0 0))])
  r1 : i ≠ 0 → s.ob (70102, 0) = some (.row 1 (intRow (tabI (parW ws) i)))
  r2 : i ≠ 0 → s.ob (70103, 0) = some (.row 1 (intRow (tabI (lastW ws) i)))
  s13 : s.tm 13 = .row (79013, 0) 1 0 (qs us ws i).length
  o13 : s.ob (79013, 0) = some (.big 1 (ptrRow (qs us ws i)))
  s14 : s.tm 14 = .t (.v (.int .i64 i))
  nd : Nodes us en mu (nmF us ws i) s
  q : Keep F0b st0 s
end Cal

/- impl.BuildAuto: the search in breadth: a node is taken. -/
set_option linter.unusedSimpArgs false
set_option linter.unusedVariables false
namespace Cal
open Go Go.Proofs Auto AC
set_option maxRecDepth 100000
theorem wd_gw (ws : List (List Int)) (i : Nat) : wd ws i = gw ws i := wd_getD ws i
theorem WQ.sub {us ws : List (List Int)} (h : WQ us ws) {w : List Int} (hw : w ∈ ws) : w ∈ us := (h.same.2 w).2 hw
theorem WQ.nodup {us ws : List (List Int)} (h : WQ us ws) : ws.Nodup := rising_nodup h.rise
theorem WQ.first {us ws : List (List Int)} (h : WQ us ws) {i : Nat} (hi : i < ws.length) : gw ws i = [] ↔ i = 0 := by
  have := first_nil h.rise h.pc.1 hi
  rw [wd_gw] at this
  rw [← this]
  exact ⟨fun e => by rw [e]; rfl, List.eq_nil_of_length_eq_zero⟩
theorem WQ.stI {us ws : List (List Int)} (h : WQ us ws) {w : List Int} (hw : w ∈ ws) : stI ws w = (ix ws w : Int) := by
  obtain ⟨a, b, c⟩ := stI_mem h.rise hw
  obtain ⟨x1, x2⟩ := ix_lt hw
  have := gw_inj h.nodup (i := (Cal.stI ws w).toNat) (j := ix ws w) (by omega) x1 (by rw [x2]; exact c)
  omega
theorem WQ.par {us ws : List (List Int)} (h : WQ us ws) {i : Nat} (hi : i < ws.length) (h0 : i ≠ 0) : parW ws i = (ix ws (parR (gw ws i)) : Int) ∧ ix ws (parR (gw ws i)) < i := by
  have hw : gw ws i ≠ [] := fun e => h0 ((h.first hi).1 e)
  have hl : ¬ (wd ws i).length = 0 := by rw [wd_gw]; exact fun e => hw (List.eq_nil_of_length_eq_zero e)
  have hm : parR (gw ws i) ∈ ws := h.pc.2 _ (gw_mem hi)
  obtain ⟨x1, x2⟩ := ix_lt hm
  constructor
  · unfold parW
    rw [if_neg hl, wd_gw]
    exact h.stI hm
  · apply (h.rise.iff x1 hi).1
    rw [← gw_get x1, ← gw_get hi, x2]
    rw [wd_gw] at hl
    unfold Short.before parR
    rw [List.length_take, if_neg (by omega)]
    simp
    omega
theorem WQ.par0 {us ws : List (List Int)} (h : WQ us ws) {i : Nat} (hi : i < ws.length) (h0 : i = 0) : parW ws i = -1 := by
  have hw := (h.first hi).2 h0
  unfold parW
  rw [if_pos (by rw [wd_gw, hw]; rfl)]
theorem WQ.last {us ws : List (List Int)} (h : WQ us ws) {i p : Nat} (hi : i < ws.length) (hp : gw us p = gw ws i) : lastN us p = lastW ws i := by
  unfold lastN lastW
  rw [hp, wd_gw]
  by_cases h0 : gw ws i = []
  · rw [if_pos h0, if_pos (by rw [h0]; rfl)]
  · rw [if_neg h0, if_neg (fun e => h0 (List.eq_nil_of_length_eq_zero e))]
    unfold lastL
    rw [rd_getI, Int.toNat_natCast]
theorem WQ.qlen {us ws : List (List Int)} (h : WQ us ws) {i : Nat} (hi : i ≤ ws.length) : (qs us ws i).length ≤ ws.length ∧ (i < ws.length → i < (qs us ws i).length) := by
  unfold qs
  rw [List.length_map]
  exact ⟨bfs_le h.rise h.pc hi, fun hl => bfs_lt h.rise h.pc hl⟩
theorem WQ.qget {us ws : List (List Int)} (h : WQ us ws) {i k : Nat} (hi : i ≤ ws.length) (hk : k < (qs us ws i).length) : (qs us ws i)[k]? = some (ix us (gw ws k)) := by
  unfold qs at *
  rw [List.length_map] at hk
  have := bfs_get h.rise h.pc hi hk
  rw [List.getD_eq_getElem?_getD, List.getElem?_eq_getElem hk] at this
  rw [List.getElem?_map, List.getElem?_eq_getElem hk, Option.map_some]
  congr 2
theorem WQ.qend {us ws : List (List Int)} (h : WQ us ws) : qs us ws ws.length = ws.map (ix us) := by
  unfold qs
  rw [bfs_full h.rise h.pc]
theorem nodes_num {us ws : List (List Int)} {en : List Int → Bool} {mu : List Int → Int} {i p : Nat} {s s' : St} (h : WQ us ws) (hi : i < ws.length) (hp : p < us.length) (hg : gw us p = gw ws i) (nd : Nodes us en mu (nmF us ws i) s)
    (o1 : s'.ob (70100, p) = some (.var (nodeV us en mu i p))) (o2 : ∀ j, j < us.length → j ≠ p → s'.ob (70100, j) = s.ob (70100, j)) (o3 : ∀ j, j < us.length → s'.ob (70101, j) = s.ob (70101, j)) : Nodes us en mu (nmF us ws (i + 1)) s' := by
  intro j hj
  obtain ⟨n1, n2⟩ := nd j hj
  refine ⟨?_, by rw [o3 j hj, n2]⟩
  by_cases e : j = p
  · subst e
    rw [o1]
    have : nmF us ws (i + 1) j = i := by
      unfold nmF
      rw [hg, ix_gw h.nodup hi, if_pos (by omega)]
    rw [this]
  · rw [o2 j hj e, n1]
    have hne : ix ws (gw us j) ≠ i := fun h' => by
      have hm : gw us j ∈ ws := (h.same.2 _).1 (gw_mem hj)
      have := (ix_lt hm).2
      rw [h'] at this
      exact e (gw_inj h.same.1 hj hp (by rw [hg, this]))
    have : nmF us ws (i + 1) j = nmF us ws i j := by
      unfold nmF
      by_cases hlt : ix ws (gw us j) < i
      · rw [if_pos hlt, if_pos (by omega)]
      · rw [if_neg hlt, if_neg (by omega)]
    rw [this]
@[simp] theorem nodeV_w5 (us : List (List Int)) (en : List Int → Bool) (mu : List Int → Int) (nm x : Int) (i : Nat) : (nodeV us en mu nm i).take 5 ++ .t (.v (.int .i64 x)) :: (nodeV us en mu nm i).drop 6 = nodeV us en mu x i := rfl
@[simp] theorem muteB_141 (t : Nat) : muteB true [141] (some t) = !(decide (t = 141)) := by simp [muteB]
/-- In the middle of a round. -/
structure SM (us ws : List (List Int)) (en : List Int → Bool) (mu : List Int → Int) (i : Nat) (st0 s : St) : Prop where
  s2 : s.tm 2 = .ptr (79002, 0) 0 0
  o2 : s.ob (79002, 0) = some (.var (emptyA 0))
  s12 : s.tm 12 = .ptr (79012, 0) 0 0
  o12 : s.ob (79012, 0) = some (.var [.row (70102, 0) 1 0 (i + 1), .row (70103, 0) 1 0 (i + 1), .t (.v (.slice none 0 0)), .t (.v (.slice none 0 0)), .t (.v (.slice none 0 0))])
  r1 : s.ob (70102, 0) = some (.row 1 (intRow (tabI (parW ws) (i + 1))))
  r2 : s.ob (70103, 0) = some (.row 1 (intRow (tabI (lastW ws) (i + 1))))
  s13 : s.tm 13 = .row (79013, 0) 1 0 (qs us ws i).length
  o13 : s.ob (79013, 0) = some (.big 1 (ptrRow (qs us ws i)))
  s14 : s.tm 14 = .t (.v (.int .i64 i))
  s15 : s.tm 15 = .ptr (70100, ix us (gw ws i)) 0 0
  nd : Nodes us en mu (nmF us ws (i + 1)) s
  q : Keep F0b st0 s
end Cal

/- impl.BuildAuto: the search in breadth: the kids of a node are queued. -/
set_option linter.unusedSimpArgs false
set_option linter.unusedVariables false
namespace Cal
open Go Go.Proofs Auto AC
set_option maxRecDepth 100000
theorem SM.aft {us ws : List (List Int)} {en : List Int → Bool} {mu : List Int → Int} {i : Nat} {st0 s s' : St} (hc : st0.Calm F0b F0b) (h : SM us ws en mu i st0 s) (a : AftK s s') : SM us ws en mu i st0 s' := by
  obtain ⟨s2, o2, s12, o12, r1, r2, s13, o13, s14, s15, nd, q⟩ := h
  have tm : ∀ t, t ∉ tsK → s'.tm t = (s.tm t).kill1 idK := a.tm
  have ob : ∀ id, id ≠ idK → s'.ob id = (s.ob id).map (Ob.kill1 idK) := a.ob
  refine ⟨?_, ?_, ?_, ?_, ?_, ?_, ?_, ?_, ?_, ?_, fun j hj => ⟨?_, ?_⟩, ?_⟩
  · rw [tm 2 (by decide), s2]; rfl
  · rw [ob _ (by decide), o2]; rfl
  · rw [tm 12 (by decide), s12]; rfl
  · rw [ob _ (by decide), o12]; rfl
  · rw [ob _ (by decide), r1]; rfl
  · rw [ob _ (by decide), r2]; rfl
  · rw [tm 13 (by decide), s13]; rfl
  · rw [ob _ (by decide), o13]
    show some (Ob.big 1 ((ptrRow (qs us ws i)).map (AV.kills1 (79017, 0)))) = _
    rw [ptrRow_k1_c _ _ _ (by decide)]
  · rw [tm 14 (by decide), s14]; rfl
  · rw [tm 15 (by decide), s15]
    unfold idK
    simp
  · rw [ob _ (by unfold idK; simp), (nd j hj).1]
    show some (Ob.var (AV.kills1 (79017, 0) _)) = _
    rw [nodeV_k1p_c _ _ _ _ _ _ _ (by decide) (by decide)]
  · rw [ob _ (by unfold idK; simp), (nd j hj).2]
    show some (Ob.map 0 ((kidM us (gw us j)).map fun p => (p.1, p.2.kill1 (79017, 0)))) = _
    rw [kid_kill1p_c _ _ _ _ (by decide)]
  · have := Keep.kill1 hc q (q := idK) (by rfl)
    refine ⟨fun t => ?_, fun id hid => ?_⟩
    · rw [a.gh]
      exact this.gh t
    · rw [ob id (fun e => by rw [e] at hid; simp [idK, calm] at hid)]
      have h2 := this.ob id hid
      simp only [St.kill1] at h2
      rw [if_neg (fun e => by rw [e] at hid; simp [idK, calm] at hid)] at h2
      exact h2
/-- While the kids are queued: m keys, j of them done. -/
structure SK (us ws : List (List Int)) (en : List Int → Bool) (mu : List Int → Int) (i : Nat) (j : Nat) (st0 s : St) : Prop where
  s2 : s.tm 2 = .ptr (79002, 0) 0 0
  o2 : s.ob (79002, 0) = some (.var (emptyA 0))
  s12 : s.tm 12 = .ptr (79012, 0) 0 0
  o12 : s.ob (79012, 0) = some (.var [.row (70102, 0) 1 0 (i + 1), .row (70103, 0) 1 0 (i + 1), .t (.v (.slice none 0 0)), .t (.v (.slice none 0 0)), .t (.v (.slice none 0 0))])
  r1 : s.ob (70102, 0) = some (.row 1 (intRow (tabI (parW ws) (i + 1))))
  r2 : s.ob (70103, 0) = some (.row 1 (intRow (tabI (lastW ws) (i + 1))))
  s13 : s.tm 13 = .row (79013, 0) 1 0 ((qs us ws i).length + j)
  o13 : s.ob (79013, 0) = some (.big 1 (ptrRow (qs us ws i ++ ((kidW ws (gw ws i)).take j).map (ix us))))
  s14 : s.tm 14 = .t (.v (.int .i64 i))
  s15 : s.tm 15 = .ptr (70100, ix us (gw ws i)) 0 0
  s158 : kidW ws (gw ws i) ≠ [] → s.tm 158 = .row (79017, 0) 1 0 (kidW ws (gw ws i)).length
  o158 : kidW ws (gw ws i) ≠ [] → s.ob (79017, 0) = some (.row 1 (intRow ((kidW ws (gw ws i)).map lastL)))
  s159 : s.tm 159 = .t (.v (.int .i64 (kidW ws (gw ws i)).length))
  s160 : s.tm 160 = .t (.v (.int .i64 j))
  nd : Nodes us en mu (nmF us ws (i + 1)) s
  q : Keep F0b st0 s
/-- Behind a round, but for the count. -/
structure SE (us ws : List (List Int)) (en : List Int → Bool) (mu : List Int → Int) (i : Nat) (st0 s : St) : Prop where
  s2 : s.tm 2 = .ptr (79002, 0) 0 0
  o2 : s.ob (79002, 0) = some (.var (emptyA 0))
  s12 : s.tm 12 = .ptr (79012, 0) 0 0
  o12 : s.ob (79012, 0) = some (.var [.row (70102, 0) 1 0 (i + 1), .row (70103, 0) 1 0 (i + 1), .t (.v (.slice none 0 0)), .t (.v (.slice none 0 0)), .t (.v (.slice none 0 0))])
  r1 : s.ob (70102, 0) = some (.row 1 (intRow (tabI (parW ws) (i + 1))))
  r2 : s.ob (70103, 0) = some (.row 1 (intRow (tabI (lastW ws) (i + 1))))
  s13 : s.tm 13 = .row (79013, 0) 1 0 (qs us ws (i + 1)).length
  o13 : s.ob (79013, 0) = some (.big 1 (ptrRow (qs us ws (i + 1))))
  s14 : s.tm 14 = .t (.v (.int .i64 i))
  nd : Nodes us en mu (nmF us ws (i + 1)) s
  q : Keep F0b st0 s
theorem qs_succ (us ws : List (List Int)) (i : Nat) : qs us ws (i + 1) = qs us ws i ++ (kidW ws (gw ws i)).map (ix us) := by
  unfold qs
  show (bfs ws i ++ kidW ws (ws.getD i [])).map _ = _
  rw [List.map_append]
  rfl
set_option maxHeartbeats 0 in
theorem kids_l4 {us ws : List (List Int)} {en : List Int → Bool} {mu : List Int → Int} {i : Nat} {st0 s : St} (hW : WQ us ws) (hc : st0.Calm F0b F0b) (h : SK us ws en mu i 0 st0 s) (hi : i < ws.length) {Q : Ex → St → Prop}
    (hE : ∀ s', SE us ws en mu i st0 s' → Q (.exit 8) s') : wp2 Try.prog (.loop k32_l4) Q s := by
  have lw := hW.len
  have hm := hW.sub (gw_mem hi)
  obtain ⟨x1, x2⟩ := ix_lt hm
  have ql := (hW.qlen (i := i + 1) (by omega)).1
  have qe := qs_succ us ws i
  have qel : (qs us ws (i + 1)).length = (qs us ws i).length + (kidW ws (gw ws i)).length := by rw [qe, List.length_append, List.length_map]
  have hkid : ∀ j, (hj : j < (kidW ws (gw ws i)).length) → mget (kidM us (gw us (ix us (gw ws i)))) (.i (lastL (kidW ws (gw ws i))[j])) = some (.ptr (70100, ix us (kidW ws (gw ws i))[j]) 0 0) ∧ 0 ≤ lastL (kidW ws (gw ws i))[j] ∧ lastL (kidW ws (gw ws i))[j] < 4000 := by
    intro j hj
    obtain ⟨g1, g2, g3⟩ := mem_kidW.1 (List.getElem_mem hj)
    have e := snoc_lastL g2
    rw [g3] at e
    rw [x2, mget_kidM hW.same.1, ← e, if_pos (hW.sub g1)]
    have ek := hW.each _ g1
    have hl : (kidW ws (gw ws i))[j].length ≠ 0 := fun h0 => g2 (List.eq_nil_of_length_eq_zero h0)
    have := ek ((kidW ws (gw ws i))[j].length - 1) (by omega)
    rw [rd_getD] at this
    exact ⟨rfl, this⟩
  generalize hk : kidW ws (gw ws i) = ks at *
  refine wp2_loop (fun n s => ∃ j, SK us ws en mu i j st0 s ∧ j ≤ ks.length ∧ n = ks.length - j) ks.length ?_ ?_
  · exact ⟨0, h, by omega, rfl⟩
  · rintro n s ⟨j, h, hj, rfl⟩ K hK
    obtain ⟨s2, o2, s12, o12, r1, r2, s13, o13, s14, s15, s158, o158, s159, s160, nd, q⟩ := h
    rw [hk] at s158 o158 s159 o13
    obtain ⟨n1, n2⟩ := nd _ x1
    unfold k32_l4
    by_cases hlt : j < ks.length
    · have hne : ks ≠ [] := fun e => by rw [e] at hlt; simp at hlt
      have s158 := s158 hne
      have o158 := o158 hne
      obtain ⟨k1, k2, k3⟩ := hkid j hlt
      have er : rd (ks.map lastL) j = lastL ks[j] := by
        rw [rd_getD, List.getD_eq_getElem?_getD, List.getElem?_map, List.getElem?_eq_getElem hlt]
        rfl
      rw [← er] at k1 k2 k3
      have et : qs us ws i ++ (ks.take j).map (ix us) ++ [ix us ks[j]] = qs us ws i ++ (ks.take (j + 1)).map (ix us) := by
        rw [List.append_assoc, List.take_add_one, List.map_append, List.getElem?_eq_getElem hlt]
        rfl
      have el : (qs us ws i ++ (ks.take j).map (ix us)).length = (qs us ws i).length + j := by
        rw [List.length_append, List.length_map, List.length_take]
        omega
      have hb : ((qs us ws i).length + j + 1) * 8 ≤ 140737488355328 := by omega
      have kl : (ks.map lastL).length = ks.length := List.length_map ..
      generalize hQ : qs us ws i ++ (ks.take j).map (ix us) = Qs at *
      generalize hp : ix us (gw ws i) = p at *
      generalize ix us ks[j] = c at *
      repeat' (first
       | refine wp2_seq fun K hK => ?_
       | refine M_cons fun K hK => ?_
       | (refine hK _ ?_; clear hK K)
       | (refine hX _ ?_; clear hX hY X Y)
       | refine wp2_block ?_
       | refine wp2_canon (ops := ⟨some 173, _, _⟩ :: _) [(13, 79013)] ?_
       | refine wp2_region ?_
       | refine wp2_cond fun X Y hX hY => ?_
       | (refine condK_of (fun c => ?_) (fun c => ?_) <;> (try simp [-List.length_eq_zero_iff] at c))
       | simp (maxSteps := 4000000) (disch := omega) [s2, o2, s12, o12, r1, r2, s13, o13, s14, s15, s158, o158, s159, s160, n1, n2, hlt, k1, kl, el, hb, ptrRow_app, elemsB, elemsA, appendB, windowB, TI.fine, lim, litB])
      all_goals first | omega | skip
      refine hK (ks.length - (j + 1)) _ (by omega) ⟨j + 1, ⟨by simp [s2], by simp [o2, emptyA], by simp [s12], by simp [o12], by simp [r1], by simp [r2], by simp [Nat.add_assoc], by rw [hk, ← et]; simp, by simp [s14], by simp [s15, hp], fun _ => by simp [s158, hk], fun _ => by simp [o158, hk], by simp [s159, hk], by simp, fun k hk' => by simp [(nd k hk').1, (nd k hk').2], by (repeat' first | exact q | exact q _ | refine Keep.put ?_ _ _ | refine Keep.setOb ?_ (by first | rfl | simp) _ | refine Keep.kill hc ?_ (by first | rfl | simp) | refine Keep.ren hc ?_ (by first | rfl | simp) | refine Keep.ren1 hc ?_ (by first | rfl | simp) | refine Keep.kill1 hc ?_ (by first | rfl | simp))⟩, by omega, rfl⟩
    · obtain rfl : j = ks.length := by omega
      have ef : qs us ws i ++ (ks.take ks.length).map (ix us) = qs us ws (i + 1) := by rw [List.take_length, qe]
      rw [ef] at o13
      rw [← qel] at s13
      generalize hq : qs us ws (i + 1) = Qs at *
      have hE2 := hE
      repeat' (first
       | refine wp2_seq fun K hK => ?_
       | refine M_cons fun K hK => ?_
       | (refine hK _ ?_; clear hK K)
       | (refine hY _ ?_; clear hX hY X Y)
       | refine wp2_region ?_
       | refine wp2_cond fun X Y hX hY => ?_
       | (refine condK_of (fun c => ?_) (fun c => ?_) <;> (try simp [-List.length_eq_zero_iff] at c))
       | simp (maxSteps := 4000000) (disch := omega) [s159, s160, s13, o13])
      all_goals first | omega | skip
      refine hE2 _ ⟨by simp [s2], by simp [o2, emptyA], by simp [s12], by simp [o12], by simp [r1], by simp [r2], by simp [s13, hq], by simp [o13, hq], by simp [s14], fun k hk' => by simp [(nd k hk').1, (nd k hk').2], by (repeat' first | exact q | exact q _ | refine Keep.put ?_ _ _ | refine Keep.setOb ?_ (by first | rfl | simp) _ | refine Keep.kill hc ?_ (by first | rfl | simp) | refine Keep.ren hc ?_ (by first | rfl | simp) | refine Keep.ren1 hc ?_ (by first | rfl | simp) | refine Keep.kill1 hc ?_ (by first | rfl | simp))⟩
theorem ptr_nil_kids {us : List (List Int)} (hn : us.Nodup) {ws : List (List Int)} (hs : SameW us ws) (hr : Short.Rising ws) {w : List Int} (h : kidM us w = []) : kidW ws w = [] := by
  have := sort_keys hs hr (w := w) (es := []) (by
    have e := kidM_keys us w
    rw [h] at e
    have e2 : ((kidN us w).map (·.1)) = [] := by
      cases hk : (kidN us w).map (·.1) with
      | nil => rfl
      | cons a l => rw [hk] at e; simp at e
    rw [e2])
  have e3 : (kidW ws w).map lastL = [] := by rw [← this]; simp
  simpa using e3
set_option maxHeartbeats 0 in
theorem queue_2 {us ws : List (List Int)} {en : List Int → Bool} {mu : List Int → Int} {i : Nat} {st0 s : St} (hW : WQ us ws) (hc : st0.Calm F0b F0b) (h : SM us ws en mu i st0 s) (h17 : s.tm 17 = .t (.v (.slice none 0 0))) (hi : i < ws.length) {Q : Ex → St → Prop}
    (hE : ∀ s', SE us ws en mu i st0 s' → Q .normal s') : wp2 Try.prog kTail Q s := by
  have hm := hW.sub (gw_mem hi)
  obtain ⟨x1, x2⟩ := ix_lt hm
  have lu := hW.same.len hW.rise
  have lw := hW.len
  have hkl := kidM_len us (gw us (ix us (gw ws i)))
  rw [kTail_eq]
  refine wp2_seq fun K hK => ?_
  rw [kRange_eq]
  obtain ⟨n1, n2⟩ := h.nd _ x1
  refine rangeK (i := ix us (gw ws i)) h.s15 n1 n2 h17 (by omega) (fun hz s' a e17 => ?_) (fun ks hne hp s' a e17 o17 => ?_)
  · have h' := h.aft hc a
    rw [x2] at hz
    have hkz := ptr_nil_kids hW.same.1 hW.same hW.rise hz
    show K s'
    refine hK _ ?_
    clear h n1 n2 h17 a hK
    obtain ⟨s2, o2, s12, o12, r1, r2, s13, o13, s14, s15, nd, q⟩ := h'
    repeat' (first
     | refine wp2_seq fun K hK => ?_
     | refine M_cons fun K hK => ?_
     | (refine hK _ ?_; clear hK K)
     | refine wp2_block ?_
     | refine wp2_region ?_
     | (refine callT_fl (sort_nil_c) (by simp [St.args, St.arg, e17] <;> first | rfl | ((repeat' first | rfl | apply And.intro); first | done | fail)) ?_)
     | simp (maxSteps := 4000000) (disch := omega) [e17])
    all_goals first | omega | skip
    refine kids_l4 hW hc ?_ hi (fun s' h' => by simpa using hE s' h')
    exact ⟨by simp [s2], by simp [o2, emptyA], by simp [s12], by simp [o12], by simp [r1], by simp [r2], by simp [s13], by simp [o13], by simp [s14], by simp [s15], fun hx => absurd hkz hx, fun hx => absurd hkz hx, by simp [hkz], by simp, fun k hk' => by simp [(nd k hk').1, (nd k hk').2], by (repeat' first | exact q | exact q _ | refine Keep.put ?_ _ _ | refine Keep.setOb ?_ (by first | rfl | simp) _ | refine Keep.kill hc ?_ (by first | rfl | simp) | refine Keep.ren hc ?_ (by first | rfl | simp) | refine Keep.ren1 hc ?_ (by first | rfl | simp) | refine Keep.kill1 hc ?_ (by first | rfl | simp))⟩
  · have h' := h.aft hc a
    rw [x2] at hp
    have hsort : sortI ks = (kidW ws (gw ws i)).map lastL := by
      refine sort_keys hW.same hW.rise (w := gw ws i) ?_
      rw [kidM_keys] at hp
      have := hp.map (fun k : MK => match k with | .i n => n | _ => 0)
      simp only [List.map_map] at this
      have idm : ∀ l : List Int, l.map ((fun k : MK => match k with | .i n => n | _ => 0) ∘ MK.i) = l := fun l => by
        induction l with
        | nil => rfl
        | cons a l ih => simp [ih]
      rw [idm] at this
      have e2 : ((kidN us (gw ws i)).map (((fun k : MK => match k with | .i n => n | _ => 0) ∘ MK.i) ∘ fun x => x.fst)) = (kidN us (gw ws i)).map (·.1) := rfl
      first | exact this | (rw [← List.map_map, idm] at this; exact this)
    have hkl2 : ks.length = (kidW ws (gw ws i)).length := by rw [← sortI_len ks, hsort, List.length_map]
    have hks : ks.length ≤ 1000000 := by
      have := hp.length_eq
      rw [List.length_map, List.length_map] at this
      rw [x2] at hkl
      omega
    show K s'
    refine hK _ ?_
    clear h n1 n2 h17 a hK
    unfold idK at e17 o17
    obtain ⟨s2, o2, s12, o12, r1, r2, s13, o13, s14, s15, nd, q⟩ := h'
    have gs := sort_c ks hks
    repeat' (first
     | refine wp2_seq fun K hK => ?_
     | refine M_cons fun K hK => ?_
     | (refine hK _ ?_; clear hK K)
     | refine wp2_block ?_
     | refine wp2_region ?_
     | (refine callT_gen true (gs) (fun _ => ⟨(by first | (simp [RV.flat, RV.flats, T.flat]; done) | ((repeat' first | exact flat_intRow _ | exact flat_boolRow _ | exact flat_byteR _ | exact trivial | constructor | unfold RV.flat | unfold RV.flats); first | done | fail)), (by (repeat' first | exact flat_intRow _ | exact flat_boolRow _ | exact flat_byteR _ | exact trivial | constructor | unfold Arg.flats | unfold Arg.flat); first | done | fail)⟩) (by simp [St.args, St.arg, e17, o17] <;> first | rfl | ((repeat' first | rfl | apply And.intro); first | done | fail)) (by simp [apartArgs, mutsOf, noRow, valsOf]) (by simp) ?_)
     | simp (maxSteps := 4000000) (disch := omega) [e17, o17])
    all_goals first | omega | skip
    refine kids_l4 hW hc ?_ hi (fun s' h' => by simpa using hE s' h')
    exact ⟨by simp [s2], by simp [o2, emptyA], by simp [s12], by simp [o12], by simp [r1], by simp [r2], by simp [s13], by simp [o13], by simp [s14], by simp [s15], fun hx => by simp [hkl2], fun hx => by simp [hsort], by simp [hkl2], by simp, fun k hk' => by simp [(nd k hk').1, (nd k hk').2], by (repeat' first | exact q | exact q _ | refine Keep.put ?_ _ _ | refine Keep.setOb ?_ (by first | rfl | simp) _ | refine Keep.kill hc ?_ (by first | rfl | simp) | refine Keep.ren hc ?_ (by first | rfl | simp) | refine Keep.ren1 hc ?_ (by first | rfl | simp) | refine Keep.kill1 hc ?_ (by first | rfl | simp))⟩
end Cal

/- impl.BuildAuto: the search in breadth: a round. -/
set_option linter.unusedSimpArgs false
set_option linter.unusedVariables false
namespace Cal
open Go Go.Proofs Auto AC
set_option maxRecDepth 100000
set_option maxHeartbeats 0 in
theorem queue_l2 {us ws : List (List Int)} {en : List Int → Bool} {mu : List Int → Int} {i : Nat} {st0 s : St} (hW : WQ us ws) (hc : st0.Calm F0b F0b) (h : SQ us ws en mu i st0 s) (hi : i ≤ ws.length) {K : St → Prop} {Q : Ex → St → Prop}
    (hK' : i < ws.length → ∀ s', SQ us ws en mu (i + 1) st0 s' → K s') (hE : i = ws.length → ∀ s', SQ us ws en mu i st0 s' → Q (.exit 4) s') : wp2 Try.prog k32_l2 (thenQ K Q) s := by
  rw [l2_eq]
  unfold k32_l2r
  have lw := hW.len
  obtain ⟨ql, qi⟩ := hW.qlen (i := i) (by omega)
  by_cases hlt : i < ws.length
  · have hK' := hK' hlt
    clear hE
    have qi := qi hlt
    have gq := ptrRow_get _ (hW.qget (i := i) (k := i) (by omega) qi)
    have hm := hW.sub (gw_mem hlt)
    obtain ⟨x1, x2⟩ := ix_lt hm
    have hlast := hW.last hlt x2
    have e1 := tabI_succ (parW ws) i
    have e2 := tabI_succ (lastW ws) i
    have back : ∀ s', SE us ws en mu i st0 s' → wp2 Try.prog (.region [] false ([]) [⟨some 106, Op.move (Operand.tmp 14), none⟩, ⟨some 107, Op.binOp BinOp.add 3 (Operand.tmp 106) (Operand.const (Value.int IntKind.i64 1)) 3, none⟩, ⟨some 14, Op.assign (Operand.tmp 107), none⟩]) (thenQ K Q) s' := by
      intro s' h'
      obtain ⟨s2, o2, s12, o12, r1, r2, s13, o13, s14, nd, q⟩ := h'
      repeat' (first
       | refine M_cons fun K hK => ?_
       | (refine hK _ ?_; clear hK K)
       | refine wp2_region ?_
       | simp (maxSteps := 4000000) (disch := omega) [s14])
      all_goals first | omega | skip
      refine hK' _ ⟨by simp [s2], by simp [o2, emptyA], by simp [s12], by simp [o12, rvQ], fun _ => by simp [r1], fun _ => by simp [r2], by simp [s13], by simp [o13], by simp, fun k hk' => by simp [(nd k hk').1, (nd k hk').2], by (repeat' first | exact q | exact q _ | refine Keep.put ?_ _ _ | refine Keep.setOb ?_ (by first | rfl | simp) _ | refine Keep.kill hc ?_ (by first | rfl | simp) | refine Keep.ren hc ?_ (by first | rfl | simp) | refine Keep.ren1 hc ?_ (by first | rfl | simp) | refine Keep.kill1 hc ?_ (by first | rfl | simp))⟩
    obtain ⟨s2, o2, s12, o12, r1, r2, s13, o13, s14, nd, q⟩ := h
    obtain ⟨n1, n2⟩ := nd _ x1
    have hnum : ∀ s', s'.ob (70100, ix us (gw ws i)) = some (.var (nodeV us en mu i (ix us (gw ws i)))) → (∀ j, j < us.length → j ≠ ix us (gw ws i) → s'.ob (70100, j) = s.ob (70100, j)) → (∀ j, j < us.length → s'.ob (70101, j) = s.ob (70101, j)) → Nodes us en mu (nmF us ws (i + 1)) s' := fun s' => nodes_num hW hlt x1 x2 nd
    clear hK'
    by_cases h0 : i = 0
    · have hz : gw us (ix us (gw ws i)) = [] := by rw [x2]; exact (hW.first hlt).2 h0
      have hu : upV us (ix us (gw ws i)) = .t (.v (.pointer none)) := by unfold upV; rw [if_pos hz]
      rw [hW.par0 hlt h0] at e1
      have z : ∀ f, tabI f i = [] := fun f => by rw [h0]; rfl
      rw [z, List.nil_append] at e1 e2
      simp only [rvQ, if_pos h0] at o12
      generalize hQ : qs us ws i = Qs at *
      generalize hp : ix us (gw ws i) = p at *
      repeat' (first
       | refine wp2_seq fun K hK => ?_
       | refine M_cons fun K hK => ?_
       | (refine hK _ ?_; clear hK K)
       | (refine hX _ ?_; clear hX hY X Y)
       | (refine hY _ ?_; clear hX hY X Y)
       | refine wp2_block ?_
       | refine wp2_canon (ops := ⟨some 134, _, _⟩ :: _) [(132, 70102)] ?_
       | refine wp2_canon (ops := ⟨some 17, _, _⟩ :: _) [(141, 70103)] ?_
       | refine wp2_region ?_
       | refine wp2_cond fun X Y hX hY => ?_
       | (refine condK_of (fun c => ?_) (fun c => ?_) <;> (try simp [-List.length_eq_zero_iff] at c))
       | simp (maxSteps := 4000000) (disch := omega) [s2, o2, s12, o12, s13, o13, s14, n1, n2, hu, gq, qi, hlast])
      all_goals first | omega | skip
      have hK2 : ∀ s', SE us ws en mu i st0 s' → K s' := fun s' h' => hK _ (back s' h')
      clear hK
      refine queue_2 hW hc (i := i) ⟨by simp [s2], by simp [o2, emptyA], by simp [s12], by simp [h0], by simp [← e1], by simp [← e2], by simp [s13, hQ], by simp [o13, hQ], by simp [s14], by simp [hp], ?_, by (repeat' first | exact q | exact q _ | refine Keep.put ?_ _ _ | refine Keep.setOb ?_ (by first | rfl | simp) _ | refine Keep.kill hc ?_ (by first | rfl | simp) | refine Keep.ren hc ?_ (by first | rfl | simp) | refine Keep.ren1 hc ?_ (by first | rfl | simp) | refine Keep.kill1 hc ?_ (by first | rfl | simp))⟩ (by simp) hlt (fun s' h' => by simpa using hK2 s' h')
      refine hnum _ (by simp) (fun j hj hne => ?_) (fun j hj => ?_)
      · simp [hne, (nd j hj).1]
      · simp [(nd j hj).2]
    · have hz : gw us (ix us (gw ws i)) ≠ [] := by rw [x2]; exact fun e => h0 ((hW.first hlt).1 e)
      have hu : upV us (ix us (gw ws i)) = .ptr (70100, ix us (parR (gw ws i))) 0 0 := by unfold upV; rw [if_neg hz, x2]
      obtain ⟨p1, p2⟩ := hW.par hlt h0
      have hpm : parR (gw ws i) ∈ us := hW.sub (hW.pc.2 _ (gw_mem hlt))
      obtain ⟨y1, y2⟩ := ix_lt hpm
      obtain ⟨m1, m2⟩ := nd _ y1
      have hnm : nmF us ws i (ix us (parR (gw ws i))) = parW ws i := by
        unfold nmF
        rw [y2, if_pos p2, p1]
      rw [hnm] at m1
      have hne : ¬ ix us (parR (gw ws i)) = ix us (gw ws i) := by
        intro e
        have : parR (gw ws i) = gw ws i := by rw [← y2, e, x2]
        have hl := congrArg List.length this
        unfold parR at hl
        rw [List.length_take] at hl
        rw [x2] at hz
        have : (gw ws i).length ≠ 0 := fun e => hz (List.eq_nil_of_length_eq_zero e)
        omega
      have r1 := r1 h0
      have r2 := r2 h0
      simp only [rvQ, if_neg h0] at o12
      have q1 := tabI_len (parW ws) i
      have q2 := tabI_len (lastW ws) i
      generalize hQ : qs us ws i = Qs at *
      generalize hp : ix us (gw ws i) = p at *
      generalize ix us (parR (gw ws i)) = pp at *
      repeat' (first
       | refine wp2_seq fun K hK => ?_
       | refine M_cons fun K hK => ?_
       | (refine hK _ ?_; clear hK K)
       | (refine hX _ ?_; clear hX hY X Y)
       | refine wp2_block ?_
       | refine wp2_canon (ops := ⟨some 134, _, _⟩ :: _) [(132, 70102)] ?_
       | refine wp2_canon (ops := ⟨some 17, _, _⟩ :: _) [(141, 70103)] ?_
       | refine wp2_region ?_
       | refine wp2_cond fun X Y hX hY => ?_
       | (refine condK_of (fun c => ?_) (fun c => ?_) <;> (try simp [-List.length_eq_zero_iff] at c))
       | simp (maxSteps := 4000000) (disch := omega) [s2, o2, s12, o12, r1, r2, s13, o13, s14, n1, n2, m1, m2, hne, hu, gq, qi, hlast])
      all_goals first | omega | skip
      have hK2 : ∀ s', SE us ws en mu i st0 s' → K s' := fun s' h' => hK _ (back s' h')
      clear hK
      refine queue_2 hW hc (i := i) ⟨by simp [s2], by simp [o2, emptyA], by simp [s12], by simp, by simp [← e1], by simp [← e2], by simp [s13, hQ], by simp [o13, hQ], by simp [s14], by simp [hp], ?_, by (repeat' first | exact q | exact q _ | refine Keep.put ?_ _ _ | refine Keep.setOb ?_ (by first | rfl | simp) _ | refine Keep.kill hc ?_ (by first | rfl | simp) | refine Keep.ren hc ?_ (by first | rfl | simp) | refine Keep.ren1 hc ?_ (by first | rfl | simp) | refine Keep.kill1 hc ?_ (by first | rfl | simp))⟩ (by simp) hlt (fun s' h' => by simpa using hK2 s' h')
      refine hnum _ (by simp) (fun j hj hne' => ?_) (fun j hj => ?_)
      · simp [hne', (nd j hj).1]
      · simp [(nd j hj).2]
  · obtain rfl : i = ws.length := by omega
    have qe : (qs us ws ws.length).length = ws.length := by rw [hW.qend, List.length_map]
    have hE := hE rfl
    obtain ⟨s2, o2, s12, o12, r1, r2, s13, o13, s14, nd, q⟩ := h
    rw [qe] at s13
    have key : (qs us ws ws.length).length = ws.length := qe
    repeat' (first
     | refine wp2_seq fun K hK => ?_
     | refine M_cons fun K hK => ?_
     | (refine hK _ ?_; clear hK K)
     | (refine hY _ ?_; clear hX hY X Y)
     | refine wp2_region ?_
     | refine wp2_cond fun X Y hX hY => ?_
     | (refine condK_of (fun c => ?_) (fun c => ?_) <;> (try simp [-List.length_eq_zero_iff] at c))
     | simp (maxSteps := 4000000) (disch := omega) [s13, s14])
    all_goals first | omega | skip
    refine hE _ ⟨by simp [s2], by simp [o2, emptyA], by simp [s12], by simp [o12], fun hx => by simp [r1 hx], fun hx => by simp [r2 hx], by simp [s13, qe], by simp [o13], by simp [s14], fun k hk' => by simp [(nd k hk').1, (nd k hk').2], by (repeat' first | exact q | exact q _ | refine Keep.put ?_ _ _ | refine Keep.setOb ?_ (by first | rfl | simp) _ | refine Keep.kill hc ?_ (by first | rfl | simp) | refine Keep.ren hc ?_ (by first | rfl | simp) | refine Keep.ren1 hc ?_ (by first | rfl | simp) | refine Keep.kill1 hc ?_ (by first | rfl | simp))⟩
end Cal

/- impl.BuildAuto: what is forced and what is forbidden, state by state. -/
set_option linter.unusedSimpArgs false
set_option linter.unusedVariables false
namespace Cal
open Go Go.Proofs Auto AC
set_option maxRecDepth 100000
/-- The failure link of a state. -/
theorem WQ.fail {us ws : List (List Int)} (h : WQ us ws) {i : Nat} (hi : i < ws.length) (h0 : i ≠ 0) : ∃ f : Nat, failW ws i = f ∧ f < i ∧ wd ws f = linkW ws (gw ws i) := by
  obtain ⟨f, e1, e2, e3⟩ := words_fails h.rise h.pc i (by omega) hi
  rw [tabI_get _ hi] at e1
  exact ⟨f, e1, e2, by rw [wd_getD, e3]; rfl⟩
theorem WQ.bad {us ws : List (List Int)} {rs : List Ru} (h : WQ us ws) (hh : Has ws rs) {i : Nat} (hi : i < ws.length) : (i = 0 → badW rs ws i = enR rs rs.length (gw ws i)) ∧ ∀ f : Nat, i ≠ 0 → wd ws f = linkW ws (gw ws i) → badW rs ws i = (enR rs rs.length (gw ws i) || badW rs ws f) := by
  constructor
  · intro h0
    have hw := (h.first hi).2 h0
    unfold badW enR
    rw [wd_gw, hw, bad_nil, List.take_length]
  · intro f h0 hf
    have hw : gw ws i ≠ [] := fun e => h0 ((h.first hi).1 e)
    unfold badW enR
    rw [wd_gw, bad_link hh hw, hf, List.take_length]
theorem WQ.must {us ws : List (List Int)} {rs : List Ru} (h : WQ us ws) (hh : Has ws rs) (hp : ∀ r ∈ rs, 0 ≤ lastR r) {i : Nat} (hi : i < ws.length) : (i = 0 → mustW rs ws i = muR rs rs.length (gw ws i)) ∧ ∀ f : Nat, i ≠ 0 → wd ws f = linkW ws (gw ws i) → mustW rs ws i = bothI (muR rs rs.length (gw ws i)) (mustW rs ws f) := by
  constructor
  · intro h0
    have hw := (h.first hi).2 h0
    unfold mustW muR
    rw [wd_gw, hw, must_nil hp, List.take_length]
  · intro f h0 hf
    have hw : gw ws i ≠ [] := fun e => h0 ((h.first hi).1 e)
    unfold mustW muR
    rw [wd_gw, must_link hp hh hw, hf, List.take_length]
@[simp] theorem nodeV_t1' (us : List (List Int)) (en : List Int → Bool) (mu : List Int → Int) (nm : Int) (i : Nat) : (nodeV us en mu nm i).tail.take 1 = [.t (.v (.bool (en (gw us i))))] := rfl
/-- In the last loop. -/
structure SV (rs : List Ru) (us ws : List (List Int)) (nm : Nat → Int) (i : Nat) (s : St) : Prop where
  s2 : s.tm 2 = .ptr (79002, 0) 0 0
  o2 : s.ob (79002, 0) = some (.var (emptyA 0))
  s12 : s.tm 12 = .ptr (79012, 0) 0 0
  o12 : s.ob (79012, 0) = some (.var [.row (70102, 0) 1 0 ws.length, .row (70103, 0) 1 0 ws.length, .row (70104, 0) 1 0 ws.length, rvQ 70105 i, rvQ 70106 i])
  r1 : s.ob (70102, 0) = some (.row 1 (intRow (tabI (parW ws) ws.length)))
  r2 : s.ob (70103, 0) = some (.row 1 (intRow (tabI (lastW ws) ws.length)))
  r3 : s.ob (70104, 0) = some (.row 1 (intRow (tabI (failW ws) ws.length)))
  r4 : i ≠ 0 → s.ob (70105, 0) = some (.row 1 (intRow (tabI (mustW rs ws) i)))
  r5 : i ≠ 0 → s.ob (70106, 0) = some (.row 1 (boolRow (tabB (badW rs ws) i)))
  s180 : s.tm 180 = .row (79013, 0) 1 0 ws.length
  o13 : s.ob (79013, 0) = some (.big 1 (ptrRow (ws.map (ix us))))
  s181 : s.tm 181 = .t (.v (.int .i64 ws.length))
  s182 : s.tm 182 = .t (.v (.int .i64 i))
  nd : Nodes us (enR rs rs.length) (muR rs rs.length) nm s
set_option maxHeartbeats 0 in
theorem marks_l5 {rs : List Ru} {us ws : List (List Int)} {nm : Nat → Int} {i : Nat} {s : St} (hW : WQ us ws) (hh : Has ws rs) (hp : ∀ r ∈ rs, 0 ≤ lastR r) (h : SV rs us ws nm i s) (hi : i ≤ ws.length) {K : St → Prop} {Q : Ex → St → Prop}
    (hK' : i < ws.length → ∀ s', SV rs us ws nm (i + 1) s' → K s') (hE : i = ws.length → ∀ s', SV rs us ws nm i s' → Q (.exit 10) s') : wp2 Try.prog k32_l5 (thenQ K Q) s := by
  have lw := hW.len
  have w1 : IntKind.i64.wrap 1 = 1 := by decide
  unfold k32_l5
  by_cases hlt : i < ws.length
  · have hK' := hK' hlt
    clear hE
    have hm := hW.sub (gw_mem hlt)
    obtain ⟨x1, x2⟩ := ix_lt hm
    have gq : (ptrRow (ws.map (ix us)))[i]? = some [.ptr (70100, ix us (gw ws i)) 0 0] := ptrRow_get _ (by rw [List.getElem?_map, List.getElem?_eq_getElem hlt, gw_get hlt]; rfl)
    have e4 := tabI_succ (mustW rs ws) i
    have e5 := tabB_succ (badW rs ws) i
    have q3 := tabI_len (failW ws) ws.length
    obtain ⟨s2, o2, s12, o12, r1, r2, r3, r4, r5, s180, o13, s181, s182, nd⟩ := h
    obtain ⟨n1, n2⟩ := nd _ x1
    have hb := hW.bad hh hlt
    have hmu := hW.must hh hp hlt
    generalize hpp : ix us (gw ws i) = p at *
    rw [← x2] at hb hmu
    by_cases h0 : i = 0
    · have hb := hb.1 h0
      have hmu := hmu.1 h0
      have z : ∀ f, tabI f i = [] := fun f => by rw [h0]; rfl
      have zb : ∀ f, tabB f i = [] := fun f => by rw [h0]; rfl
      rw [z, List.nil_append] at e4
      rw [zb, List.nil_append] at e5
      simp only [rvQ, if_pos h0] at o12
      rw [hmu] at e4
      rw [hb] at e5
      subst h0
      repeat' (first
       | refine wp2_seq fun K hK => ?_
       | refine M_cons fun K hK => ?_
       | (refine hK _ ?_; clear hK K)
       | (refine hX _ ?_; clear hX hY X Y)
       | (refine hY _ ?_; clear hX hY X Y)
       | refine wp2_block ?_
       | refine wp2_canon (ops := ⟨some 223, _, _⟩ :: _) [(221, 70106)] ?_
       | refine wp2_canon (ops := ⟨some 229, _, _⟩ :: _) [(227, 70105)] ?_
       | refine wp2_region ?_
       | refine wp2_cond fun X Y hX hY => ?_
       | (refine condK_of (fun c => ?_) (fun c => ?_) <;> (try simp [-List.length_eq_zero_iff] at c))
       | simp (maxSteps := 4000000) (disch := omega) [s2, o2, s12, o12, r1, r2, r3, s180, o13, s181, s182, n1, n2, gq, hlt])
      all_goals first | omega | skip
      refine hK' _ ⟨by simp [s2], by simp [o2, emptyA], by simp [s12], by simp [rvQ], by simp [r1], by simp [r2], by simp [r3], fun _ => by simp [← e4], fun _ => by simp [← e5], by simp [s180], by simp [o13], by simp [s181], by simp [w1], fun k hk' => by simp [(nd k hk').1, (nd k hk').2]⟩
    · obtain ⟨f, g1, g2, g3⟩ := hW.fail hlt h0
      rw [← x2] at g3
      have hb := hb.2 f h0 g3
      have hmu := hmu.2 f h0 g3
      have r4 := r4 h0
      have r5 := r5 h0
      have q4 := tabI_len (mustW rs ws) i
      have q5 := tabB_len (badW rs ws) i
      simp only [rvQ, if_neg h0] at o12
      have rf : rd (tabI (failW ws) ws.length) i = f := by rw [rd_getD, tabI_get _ hlt, g1]
      have rm : rd (tabI (mustW rs ws) i) f = mustW rs ws f := by rw [rd_getD, tabI_get _ g2]
      have rb : (tabB (badW rs ws) i)[f]? = some (badW rs ws f) := by
        unfold tabB
        rw [List.getElem?_map, List.getElem?_range g2]
        rfl
      have rb2 : (boolRow (tabB (badW rs ws) i))[f]? = some [.v (.bool (badW rs ws f))] := by
        unfold boolRow
        rw [List.getElem?_map, rb]
        rfl
      have gb := both_c (muR rs rs.length (gw us p)) (mustW rs ws f)
      rw [hmu] at e4
      rw [hb] at e5
      have hpos : (0 : Int) < i := by omega
      have hip : 0 < i := by omega
      cases hbe : enR rs rs.length (gw us p) with
      | true =>
        rw [hbe] at e5
        simp only [Bool.true_or] at e5
        repeat' (first
         | refine wp2_seq fun K hK => ?_
         | refine M_cons fun K hK => ?_
         | (refine hK _ ?_; clear hK K)
         | (refine hX _ ?_; clear hX hY X Y)
         | refine wp2_block ?_
         | refine wp2_canon (ops := ⟨some 223, _, _⟩ :: _) [(221, 70106)] ?_
         | refine wp2_canon (ops := ⟨some 229, _, _⟩ :: _) [(227, 70105)] ?_
         | refine wp2_region ?_
         | refine wp2_cond fun X Y hX hY => ?_
         | (refine condK_of (fun c => ?_) (fun c => ?_) <;> (try simp [-List.length_eq_zero_iff] at c))
         | (refine callT_fl (gb) (by simp [St.args, St.arg, s2, o2, s12, o12, r1, r2, r3, r4, r5, s180, o13, s181, s182, n1, n2, gq, hlt, hip, hbe, rf, rm, rb2, g2] <;> first | rfl | ((repeat' first | rfl | apply And.intro); first | done | fail)) ?_)
         | simp (maxSteps := 4000000) (disch := omega) [s2, o2, s12, o12, r1, r2, r3, r4, r5, s180, o13, s181, s182, n1, n2, gq, hlt, hip, hbe, rf, rm, rb2, g2])
        all_goals first | omega | skip
        refine hK' _ ⟨by simp [s2], by simp [o2, emptyA], by simp [s12], by simp [rvQ], by simp [r1], by simp [r2], by simp [r3], fun _ => by simp [← e4], fun _ => by simp [← e5], by simp [s180], by simp [o13], by simp [s181], by simp, fun k hk' => by simp [(nd k hk').1, (nd k hk').2]⟩
      | false =>
        rw [hbe] at e5
        simp only [Bool.false_or] at e5
        repeat' (first
         | refine wp2_seq fun K hK => ?_
         | refine M_cons fun K hK => ?_
         | (refine hK _ ?_; clear hK K)
         | (refine hX _ ?_; clear hX hY X Y)
         | refine wp2_block ?_
         | refine wp2_canon (ops := ⟨some 223, _, _⟩ :: _) [(221, 70106)] ?_
         | refine wp2_canon (ops := ⟨some 229, _, _⟩ :: _) [(227, 70105)] ?_
         | refine wp2_region ?_
         | refine wp2_cond fun X Y hX hY => ?_
         | (refine condK_of (fun c => ?_) (fun c => ?_) <;> (try simp [-List.length_eq_zero_iff] at c))
         | (refine callT_fl (gb) (by simp [St.args, St.arg, s2, o2, s12, o12, r1, r2, r3, r4, r5, s180, o13, s181, s182, n1, n2, gq, hlt, hip, hbe, rf, rm, rb2, g2] <;> first | rfl | ((repeat' first | rfl | apply And.intro); first | done | fail)) ?_)
         | simp (maxSteps := 4000000) (disch := omega) [s2, o2, s12, o12, r1, r2, r3, r4, r5, s180, o13, s181, s182, n1, n2, gq, hlt, hip, hbe, rf, rm, rb2, g2])
        all_goals first | omega | skip
        refine hK' _ ⟨by simp [s2], by simp [o2, emptyA], by simp [s12], by simp [rvQ], by simp [r1], by simp [r2], by simp [r3], fun _ => by simp [← e4], fun _ => by simp [← e5], by simp [s180], by simp [o13], by simp [s181], by simp, fun k hk' => by simp [(nd k hk').1, (nd k hk').2]⟩
  · obtain rfl : i = ws.length := by omega
    have hE := hE rfl
    obtain ⟨s2, o2, s12, o12, r1, r2, r3, r4, r5, s180, o13, s181, s182, nd⟩ := h
    repeat' (first
     | refine wp2_seq fun K hK => ?_
     | refine M_cons fun K hK => ?_
     | (refine hK _ ?_; clear hK K)
     | (refine hY _ ?_; clear hX hY X Y)
     | refine wp2_region ?_
     | refine wp2_cond fun X Y hX hY => ?_
     | (refine condK_of (fun c => ?_) (fun c => ?_) <;> (try simp [-List.length_eq_zero_iff] at c))
     | simp (maxSteps := 4000000) (disch := omega) [s181, s182])
    all_goals first | omega | skip
    refine hE _ ⟨by simp [s2], by simp [o2, emptyA], by simp [s12], by simp [o12], by simp [r1], by simp [r2], by simp [r3], fun hx => by simp [r4 hx], fun hx => by simp [r5 hx], by simp [s180], by simp [o13], by simp [s181], by simp [s182], fun k hk' => by simp [(nd k hk').1, (nd k hk').2]⟩
end Cal

/- impl.BuildAuto: what it builds. -/
set_option linter.unusedSimpArgs false
set_option linter.unusedVariables false
namespace Cal
open Go Go.Proofs Auto AC
set_option maxRecDepth 100000
theorem enter_calm1 (E F : List Nat) (x : T) : (St.enter [.val x]).Calm E F := by
  refine ⟨fun t => by simp [St.enter, AV.free], fun id o _ ho => ?_⟩
  have : (St.enter [.val x]).ob id = none := by
    simp only [St.enter]
    split
    · rcases id.1 - base with _ | _ <;> rfl
    · rfl
  rw [this] at ho
  cases ho
theorem RGood.last {rs : List Ru} (hg : RGood rs) : ∀ r ∈ rs, 0 ≤ lastR r := by
  intro r hr
  obtain ⟨i, hi, rfl⟩ := mem_nth.1 hr
  have f := hg.2 i hi
  exact (f.2.2 ((nth rs i).seq.length - 1) (by have := f.1; omega)).1
theorem insRun_each {r : Ru} (hr : EOK r.seq) {ws : List (List Int)} (h : ∀ w ∈ ws, EOK w) : ∀ n, ∀ w ∈ insRun r ws n, EOK w
  | 0, w, hw => h w hw
  | n + 1, w, hw => by
    have sh : insRun r ws (n + 1) = insStep (insRun r ws n) (r.seq.take (n + 1)) := rfl
    rw [sh] at hw
    unfold insStep at hw
    split at hw
    · rcases mem_insW.1 hw with hw | rfl
      · exact insRun_each hr h n w hw
      · intro j hj
        rw [List.length_take] at hj
        have := hr j (by omega)
        rw [rd_getD] at this ⊢
        rw [List.getD_eq_getElem?_getD, List.getElem?_take, if_pos (by omega), ← List.getD_eq_getElem?_getD]
        exact this
    · exact insRun_each hr h n w hw
theorem words_each {rs : List Ru} (hg : RGood rs) : ∀ k, k ≤ rs.length → ∀ w ∈ wordsN rs k, EOK w
  | 0, _ => by
    intro w hw j hj
    simp [wordsN] at hw
    subst hw
    simp at hj
  | k + 1, hk => insRun_each (hg.2 k (by omega)).2.2 (words_each hg k (by omega)) _
theorem IR.wq {rs : List Ru} (hg : RGood rs) {us : List (List Int)} (h : IR rs rs.length us) : WQ us (wordsOf rs) := by
  have sm := wordsN_sm hg rs.length (Nat.le_refl _)
  exact ⟨h.same, sm.rise, wordsN_pc rs rs.length, by rw [show (wordsOf rs).length = us.length from (h.same.len sm.rise).symm]; exact h.len, words_each hg rs.length (Nat.le_refl _)⟩
theorem IR.begin (rs : List Ru) : IR rs 0 [[]] := ⟨by simp, ⟨by simp, by simp⟩, by simp, ⟨by simp, by simp [wordsN]⟩, rfl⟩
theorem WQ.small {us ws : List (List Int)} (h : WQ us ws) (hr : Trie ws (tabI (parW ws) ws.length) (tabI (lastW ws) ws.length)) : Small (tabI (parW ws) ws.length) (tabI (lastW ws) ws.length) := by
  have pos := hr.pos
  refine ⟨fun s h1 h2 => ?_, by rw [tabI_len]; exact h.len, ?_, ?_⟩
  · rw [tabI_len] at h2
    rw [tabI_get _ h2]
    have hw : gw ws s ≠ [] := fun e => by have := (h.first h2).1 e; omega
    have hl : (gw ws s).length ≠ 0 := fun e => hw (List.eq_nil_of_length_eq_zero e)
    have ek := h.each _ (gw_mem h2) ((gw ws s).length - 1) (by omega)
    unfold lastW
    rw [wd_gw, if_neg hl]
    exact ek
  · show rd _ ((0 : Nat) : Int) = -1
    rw [rd_getD, tabI_get _ pos]
    exact h.par0 pos rfl
  · show rd _ ((0 : Nat) : Int) = -1
    rw [rd_getD, tabI_get _ pos]
    unfold lastW
    rw [if_pos (by rw [wd_gw, (h.first pos).2 rfl]; rfl)]
set_option maxHeartbeats 0 in
theorem buildI_3 {rs : List Ru} (hW : Rus rs) (h : ¬ RGood rs) : CallsF Try.prog 32 [.val (recs encRu rs)] (.agg [.t (.v (.int .i64 12)), .t (.v (.slice none 0 0)), .t (.v (.slice none 0 0)), .t (.v (.slice none 0 0)), .t (.v (.slice none 0 0)), .t (.v (.slice none 0 0))]) [] := by
  have f1 := fine_c hW
  refine callsF_of_wp2 (fn := Try.f32) (k := k32) (fun | 39 => (141 :: .nil) | _ => .nil) mixed (by kernel_rfl) rfl (by kernel_rfl) (by kernel_rfl) (by kernel_rfl) rfl (by simp [Try.f32]) (by simp [Arg.like]) ?_
  generalize hst : St.enter [.val (recs encRu rs)] = st0
  have t0 : st0.tm 0 = .t (recs encRu rs) := by rw [← hst]; rfl
  clear hst
  unfold k32
  repeat' (first
   | refine wp2_seq fun K hK => ?_
   | refine M_cons fun K hK => ?_
   | (refine hK _ ?_; clear hK K)
   | (refine hX _ ?_; clear hX hY X Y)
   | refine wp2_region ?_
   | refine wp2_cond fun X Y hX hY => ?_
   | (refine condK_of (fun c => ?_) (fun c => ?_) <;> (try simp [-List.length_eq_zero_iff] at c))
   | (refine callT_fl (f1) (by simp [St.args, St.arg, t0, h] <;> first | rfl | ((repeat' first | rfl | apply And.intro); first | done | fail)) ?_)
   | simp (maxSteps := 4000000) (disch := omega) [t0, h])
  all_goals try (simp [t0, h, Back]; done)
  all_goals first | omega | simp [Back]
noncomputable def resB (rs : List Ru) : RV := if 2000 < (wordsOf rs).length then .agg [.t (.v (.int .i64 13)), .t (.v (.slice none 0 0)), .t (.v (.slice none 0 0)), .t (.v (.slice none 0 0)), .t (.v (.slice none 0 0)), .t (.v (.slice none 0 0))] else
  .agg [.t (.v (.int .i64 0)), .own 1 (intRow (tabI (parW (wordsOf rs)) (wordsOf rs).length)), .own 1 (intRow (tabI (lastW (wordsOf rs)) (wordsOf rs).length)), .own 1 (intRow (tabI (failW (wordsOf rs)) (wordsOf rs).length)), .own 1 (intRow (tabI (mustW rs (wordsOf rs)) (wordsOf rs).length)), .own 1 (boolRow (tabB (badW rs (wordsOf rs)) (wordsOf rs).length))]
set_option maxHeartbeats 0 in
theorem buildI_12 {rs : List Ru} (hW : Rus rs) (h : RGood rs) : CallsF Try.prog 32 [.val (recs encRu rs)] (resB rs) [] := by
  have f1 := fine_c hW
  have hl1 := h.1
  refine callsF_of_wp2 (fn := Try.f32) (k := k32) (fun | 39 => (141 :: .nil) | _ => .nil) mixed (by kernel_rfl) rfl (by kernel_rfl) (by kernel_rfl) (by kernel_rfl) rfl (by simp [Try.f32]) (by simp [Arg.like]) ?_
  generalize hst : St.enter [.val (recs encRu rs)] = st0
  have hc : st0.Calm F0b F0b := by rw [← hst]; exact enter_calm1 _ _ _
  have q0 : ∀ F, Keep F st0 st0 := fun F => Keep.refl F st0
  have t0 : st0.tm 0 = .t (recs encRu rs) := by rw [← hst]; rfl
  clear hst
  unfold k32
  repeat' (first
   | refine wp2_seq fun K hK => ?_
   | refine M_cons fun K hK => ?_
   | (refine hK _ ?_; clear hK K)
   | (refine hY _ ?_; clear hX hY X Y)
   | refine wp2_inl (mk := [30]) 0 rfl ?_
   | refine wp2_canon (ops := ⟨some 26, _, _⟩ :: _) [(2, 79002)] ?_
   | refine wp2_region ?_
   | refine wp2_cond fun X Y hX hY => ?_
   | (refine condK_of (fun c => ?_) (fun c => ?_) <;> (try simp [-List.length_eq_zero_iff] at c))
   | (refine callT_fl (f1) (by simp [St.args, St.arg, t0, h] <;> first | rfl | ((repeat' first | rfl | apply And.intro); first | done | fail)) ?_)
   | simp (maxSteps := 4000000) (disch := omega) [t0, h])
  all_goals first | omega | skip
  generalize hst : St.kill _ [30] = st1
  have q1 : Keep F0b st0 st1 := by
    rw [← hst]
    (repeat' first | exact q0 | exact q0 _ | refine Keep.put ?_ _ _ | refine Keep.setOb ?_ (by first | rfl | simp) _ | refine Keep.kill hc ?_ (by first | rfl | simp) | refine Keep.ren hc ?_ (by first | rfl | simp) | refine Keep.ren1 hc ?_ (by first | rfl | simp) | refine Keep.kill1 hc ?_ (by first | rfl | simp))
  have u0 : st1.tm 0 = .t (recs encRu rs) := by rw [← hst]; simp [t0]
  have u2 : st1.tm 2 = .ptr (79002, 0) 0 0 := by rw [← hst]; simp
  have v2 : st1.ob (79002, 0) = some (.var (emptyA 0)) := by rw [← hst]; simp [emptyA]
  clear hst
  refine callI_named [] [0, 2] (fun id => calm F0b id ∨ id = (79002, 0)) (by decide) ⟨Try.f98, by kernel_rfl, by kernel_rfl, rfl⟩ [.t (.v (.pointer none)), .t (.v (.int .i64 (-1)))] (by simp [-renL_cons]) ?_
  simp only [renL_nil]
  refine newTrie_inl _ (.inl rfl) _ (push_frame hc q1 rfl (by simp [u0, u2, AV.free, calm]) ?_) ?_
  · rintro id o rfl ho
    rw [v2] at ho
    cases ho
    simp [Ob.avs, emptyA, AV.frees, AV.free]
  intro s' hk' z1 z2
  rw [← pop0_ob] at z1 z2
  obtain ⟨kp, ktm⟩ := hk'.pop
  generalize s'.pop0 = s3 at *
  have q3 := keep_back q1 kp rfl
  have w0 : s3.tm 0 = .t (recs encRu rs) := by rw [ktm]; simp [u0]
  have w2 : s3.tm 2 = .ptr (79002, 0) 0 0 := by rw [ktm]; simp [u2]
  have y2 := (back_ob kp (id := (79002, 0)) rfl (by simp [calm])).trans v2
  clear u0 u2 v2 kp ktm hk' q1 q0 t0
  repeat' (first
   | refine wp2_seq fun K hK => ?_
   | refine M_cons fun K hK => ?_
   | (refine hK _ ?_; clear hK K)
   | refine wp2_block ?_
   | (refine wp2_ren1' (ops := ⟨some 4, _, _⟩ :: _) (9, 0) (70100, 0) (by rfl) (by simp [w0, w2, y2, z1, z2, mk1, makes] <;> first | rfl | exact ⟨rfl, rfl⟩) ?_)
   | (refine wp2_ren1' (ops := ⟨some 4, _, _⟩ :: _) (5, 0) (70101, 0) (by rfl) (by simp [w0, w2, y2, z1, z2, mk1, makes] <;> first | rfl | exact ⟨rfl, rfl⟩) ?_)
   | refine wp2_region ?_
   | simp (maxSteps := 4000000) (disch := omega) [w0, w2, y2, z1, z2, mk1, makes])
  all_goals first | omega | skip
  have ret2 : 2000 < (wordsOf rs).length → ∀ s', s'.tm 2 = .ptr (79002, 0) 0 0 → s'.ob (79002, 0) = some (.var (emptyA 13)) → Fin (Back Try.prog [ResultVar.cell 2 63] [Arg.val (recs encRu rs)] (resB rs) []) .ret s' := by
    intro hl s' a b
    unfold emptyA at b
    simp [Fin, Back, resB, hl, a, b]
  have hJ : ∀ us s, IR rs rs.length us → SR rs rs.length us st0 s → K s := by
    intro us s hI hS
    have hQ := hI.wq h
    have hnl : ¬ 2000 < (wordsOf rs).length := by have := hQ.len; omega
    have hhas := words_has h hQ.len
    have hlast := h.last
    have tri := words_trie hQ.rise hQ.pc
    have hfl := words_fails hQ.rise hQ.pc
    have sml := hQ.small tri
    have pos : 0 < (wordsOf rs).length := List.length_pos_of_mem hQ.pc.1
    have hf0 : (tabI (failW (wordsOf rs)) (wordsOf rs).length).getD 0 0 = -1 := by
      rw [tabI_get _ pos]
      unfold failW
      rw [if_pos (by rw [wd_gw, (hQ.first pos).2 rfl]; rfl)]
    have ff := failsOf_c tri sml (r := tabI (failW (wordsOf rs)) (wordsOf rs).length) (by simp) hfl hf0
    have hqe := hQ.qend
    have ix0 := hI.ix0
    have hres : resB rs = .agg [.t (.v (.int .i64 0)), .own 1 (intRow (tabI (parW (wordsOf rs)) (wordsOf rs).length)), .own 1 (intRow (tabI (lastW (wordsOf rs)) (wordsOf rs).length)), .own 1 (intRow (tabI (failW (wordsOf rs)) (wordsOf rs).length)), .own 1 (intRow (tabI (mustW rs (wordsOf rs)) (wordsOf rs).length)), .own 1 (boolRow (tabB (badW rs (wordsOf rs)) (wordsOf rs).length))] := by unfold resB; rw [if_neg hnl]
    generalize hws : wordsOf rs = ws at *
    obtain ⟨s2, o2, s3, s4, s31, s32, s33, nd, q⟩ := hS
    repeat' (first
     | refine wp2_seq fun K hK => ?_
     | refine M_cons fun K hK => ?_
     | (refine hK _ ?_; clear hK K)
     | refine wp2_block ?_
     | refine wp2_canon (ops := ⟨some 100, _, _⟩ :: _) [(12, 79012)] ?_
     | refine wp2_canon (ops := ⟨some 14, _, _⟩ :: _) [(13, 79013)] ?_
     | refine wp2_region ?_
     | simp (maxSteps := 4000000) (disch := omega) [s2, o2, s3, litB])
    all_goals first | omega | skip
    have hJ1 : ∀ s, SQ us ws (enR rs rs.length) (muR rs rs.length) ws.length st0 s → K s := by
      intro s hS
      obtain ⟨s2, o2, s12, o12, r1, r2, s13, o13, s14, nd, q⟩ := hS
      have r1 := r1 (by omega)
      have r2 := r2 (by omega)
      rw [hqe] at s13 o13
      rw [List.length_map] at s13
      simp only [rvQ, if_neg (show ¬ ws.length = 0 by omega)] at o12
      have ts : ∀ f, T.sl (List.take ws.length (intRow (tabI f ws.length))) = ints (tabI f ws.length) := fun f => by
        rw [List.take_of_length_le (by simp [intRow])]
        rfl
      repeat' (first
       | refine wp2_seq fun K hK => ?_
       | refine M_cons fun K hK => ?_
       | (refine hK _ ?_; clear hK K)
       | refine wp2_block ?_
       | refine wp2_canon (ops := ⟨some 180, _, _⟩ :: _) [(178, 70104)] ?_
       | refine wp2_region ?_
       | (refine callT_fl (ff) (by simp [St.args, St.arg, s2, o2, s12, o12, r1, r2, s13, o13, ts] <;> first | rfl | ((repeat' first | rfl | apply And.intro); first | done | fail)) ?_)
       | simp (maxSteps := 4000000) (disch := omega) [s2, o2, s12, o12, r1, r2, s13, o13, ts])
      all_goals first | omega | skip
      have hJ2 : ∀ s, SV rs us ws (nmF us ws ws.length) ws.length s → K s := by
        intro s hS
        obtain ⟨s2, o2, s12, o12, r1, r2, r3, r4, r5, s180, o13, s181, s182, nd⟩ := hS
        have r4 := r4 (by omega)
        have r5 := r5 (by omega)
        simp only [rvQ, if_neg (show ¬ ws.length = 0 by omega)] at o12
        unfold emptyA at o2
        repeat' (first
         | refine wp2_seq fun K hK => ?_
         | refine M_cons fun K hK => ?_
         | (refine hK _ ?_; clear hK K)
         | refine wp2_region ?_
         | simp (maxSteps := 4000000) (disch := omega) [s2, o2, s12, o12, r1, r2, r3, r4, r5])
        all_goals first | omega | simp [Back, hres, s2, o2, s12, o12, r1, r2, r3, r4, r5]
      clear hK
      refine wp2_loop (fun n s => ∃ i, SV rs us ws (nmF us ws ws.length) i s ∧ i ≤ ws.length ∧ n = ws.length - i) ws.length ?_ ?_
      · exact ⟨0, ⟨by simp [s2], by simp [o2, emptyA], by simp [s12], by simp [rvQ], by simp [r1], by simp [r2], by simp, fun hx => absurd rfl hx, fun hx => absurd rfl hx, by simp [s13], by simp [o13], by simp, by simp, fun k hk' => by simp [(nd k hk').1, (nd k hk').2]⟩, by omega, rfl⟩
      · rintro n s ⟨i, hS, hi, rfl⟩ K' hK'
        exact marks_l5 hQ hhas hlast hS hi (fun hlt s' h' => hK' (ws.length - (i + 1)) s' (by omega) ⟨i + 1, h', by omega, rfl⟩) (fun e s' h' => by subst e; simpa using hJ2 s' h')
    clear hK
    refine wp2_loop (fun n s => ∃ i, SQ us ws (enR rs rs.length) (muR rs rs.length) i st0 s ∧ i ≤ ws.length ∧ n = ws.length - i) ws.length ?_ ?_
    · exact ⟨0, ⟨by simp [s2], by simp [o2, emptyA], by simp, by simp [rvQ], fun hx => absurd rfl hx, fun hx => absurd rfl hx, by simp [qs, bfs], by simp [qs, bfs, ix0, ptrRow], by simp, fun k hk' => by simp [nmF_zero, (nd k hk').1, (nd k hk').2], by (repeat' first | exact q | exact q _ | refine Keep.put ?_ _ _ | refine Keep.setOb ?_ (by first | rfl | simp) _ | refine Keep.kill hc ?_ (by first | rfl | simp) | refine Keep.ren hc ?_ (by first | rfl | simp) | refine Keep.ren1 hc ?_ (by first | rfl | simp) | refine Keep.kill1 hc ?_ (by first | rfl | simp))⟩, by omega, rfl⟩
    · rintro n s ⟨i, hS, hi, rfl⟩ K' hK'
      exact queue_l2 hQ hc hS hi (fun hlt s' h' => hK' (ws.length - (i + 1)) s' (by omega) ⟨i + 1, h', by omega, rfl⟩) (fun e s' h' => by subst e; simpa using hJ1 s' h')
  clear hK
  refine wp2_loop (fun n s => ∃ us k, IR rs k us ∧ SR rs k us st0 s ∧ k ≤ rs.length ∧ n = rs.length - k) rs.length ?_ ?_
  · refine ⟨[[]], 0, IR.begin rs, ⟨by simp [w2], by simp [y2, emptyA], by simp, by simp, by simp, by simp, by simp, fun i hi => ?_, by (repeat' first | exact q3 | exact q3 _ | refine Keep.put ?_ _ _ | refine Keep.setOb ?_ (by first | rfl | simp) _ | refine Keep.kill hc ?_ (by first | rfl | simp) | refine Keep.ren hc ?_ (by first | rfl | simp) | refine Keep.ren1 hc ?_ (by first | rfl | simp) | refine Keep.kill1 hc ?_ (by first | rfl | simp))⟩, by omega, rfl⟩
    simp at hi
    subst hi
    simp [z1, z2, nodeV, gw, upV, lastN, kidM, kidN, enR, muR, mustOf]
  · rintro n s ⟨us, k, hI, hS, hk, rfl⟩ K' hK'
    exact rule_l0 h hc hI hS hk hI.ix0 (fun hlt us' s' a b => hK' (rs.length - (k + 1)) s' (by omega) ⟨us', k + 1, a, b, by omega, rfl⟩) (fun e s' h' => by subst e; simpa using hJ us s' hI h') (fun hl s' a b => by simpa using ret2 hl s' a b)
end Cal

/- The law of BuildAuto. -/
set_option linter.unusedSimpArgs false
set_option linter.unusedVariables false
namespace Cal
open Go Go.Proofs
set_option maxRecDepth 100000
theorem toTss_mapU {s : St} {f : Nat → List AV} {g : Nat → List T} : ∀ {l : List Nat}, (∀ i ∈ l, s.toTs (f i) = some (g i)) → s.toTss (l.map f) = some (l.map g)
  | [], _ => rfl
  | i :: l, h => by
    simp only [List.map_cons, St.toTss]
    rw [h i (by simp), toTss_mapU fun j hj => h j (by simp [hj])]
theorem window_allU (l : List (List T)) : window l 0 l.length = l := by simp [window]
theorem recRow_range {α : Type} [Inhabited α] (enc : α → List T) (l : List α) : recRow enc l = (List.range l.length).map fun i : Nat => enc (nth l (i : Int)) := by
  apply List.ext_getElem?
  intro i
  by_cases h : i < l.length
  · rw [recRow_get enc h, List.getElem?_map, List.getElem?_range h]
    rfl
  · rw [List.getElem?_eq_none (by rw [recRow_length]; omega), List.getElem?_eq_none (by simp; omega)]
/-- Rules as objects. -/
structure RuOb (s : St) (rs : List Ru) : Prop where
  big : s.ob (70005, 0) = some (.big 3 (uU rs rs.length))
  seq : ∀ i : Nat, i < rs.length → s.ob (70003, i) = some (.row 1 (intRow (nth rs (i : Int)).seq))
def ruId (rs : List Ru) (id : Id) : Prop := id = (70005, 0) ∨ ∃ i : Nat, i < rs.length ∧ id = (70003, i)
theorem ruRead {s : St} {rs : List Ru} (h : RuOb s rs) : s.argR (.row (70005, 0) 3 0 rs.length) (.val (recs encRu rs)) := by
  have ei : ∀ (i : Nat) (l : List Int), s.ob (70003, i) = some (.row 1 (intRow l)) → s.toT (.row (70003, i) 1 0 l.length) = some (ints l) := fun i l ho => by
    simp only [St.toT, ho]
    have := window_allU (intRow l)
    rw [intRow_length] at this
    rw [this]
    rfl
  show s.toTR _ = _
  simp only [St.toTR, St.toT, h.big]
  have : s.toTss (uU rs rs.length) = some (recRow encRu rs) := by
    rw [uU_all, recRow_range]
    refine toTss_mapU fun i hi => ?_
    have hi := List.mem_range.1 hi
    simp only [ucell, St.toTs, ei _ _ (h.seq i hi)]
    rfl
  rw [this]
  have := window_allU (recRow encRu rs)
  rw [recRow_length] at this
  simp only [Option.map_some, this]
  rfl
theorem ruRow {s : St} {rs : List Ru} {id : Id} (h : s.ob id = some (.row 3 (recRow encRu rs))) : s.argR (.row id 3 0 rs.length) (.val (recs encRu rs)) := by
  have := window_allU (recRow encRu rs)
  rw [recRow_length] at this
  show s.toTR _ = _
  simp only [St.toTR, St.toT, h, this]
  rfl
theorem argsR1U {s : St} {v : AV} {a : Arg} (h : s.argR v a) : s.argsR [v] [a] := ⟨h, trivial⟩
theorem argsR2U {s : St} {v v2 : AV} {a a2 : Arg} (h : s.argR v a) (h2 : s.argR v2 a2) : s.argsR [v, v2] [a, a2] := ⟨h, h2, trivial⟩
theorem uU_calm (rs : List Ru) (k : Nat) : AV.frees (fun id => ¬ calm [] id) (uU rs k).flatten := uU_free fun i _ h => h (by simp [calm])
theorem ruOb_free {s : St} {rs : List Ru} (h : RuOb s rs) {id : Id} (hid : ruId rs id) {o : Ob} (ho : s.ob id = some o) : AV.frees (fun id => ¬ calm [] id) o.avs := by
  rcases hid with rfl | ⟨i, hi, rfl⟩
  · rw [h.big] at ho
    cases ho
    exact uU_calm _ _
  · rw [h.seq i hi] at ho
    cases ho
    unfold Ob.avs AV.frees; trivial
theorem ruOb_congr {s s' : St} {rs : List Ru} (h : RuOb s rs) (e : ∀ id, ruId rs id → s'.ob id = s.ob id) : RuOb s' rs :=
  ⟨by rw [e _ (.inl rfl)]; exact h.big, fun i hi => by rw [e _ (.inr ⟨i, hi, rfl⟩)]; exact h.seq i hi⟩
@[simp] theorem uU_renL (l : List Ru) (k d e : Nat) : (uU l k).map (AV.rensG (renI d e)) = if d = 70003 then asIs ((uU l k).map (AV.rensG (renI d e))) else uU l k := by
  split
  · rfl
  · rename_i h
    have h' : ¬ 70003 = d := fun e => h e.symm
    exact flatten_map_frees (p := fun id => renI d e id ≠ id) (fun _ he => AV.rensG_same he) (uU_free (fun i _ e => e (by simp [h'])))
theorem tkIU (n : Nat) (k : Int) : T.sl (List.take n (intRow (marked k n))) = ints (marked k n) := by
  have := List.take_length (l := intRow (marked k n))
  rw [intRow_length, marked_length] at this
  rw [this]
  rfl
theorem tkBU (n : Nat) (k : Int) : T.sl (List.take n (boolRow (markedB k n))) = bools (markedB k n) := by
  have := List.take_length (l := boolRow (markedB k n))
  rw [boolRow_length, markedB_length] at this
  rw [this]
  rfl
abbrev lawU : List Nat := [79104, 79106, 79118, 79122, 70003, 70005]
/-- Rules that the law takes. -/
structure LU (rs : List Ru) : Prop where
  sm : rs.length ≤ 9223372036854775807
  each : ∀ i : Nat, i < rs.length → (nth rs i).seq.length ≤ 9223372036854775807
def sizeU (rs : List Ru) : Int := rs.length + sumU rs rs.length
theorem sizeU_each {rs : List Ru} (h : sizeU rs ≤ 1048576) : rs.length ≤ 1048576 ∧ ∀ i : Nat, i < rs.length → (nth rs i).seq.length ≤ 1048576 := by
  have h0 := sumU_nn (l := rs) rs.length
  unfold sizeU at h
  refine ⟨by omega, fun i hi => ?_⟩
  have h1 := sumU_mono (l := rs) (show i + 1 ≤ rs.length by omega)
  have h2 := sumU_nn (l := rs) i
  have h3 : sumU rs (i + 1) = sumU rs i + lenU (nth rs i) := rfl
  unfold lenU at h3
  omega
theorem accU_size {rs : List Ru} : ∀ k : Nat, (accU (fun i => 2 + (nth rs (i : Int)).seq.length) k : Int) = 2 * k + sumU rs k
  | 0 => rfl
  | k + 1 => by
    have ih := accU_size (rs := rs) k
    show ((accU (fun i => 2 + (nth rs (i : Int)).seq.length) k + (2 + (nth rs (k : Int)).seq.length) : Nat) : Int) = 2 * ((k + 1 : Nat) : Int) + (sumU rs k + lenU (nth rs k))
    unfold lenU
    push_cast
    omega
/-- The code of laws.FnExactBuildAuto. -/
def k5 : Code1 :=
 (.seq
 (.region [] false ([]) [
 ⟨some 2,Op.assign (Operand.const (Value.bool false)),none⟩])
 (.seq
 (.region [] false ([]) [
 ⟨some 3,Op.assign (Operand.const (Value.int IntKind.i64 1048576)),none⟩])
 (.seq
 (.region [13] false ([]) [
 ⟨some 11,Op.move (Operand.tmp 0),none⟩,
 ⟨some 12,Op.move (Operand.tmp 3),none⟩,
 ⟨some 13,Op.call {callee:=Callee.value (Operand.func 29),args:=#[Operand.tmp 11,Operand.tmp 12],argTypes:=#[57,3]},none⟩,
 ⟨some 3,Op.assign (Operand.tmp 13),none⟩])
 (.seq
 (.seq
 (.region [] false ([]) [
 ⟨some 14,Op.move (Operand.tmp 3),none⟩,
 ⟨some 15,Op.binOp BinOp.lss 3 (Operand.tmp 14) (Operand.const (Value.int IntKind.i64 0)) 3,none⟩])
 (.cond (Operand.tmp 15)
 (.seq
 (.region [] false ([]) [
 ⟨some 2,Op.assign (Operand.const (Value.bool true)),none⟩])
 .ret)
 .skip))
 (.seq
 (.region [17,18,4] false ([]) [
 ⟨some 16,Op.move (Operand.tmp 0),none⟩,
 ⟨some 17,Op.call {callee:=Callee.value (Operand.func 31),args:=#[Operand.tmp 16],argTypes:=#[57]},none⟩,
 ⟨some 18,Op.call {callee:=Callee.value (Operand.func 30),args:=#[Operand.tmp 17],argTypes:=#[65]},none⟩,
 ⟨some 4,Op.alloc 63,none⟩,
 ⟨none,Op.store 63 (Operand.tmp 4) (Operand.tmp 18),none⟩])
 (.seq
 (.region [20] false ([]) [
 ⟨some 19,Op.move (Operand.tmp 0),none⟩,
 ⟨some 20,Op.call {callee:=Callee.value (Operand.func 31),args:=#[Operand.tmp 19],argTypes:=#[57]},none⟩,
 ⟨some 5,Op.assign (Operand.tmp 20),none⟩])
 (.seq
 (.region [22,6] false ([]) [
 ⟨some 21,Op.move (Operand.tmp 5),none⟩,
 ⟨some 22,Op.call {callee:=Callee.value (Operand.func 32),args:=#[Operand.tmp 21],argTypes:=#[65]},none⟩,
 ⟨some 6,Op.alloc 63,none⟩,
 ⟨none,Op.store 63 (Operand.tmp 6) (Operand.tmp 22),none⟩])
 (.seq
 (.seq
 (.region [25] false ([]) [
 ⟨some 23,Op.load 63 (Operand.tmp 6),none⟩,
 ⟨some 24,Op.load 63 (Operand.tmp 4),none⟩,
 ⟨some 25,Op.call {callee:=Callee.value (Operand.func 33),args:=#[Operand.tmp 23,Operand.tmp 24],argTypes:=#[63,63]},none⟩,
 ⟨some 26,Op.unOp UnOp.not 4 (Operand.tmp 25),none⟩])
 (.cond (Operand.tmp 26)
 (.seq
 (.region [] false ([]) [
 ⟨some 2,Op.assign (Operand.const (Value.bool false)),none⟩])
 .ret)
 .skip))
 (.seq
 (.seq
 (.region [29,30] false ([]) [
 ⟨some 27,Op.move (Operand.tmp 5),none⟩,
 ⟨some 28,Op.move (Operand.tmp 0),none⟩,
 ⟨some 29,Op.call {callee:=Callee.value (Operand.func 31),args:=#[Operand.tmp 28],argTypes:=#[57]},none⟩,
 ⟨some 30,Op.call {callee:=Callee.value (Operand.func 34),args:=#[Operand.tmp 27,Operand.tmp 29],argTypes:=#[65,65]},none⟩,
 ⟨some 31,Op.unOp UnOp.not 4 (Operand.tmp 30),none⟩])
 (.cond (Operand.tmp 31)
 (.seq
 (.region [] false ([]) [
 ⟨some 2,Op.assign (Operand.const (Value.bool false)),none⟩])
 .ret)
 .skip))
 (.seq
 (.region [] false ([]) [
 ⟨some 7,Op.assign (Operand.const (Value.int IntKind.i64 1)),none⟩])
 (.seq
 (.region [34] false ([]) [
 ⟨some 32,Op.move (Operand.tmp 5),none⟩,
 ⟨some 33,Op.move (Operand.tmp 7),none⟩,
 ⟨some 34,Op.call {callee:=Callee.value (Operand.func 35),args:=#[Operand.tmp 32,Operand.tmp 33],argTypes:=#[65,3]},none⟩,
 ⟨some 7,Op.assign (Operand.tmp 34),none⟩])
 (.seq
 (.seq
 (.region [40] false ([]) [
 ⟨some 35,Op.move (Operand.tmp 7),none⟩,
 ⟨some 36,Op.binOp BinOp.lss 3 (Operand.tmp 35) (Operand.const (Value.int IntKind.i64 0)) 3,none⟩,
 ⟨some 37,Op.move (Operand.tmp 36),none⟩,
 ⟨some 38,Op.load 63 (Operand.tmp 6),some (37,false)⟩,
 ⟨some 39,Op.load 63 (Operand.tmp 4),some (37,false)⟩,
 ⟨some 40,Op.call {callee:=Callee.value (Operand.func 33),args:=#[Operand.tmp 38,Operand.tmp 39],argTypes:=#[63,63]},some (37,false)⟩,
 ⟨some 41,Op.unOp UnOp.not 4 (Operand.tmp 40),some (37,false)⟩,
 ⟨some 42,Op.pick (Operand.tmp 37) (Operand.const (Value.bool true)) (Operand.tmp 41),none⟩])
 (.cond (Operand.tmp 42)
 (.seq
 (.region [] false ([]) [
 ⟨some 2,Op.assign (Operand.const (Value.bool false)),none⟩])
 .ret)
 .skip))
 (.seq
 (.region [] false ([]) [
 ⟨some 8,Op.assign (Operand.const (Value.int IntKind.i64 1)),none⟩])
 (.seq
 (.region [45] false ([]) [
 ⟨some 43,Op.load 63 (Operand.tmp 6),none⟩,
 ⟨some 44,Op.move (Operand.tmp 8),none⟩,
 ⟨some 45,Op.call {callee:=Callee.value (Operand.func 36),args:=#[Operand.tmp 43,Operand.tmp 44],argTypes:=#[63,3]},none⟩,
 ⟨some 8,Op.assign (Operand.tmp 45),none⟩])
 (.seq
 (.region [] false ([]) [
 ⟨some 9,Op.assign (Operand.const (Value.int IntKind.i64 1)),none⟩])
 (.seq
 (.region [48] false ([]) [
 ⟨some 46,Op.load 63 (Operand.tmp 6),none⟩,
 ⟨some 47,Op.move (Operand.tmp 9),none⟩,
 ⟨some 48,Op.call {callee:=Callee.value (Operand.func 37),args:=#[Operand.tmp 46,Operand.tmp 47],argTypes:=#[63,3]},none⟩,
 ⟨some 9,Op.assign (Operand.tmp 48),none⟩])
 (.seq
 (.seq
 (.region [] false ([]) [
 ⟨some 49,Op.move (Operand.tmp 9),none⟩,
 ⟨some 50,Op.binOp BinOp.lss 3 (Operand.tmp 49) (Operand.const (Value.int IntKind.i64 0)) 3,none⟩])
 (.cond (Operand.tmp 50)
 (.seq
 (.region [] false ([]) [
 ⟨some 2,Op.assign (Operand.const (Value.bool false)),none⟩])
 .ret)
 .skip))
 (.seq
 (.seq
 (.region [] false ([]) [
 ⟨some 51,Op.move (Operand.tmp 9),none⟩,
 ⟨some 52,Op.move (Operand.tmp 8),none⟩,
 ⟨some 53,Op.binOp BinOp.neq 3 (Operand.tmp 51) (Operand.tmp 52) 3,none⟩])
 (.cond (Operand.tmp 53)
 (.seq
 (.region [] false ([]) [
 ⟨some 2,Op.assign (Operand.const (Value.bool false)),none⟩])
 .ret)
 .skip))
 (.seq
 (.region [55,56,10] false ([]) [
 ⟨some 54,Op.move (Operand.tmp 0),none⟩,
 ⟨some 55,Op.call {callee:=Callee.value (Operand.func 31),args:=#[Operand.tmp 54],argTypes:=#[57]},none⟩,
 ⟨some 56,Op.call {callee:=Callee.value (Operand.func 32),args:=#[Operand.tmp 55],argTypes:=#[65]},none⟩,
 ⟨some 10,Op.alloc 63,none⟩,
 ⟨none,Op.store 63 (Operand.tmp 10) (Operand.tmp 56),none⟩])
 (.seq
 (.seq
 (.region [59] false ([]) [
 ⟨some 57,Op.load 63 (Operand.tmp 10),none⟩,
 ⟨some 58,Op.load 63 (Operand.tmp 4),none⟩,
 ⟨some 59,Op.call {callee:=Callee.value (Operand.func 33),args:=#[Operand.tmp 57,Operand.tmp 58],argTypes:=#[63,63]},none⟩,
 ⟨some 60,Op.unOp UnOp.not 4 (Operand.tmp 59),none⟩])
 (.cond (Operand.tmp 60)
 (.seq
 (.region [] false ([]) [
 ⟨some 2,Op.assign (Operand.const (Value.bool false)),none⟩])
 .ret)
 .skip))
 (.seq
 (.region [] false ([]) [
 ⟨some 2,Op.assign (Operand.const (Value.bool true)),none⟩])
 .ret)))))))))))))))))))))
set_option maxHeartbeats 0 in
theorem lawU_n (rs : List Ru) (hg : LU rs) (hs : sizeU rs ≤ 1048576) (cd : Int)
    (hI : CallsF Try.prog 32 [.val (recs encRu rs)] (.agg [.t (.v (.int .i64 cd)), .t (.v (.slice none 0 0)), .t (.v (.slice none 0 0)), .t (.v (.slice none 0 0)), .t (.v (.slice none 0 0)), .t (.v (.slice none 0 0))]) [])
    (hS : CallsF Try.prog 30 [.val (recs encRu rs)] (.agg [.t (.v (.int .i64 cd)), .t (.v (.slice none 0 0)), .t (.v (.slice none 0 0)), .t (.v (.slice none 0 0)), .t (.v (.slice none 0 0)), .t (.v (.slice none 0 0))]) []) :
    CallsF Try.prog 5 [.val (recs encRu rs)] (.t (.v (.bool true))) [] := by
  obtain ⟨hl, hq⟩ := sizeU_each hs
  have hE := eqBoN cd
  simp only [boN] at hE
  have hT := toUs rs hl hq
  refine callsF_of_wp2 (fn := Try.f5) (k := k5) (fun _ => []) mixed (by kernel_rfl) rfl (by kernel_rfl) (by kernel_rfl) (by kernel_rfl) rfl (by simp [Try.f5]) (by simp [Arg.like]) ?_
  generalize hst : St.enter [.val (recs encRu rs)] = st0
  have hc : st0.Calm lawU lawU := by rw [← hst]; exact enter_calm1 _ _ _
  have q0 : ∀ F, Keep F st0 st0 := fun F => Keep.refl F st0
  have t0 : st0.tm 0 = .t (recs encRu rs) := by rw [← hst]; rfl
  clear hst
  unfold k5
  have elv : leaveU 1048576 (rs.length + sumU rs rs.length) = 1048576 - sizeU rs := by unfold leaveU sizeU; rw [if_neg (by unfold sizeU at hs; omega)]
  have hs3 : ¬ 1048576 - sizeU rs < 0 := by omega
  have hz := szUs rs 1048576 hg.sm hg.each (by omega) (by omega)
  rw [elv] at hz
  repeat' (first
   | refine wp2_seq fun K hK => ?_
   | refine M_cons fun K hK => ?_
   | (refine hK _ ?_; clear hK K)
   | (refine hY _ ?_; clear hX hY X Y)
   | refine wp2_inl (mk := [20]) 1 rfl ?_
   | refine wp2_region ?_
   | refine wp2_cond fun X Y hX hY => ?_
   | (refine condK_of (fun c => ?_) (fun c => ?_) <;> (try simp [-List.length_eq_zero_iff] at c))
   | (refine callT_fl (hz) (by simp [St.args, St.arg, t0, hs3] <;> first | rfl | ((repeat' first | rfl | apply And.intro); first | done | fail)) ?_)
   | (refine callT_gen false (hT) (by simp) (by simp [St.args, St.arg, t0, hs3] <;> first | rfl | ((repeat' first | rfl | apply And.intro); first | done | fail)) (by simp [apartArgs, mutsOf, noRow]) (by simp [callFrz, valsOf, outEff]) ?_)
   | (refine callT_gen false (hS) (by simp) (by simp [St.args, St.arg, t0, hs3] <;> first | rfl | ((repeat' first | rfl | apply And.intro); first | done | fail)) (by simp [apartArgs, mutsOf, noRow]) (by simp [callFrz, valsOf, outEff]) ?_)
   | simp (maxSteps := 4000000) (disch := omega) [t0, hs3])
  all_goals first | omega | skip
  generalize hst : St.put _ (some 19) _ = st1
  have q1 : Keep lawU st0 (renL st1 [(4, 79104)]) := by
    rw [← hst]
    simp only [renL_cons, renL_nil]
    (repeat' first | exact q0 | exact q0 _ | refine Keep.put ?_ _ _ | refine Keep.setOb ?_ (by first | rfl | simp) _ | refine Keep.kill hc ?_ (by first | rfl | simp) | refine Keep.ren hc ?_ (by first | rfl | simp) | refine Keep.ren1 hc ?_ (by first | rfl | simp) | refine Keep.kill1 hc ?_ (by first | rfl | simp))
  have u0 : (renL st1 [(4, 79104)]).tm 0 = .t (recs encRu rs) := by
    rw [← hst]
    simp [t0]
  have u4 : (renL st1 [(4, 79104)]).tm 4 = .ptr (79104, 0) 0 0 := by
    rw [← hst]
    simp
  have u19 : (renL st1 [(4, 79104)]).tm 19 = .t (recs encRu rs) := by
    rw [← hst]
    simp
  have v4 : (renL st1 [(4, 79104)]).ob (79104, 0) = some (.var [.t (.v (.int .i64 cd)), .t (.v (.slice none 0 0)), .t (.v (.slice none 0 0)), .t (.v (.slice none 0 0)), .t (.v (.slice none 0 0)), .t (.v (.slice none 0 0))]) := by
    rw [← hst]
    simp
  refine callI_named [(4, 79104)] [0, 4, 19] (fun id => calm lawU id ∨ (id = (79104, 0))) (by decide) ⟨Try.f31, by kernel_rfl, by kernel_rfl, rfl⟩ [.t (recs encRu rs)] (by simp [-renL_cons, u19]) ?_
  clear hst t0 q0
  generalize renL st1 [(4, 79104)] = st2 at *
  refine toUs_inl _ (push_frame hc q1 rfl (by simp [u0, u4, u19, AV.free, calm]) ?_) rs hl hq ?_
  · rintro id o (rfl) ho
    · rw [v4] at ho
      cases ho
      simp [Ob.avs, AV.frees, AV.free, calm]
  intro s' hk' zb zs
  have hN : RuOb s'.pop0 rs := ⟨by rw [pop0_ob]; exact zb, fun i hi => by rw [pop0_ob]; exact zs i hi⟩
  obtain ⟨kp, ktm⟩ := hk'.pop
  clear zb zs
  generalize s'.pop0 = s3 at *
  have q3 := keep_back q1 kp rfl
  have z0 : s3.tm 0 = .t (recs encRu rs) := by rw [ktm]; simp [u0]
  have z4 : s3.tm 4 = .ptr (79104, 0) 0 0 := by rw [ktm]; simp [u4]
  have x4 := (back_ob kp (id := (79104, 0)) (by simp) (by simp [calm])).trans v4
  clear q1 hk' kp ktm u0 u4 u19 v4
  obtain ⟨p5, p3⟩ := hN
  repeat' (first
   | refine wp2_seq fun K hK => ?_
   | refine M_cons fun K hK => ?_
   | (refine hK _ ?_; clear hK K)
   | refine wp2_region ?_
   | simp (maxSteps := 4000000) (disch := omega) [z0, z4, x4, p5, mk1, makes])
  generalize hst : St.put _ (some 21) _ = st5
  have hN : RuOb st5 rs := by
    rw [← hst]
    exact ⟨by simp [p5], fun i hi => by simp [p3 i hi]⟩
  have r0 : st5.tm 0 = .t (recs encRu rs) := by
    rw [← hst]
    simp [z0]
  have r4 : st5.tm 4 = .ptr (79104, 0) 0 0 := by
    rw [← hst]
    simp [z4]
  have r5 : st5.tm 5 = .row (70005, 0) 3 0 rs.length := by
    rw [← hst]
    simp
  have r21 : st5.tm 21 = .row (70005, 0) 3 0 rs.length := by
    rw [← hst]
    simp
  have b4 : st5.ob (79104, 0) = some (.var [.t (.v (.int .i64 cd)), .t (.v (.slice none 0 0)), .t (.v (.slice none 0 0)), .t (.v (.slice none 0 0)), .t (.v (.slice none 0 0)), .t (.v (.slice none 0 0))]) := by
    rw [← hst]
    simp [x4]
  have q5 : Keep lawU st0 st5 := by
    rw [← hst]
    (repeat' first | exact q3 | exact q3 _ | refine Keep.put ?_ _ _ | refine Keep.setOb ?_ (by first | rfl | simp) _ | refine Keep.kill hc ?_ (by first | rfl | simp) | refine Keep.ren hc ?_ (by first | rfl | simp) | refine Keep.ren1 hc ?_ (by first | rfl | simp) | refine Keep.kill1 hc ?_ (by first | rfl | simp))
  refine callT_read hI (by rfl) (argsR1U (ruRead hN)) (by (repeat' first | exact flat_intRow _ | exact flat_boolRow _ | exact trivial | constructor | unfold RV.flat | unfold RV.flats)) ?_
  clear hst x4 p5 p3 z0 z4 q3
  obtain ⟨p5, p3⟩ := hN
  repeat' (first
   | refine wp2_seq fun K hK => ?_
   | refine M_cons fun K hK => ?_
   | (refine hK _ ?_; clear hK K)
   | (refine hY _ ?_; clear hX hY X Y)
   | refine wp2_region ?_
   | refine wp2_cond fun X Y hX hY => ?_
   | (refine condK_of (fun c => ?_) (fun c => ?_) <;> (try simp [-List.length_eq_zero_iff] at c))
   | (refine callT_fl (hE) (by simp [St.args, St.arg, r0, r4, r5, b4, p5, mk1, makes] <;> first | rfl | ((repeat' first | rfl | apply And.intro); first | done | fail)) ?_)
   | (refine callT_gen false (hT) (by simp) (by simp [St.args, St.arg, r0, r4, r5, b4, p5, mk1, makes] <;> first | rfl | ((repeat' first | rfl | apply And.intro); first | done | fail)) (by simp [apartArgs, mutsOf, noRow]) (by simp [callFrz, valsOf, outEff]) ?_)
   | simp (maxSteps := 4000000) (disch := omega) [r0, r4, r5, b4, p5, mk1, makes])
  generalize hst : St.put _ (some 29) _ = st6
  have hN : RuOb st6 rs := by
    rw [← hst]
    exact ⟨by simp [p5], fun i hi => by simp [p3 i hi]⟩
  have d0 : st6.ob (29, 0) = some (.row 3 (recRow encRu rs)) := by
    rw [← hst]
    simp
  have f0 : st6.tm 0 = .t (recs encRu rs) := by
    rw [← hst]
    simp [r0]
  have f4 : st6.tm 4 = .ptr (79104, 0) 0 0 := by
    rw [← hst]
    simp [r4]
  have f5 : st6.tm 5 = .row (70005, 0) 3 0 rs.length := by
    rw [← hst]
    simp [r5]
  have f6 : st6.tm 6 = .ptr (6, 0) 0 0 := by
    rw [← hst]
    simp
  have h4 : st6.ob (79104, 0) = some (.var [.t (.v (.int .i64 cd)), .t (.v (.slice none 0 0)), .t (.v (.slice none 0 0)), .t (.v (.slice none 0 0)), .t (.v (.slice none 0 0)), .t (.v (.slice none 0 0))]) := by
    rw [← hst]
    simp [b4]
  have h6 : st6.ob (6, 0) = some (.var [.t (.v (.int .i64 cd)), .t (.v (.slice none 0 0)), .t (.v (.slice none 0 0)), .t (.v (.slice none 0 0)), .t (.v (.slice none 0 0)), .t (.v (.slice none 0 0))]) := by
    rw [← hst]
    simp
  have q6 : Keep lawU st0 st6 := by
    rw [← hst]
    (repeat' first | exact q5 | exact q5 _ | refine Keep.put ?_ _ _ | refine Keep.setOb ?_ (by first | rfl | simp) _ | refine Keep.kill hc ?_ (by first | rfl | simp) | refine Keep.ren hc ?_ (by first | rfl | simp) | refine Keep.ren1 hc ?_ (by first | rfl | simp) | refine Keep.kill1 hc ?_ (by first | rfl | simp))
  refine callT_read (eqUs rs hl hq) (by rfl) (argsR2U (ruRead hN) (ruRow d0)) (by exact trivial) ?_
  clear hst b4 r0 r4 r5 r21 q5 p5 p3 d0
  obtain ⟨p5, p3⟩ := hN
  repeat' (first
   | refine wp2_seq fun K hK => ?_
   | refine M_cons fun K hK => ?_
   | (refine hK _ ?_; clear hK K)
   | (refine hY _ ?_; clear hX hY X Y)
   | refine wp2_inl (mk := [34]) 2 rfl ?_
   | refine wp2_region ?_
   | refine wp2_cond fun X Y hX hY => ?_
   | (refine condK_of (fun c => ?_) (fun c => ?_) <;> (try simp [-List.length_eq_zero_iff] at c))
   | simp (maxSteps := 4000000) (disch := omega) [f0, f4, f5, f6, h4, h6, p5, mk1, makes])
  generalize hst : St.put _ (some 33) _ = st7
  have q7 : Keep lawU st0 (renL st7 [(6, 79106)]) := by
    rw [← hst]
    simp only [renL_cons, renL_nil]
    (repeat' first | exact q6 | exact q6 _ | refine Keep.put ?_ _ _ | refine Keep.setOb ?_ (by first | rfl | simp) _ | refine Keep.kill hc ?_ (by first | rfl | simp) | refine Keep.ren hc ?_ (by first | rfl | simp) | refine Keep.ren1 hc ?_ (by first | rfl | simp) | refine Keep.kill1 hc ?_ (by first | rfl | simp))
  have hN : RuOb (renL st7 [(6, 79106)]) rs := by
    rw [← hst]
    exact ⟨by simp [p5], fun i hi => by simp [p3 i hi]⟩
  have o0 : (renL st7 [(6, 79106)]).tm 0 = .t (recs encRu rs) := by
    rw [← hst]
    simp [f0]
  have o4 : (renL st7 [(6, 79106)]).tm 4 = .ptr (79104, 0) 0 0 := by
    rw [← hst]
    simp [f4]
  have o6 : (renL st7 [(6, 79106)]).tm 6 = .ptr (79106, 0) 0 0 := by
    rw [← hst]
    simp [f6]
  have o32 : (renL st7 [(6, 79106)]).tm 32 = .row (70005, 0) 3 0 rs.length := by
    rw [← hst]
    simp
  have o33 : (renL st7 [(6, 79106)]).tm 33 = .t (.v (.int .i64 1)) := by
    rw [← hst]
    simp
  have i4 : (renL st7 [(6, 79106)]).ob (79104, 0) = some (.var [.t (.v (.int .i64 cd)), .t (.v (.slice none 0 0)), .t (.v (.slice none 0 0)), .t (.v (.slice none 0 0)), .t (.v (.slice none 0 0)), .t (.v (.slice none 0 0))]) := by
    rw [← hst]
    simp [h4]
  have i6 : (renL st7 [(6, 79106)]).ob (79106, 0) = some (.var [.t (.v (.int .i64 cd)), .t (.v (.slice none 0 0)), .t (.v (.slice none 0 0)), .t (.v (.slice none 0 0)), .t (.v (.slice none 0 0)), .t (.v (.slice none 0 0))]) := by
    rw [← hst]
    simp [h6]
  refine callI_named [(6, 79106)] [0, 4, 6, 32, 33] (fun id => calm lawU id ∨ (ruId rs id ∨ (id = (79104, 0) ∨ id = (79106, 0)))) (by decide) ⟨Try.f35, by kernel_rfl, by kernel_rfl, rfl⟩ [.row (70005, 0) 3 0 rs.length, .t (.v (.int .i64 1))] (by simp [-renL_cons, o32, o33]) ?_
  clear hst q6 f0 f4 f5 f6 h4 h6 p5 p3
  generalize renL st7 [(6, 79106)] = st8 at *
  have hacc := accU_size (rs := rs) rs.length
  have hsum := sumU_nn (l := rs) rs.length
  have hs9 := hs
  unfold sizeU at hs9
  have hN8 : RuOb (st8.only [0, 4, 6, 32, 33] (fun id => calm lawU id ∨ (ruId rs id ∨ (id = (79104, 0) ∨ id = (79106, 0))))).push rs := ruOb_congr hN fun id hid => by rw [push_ob, only_ob (.inr (.inl hid))]
  refine markUs_inl _ (push_frame hc q7 rfl (by simp [o0, o4, o6, o32, o33, AV.free, calm]) ?_) _ (fun i => (nth rs (i : Int)).seq.length) rs.length 1 (by omega) (by omega) hl (fun i hi => hq i hi) (by rw [hN8.big, uU_all]) (fun i hi => ⟨_, rfl, hN8.seq i hi⟩) ?_
  · rintro id o (hid | rfl | rfl) ho
    · exact ruOb_free hN hid ho
    · rw [i4] at ho
      cases ho
      simp [Ob.avs, AV.frees, AV.free, calm]
    · rw [i6] at ho
      cases ho
      simp [Ob.avs, AV.frees, AV.free, calm]
  intro s' hk'
  obtain ⟨kp, ktm⟩ := hk'.pop
  generalize s'.pop0 = s9 at *
  have q9 := keep_back q7 kp rfl
  have z0 : s9.tm 0 = .t (recs encRu rs) := by rw [ktm]; simp [o0]
  have z4 : s9.tm 4 = .ptr (79104, 0) 0 0 := by rw [ktm]; simp [o4]
  have z6 : s9.tm 6 = .ptr (79106, 0) 0 0 := by rw [ktm]; simp [o6]
  have x4 := (back_ob kp (id := (79104, 0)) (by simp) (by simp [calm])).trans i4
  have x6 := (back_ob kp (id := (79106, 0)) (by simp) (by simp [calm])).trans i6
  clear q7 hk' kp ktm o0 o4 o6 o32 o33 i4 i6 hN hN8
  have hk0 : 0 ≤ (1 : Int) + (accU (fun i => 2 + (nth rs (i : Int)).seq.length) rs.length : Int) := by omega
  generalize (1 : Int) + (accU (fun i => 2 + (nth rs (i : Int)).seq.length) rs.length : Int) = kk at *
  have hk1 : ¬ kk < 0 := by omega
  have hM := markBoN cd 1
  have hH := heldBoN cd 1 (by omega)
  simp only [boN] at hM hH
  repeat' (first
   | refine wp2_seq fun K hK => ?_
   | refine M_cons fun K hK => ?_
   | (refine hK _ ?_; clear hK K)
   | (refine hY _ ?_; clear hX hY X Y)
   | refine wp2_region ?_
   | refine wp2_cond fun X Y hX hY => ?_
   | (refine condK_of (fun c => ?_) (fun c => ?_) <;> (try simp [-List.length_eq_zero_iff] at c))
   | (refine callT_fl (hE) (by simp [St.args, St.arg, z0, z4, z6, x4, x6, hk1, mk1, makes, tkIU, tkBU] <;> first | rfl | ((repeat' first | rfl | apply And.intro); first | done | fail)) ?_)
   | (refine callT_gen false (hT) (by simp) (by simp [St.args, St.arg, z0, z4, z6, x4, x6, hk1, mk1, makes, tkIU, tkBU] <;> first | rfl | ((repeat' first | rfl | apply And.intro); first | done | fail)) (by simp [apartArgs, mutsOf, noRow]) (by simp [callFrz, valsOf, outEff]) ?_)
   | (refine callT_gen false (hI) (by simp) (by simp [St.args, St.arg, z0, z4, z6, x4, x6, hk1, mk1, makes, tkIU, tkBU] <;> first | rfl | ((repeat' first | rfl | apply And.intro); first | done | fail)) (by simp [apartArgs, mutsOf, noRow]) (by simp [callFrz, valsOf, outEff]) ?_)
   | (refine callT_fl (hM) (by simp [St.args, St.arg, z0, z4, z6, x4, x6, hk1, mk1, makes, tkIU, tkBU] <;> first | rfl | ((repeat' first | rfl | apply And.intro); first | done | fail)) ?_)
   | (refine callT_fl (hH) (by simp [St.args, St.arg, z0, z4, z6, x4, x6, hk1, mk1, makes, tkIU, tkBU] <;> first | rfl | ((repeat' first | rfl | apply And.intro); first | done | fail)) ?_)
   | simp (maxSteps := 4000000) (disch := omega) [z0, z4, z6, x4, x6, hk1, mk1, makes, tkIU, tkBU])
  all_goals try (simp [z0, z4, z6, x4, x6, hk1, mk1, makes, tkIU, tkBU, Back]; done)
  all_goals first | omega | skip
set_option maxHeartbeats 0 in
theorem lawU_y (rs : List Ru) (hg : LU rs) (hs : sizeU rs ≤ 1048576) (cd : Int) (a b d e : List Int) (f : List Bool) (la : a.length ≤ 2000) (lb : b.length ≤ 2000) (ld : d.length ≤ 2000) (le : e.length ≤ 2000) (lf : f.length ≤ 2000)
    (hI : CallsF Try.prog 32 [.val (recs encRu rs)] (.agg [.t (.v (.int .i64 cd)), .own 1 (intRow a), .own 1 (intRow b), .own 1 (intRow d), .own 1 (intRow e), .own 1 (boolRow f)]) [])
    (hS : CallsF Try.prog 30 [.val (recs encRu rs)] (.agg [.t (.v (.int .i64 cd)), .own 1 (intRow a), .own 1 (intRow b), .own 1 (intRow d), .own 1 (intRow e), .own 1 (boolRow f)]) []) :
    CallsF Try.prog 5 [.val (recs encRu rs)] (.t (.v (.bool true))) [] := by
  obtain ⟨hl, hq⟩ := sizeU_each hs
  have hE := eqBo_c cd la lb ld le lf
  simp only [boT] at hE
  have hT := toUs rs hl hq
  refine callsF_of_wp2 (fn := Try.f5) (k := k5) (fun _ => []) mixed (by kernel_rfl) rfl (by kernel_rfl) (by kernel_rfl) (by kernel_rfl) rfl (by simp [Try.f5]) (by simp [Arg.like]) ?_
  generalize hst : St.enter [.val (recs encRu rs)] = st0
  have hc : st0.Calm lawU lawU := by rw [← hst]; exact enter_calm1 _ _ _
  have q0 : ∀ F, Keep F st0 st0 := fun F => Keep.refl F st0
  have t0 : st0.tm 0 = .t (recs encRu rs) := by rw [← hst]; rfl
  clear hst
  unfold k5
  have elv : leaveU 1048576 (rs.length + sumU rs rs.length) = 1048576 - sizeU rs := by unfold leaveU sizeU; rw [if_neg (by unfold sizeU at hs; omega)]
  have hs3 : ¬ 1048576 - sizeU rs < 0 := by omega
  have hz := szUs rs 1048576 hg.sm hg.each (by omega) (by omega)
  rw [elv] at hz
  repeat' (first
   | refine wp2_seq fun K hK => ?_
   | refine M_cons fun K hK => ?_
   | (refine hK _ ?_; clear hK K)
   | (refine hY _ ?_; clear hX hY X Y)
   | refine wp2_inl (mk := [20]) 1 rfl ?_
   | refine wp2_region ?_
   | refine wp2_cond fun X Y hX hY => ?_
   | (refine condK_of (fun c => ?_) (fun c => ?_) <;> (try simp [-List.length_eq_zero_iff] at c))
   | (refine callT_fl (hz) (by simp [St.args, St.arg, t0, hs3] <;> first | rfl | ((repeat' first | rfl | apply And.intro); first | done | fail)) ?_)
   | (refine callT_gen false (hT) (by simp) (by simp [St.args, St.arg, t0, hs3] <;> first | rfl | ((repeat' first | rfl | apply And.intro); first | done | fail)) (by simp [apartArgs, mutsOf, noRow]) (by simp [callFrz, valsOf, outEff]) ?_)
   | (refine callT_gen false (hS) (by simp) (by simp [St.args, St.arg, t0, hs3] <;> first | rfl | ((repeat' first | rfl | apply And.intro); first | done | fail)) (by simp [apartArgs, mutsOf, noRow]) (by simp [callFrz, valsOf, outEff]) ?_)
   | simp (maxSteps := 4000000) (disch := omega) [t0, hs3])
  all_goals first | omega | skip
  generalize hst : St.put _ (some 19) _ = st1
  have q1 : Keep lawU st0 (renL st1 [(4, 79104), (18, 79118)]) := by
    rw [← hst]
    simp only [renL_cons, renL_nil]
    (repeat' first | exact q0 | exact q0 _ | refine Keep.put ?_ _ _ | refine Keep.setOb ?_ (by first | rfl | simp) _ | refine Keep.kill hc ?_ (by first | rfl | simp) | refine Keep.ren hc ?_ (by first | rfl | simp) | refine Keep.ren1 hc ?_ (by first | rfl | simp) | refine Keep.kill1 hc ?_ (by first | rfl | simp))
  have u0 : (renL st1 [(4, 79104), (18, 79118)]).tm 0 = .t (recs encRu rs) := by
    rw [← hst]
    simp [t0]
  have u4 : (renL st1 [(4, 79104), (18, 79118)]).tm 4 = .ptr (79104, 0) 0 0 := by
    rw [← hst]
    simp
  have u19 : (renL st1 [(4, 79104), (18, 79118)]).tm 19 = .t (recs encRu rs) := by
    rw [← hst]
    simp
  have v4 : (renL st1 [(4, 79104), (18, 79118)]).ob (79104, 0) = some (.var [.t (.v (.int .i64 cd)), .row (79118, 0) 1 0 a.length, .row (79118, 1) 1 0 b.length, .row (79118, 2) 1 0 d.length, .row (79118, 3) 1 0 e.length, .row (79118, 4) 1 0 f.length]) := by
    rw [← hst]
    simp
  have w0 : (renL st1 [(4, 79104), (18, 79118)]).ob (79118, 0) = some (.row 1 (intRow a)) := by
    rw [← hst]
    simp
  have w1 : (renL st1 [(4, 79104), (18, 79118)]).ob (79118, 1) = some (.row 1 (intRow b)) := by
    rw [← hst]
    simp
  have w2 : (renL st1 [(4, 79104), (18, 79118)]).ob (79118, 2) = some (.row 1 (intRow d)) := by
    rw [← hst]
    simp
  have w3 : (renL st1 [(4, 79104), (18, 79118)]).ob (79118, 3) = some (.row 1 (intRow e)) := by
    rw [← hst]
    simp
  have w4 : (renL st1 [(4, 79104), (18, 79118)]).ob (79118, 4) = some (.row 1 (boolRow f)) := by
    rw [← hst]
    simp
  refine callI_named [(4, 79104), (18, 79118)] [0, 4, 19] (fun id => calm lawU id ∨ (id = (79104, 0) ∨ id = (79118, 0) ∨ id = (79118, 1) ∨ id = (79118, 2) ∨ id = (79118, 3) ∨ id = (79118, 4))) (by decide) ⟨Try.f31, by kernel_rfl, by kernel_rfl, rfl⟩ [.t (recs encRu rs)] (by simp [-renL_cons, u19]) ?_
  clear hst t0 q0
  generalize renL st1 [(4, 79104), (18, 79118)] = st2 at *
  refine toUs_inl _ (push_frame hc q1 rfl (by simp [u0, u4, u19, AV.free, calm]) ?_) rs hl hq ?_
  · rintro id o (rfl | rfl | rfl | rfl | rfl | rfl) ho
    · rw [v4] at ho
      cases ho
      simp [Ob.avs, AV.frees, AV.free, calm]
    · rw [w0] at ho
      cases ho
      unfold Ob.avs AV.frees; trivial
    · rw [w1] at ho
      cases ho
      unfold Ob.avs AV.frees; trivial
    · rw [w2] at ho
      cases ho
      unfold Ob.avs AV.frees; trivial
    · rw [w3] at ho
      cases ho
      unfold Ob.avs AV.frees; trivial
    · rw [w4] at ho
      cases ho
      unfold Ob.avs AV.frees; trivial
  intro s' hk' zb zs
  have hN : RuOb s'.pop0 rs := ⟨by rw [pop0_ob]; exact zb, fun i hi => by rw [pop0_ob]; exact zs i hi⟩
  obtain ⟨kp, ktm⟩ := hk'.pop
  clear zb zs
  generalize s'.pop0 = s3 at *
  have q3 := keep_back q1 kp rfl
  have z0 : s3.tm 0 = .t (recs encRu rs) := by rw [ktm]; simp [u0]
  have z4 : s3.tm 4 = .ptr (79104, 0) 0 0 := by rw [ktm]; simp [u4]
  have x4 := (back_ob kp (id := (79104, 0)) (by simp) (by simp [calm])).trans v4
  have y0 := (back_ob kp (id := (79118, 0)) (by simp) (by simp [calm])).trans w0
  have y1 := (back_ob kp (id := (79118, 1)) (by simp) (by simp [calm])).trans w1
  have y2 := (back_ob kp (id := (79118, 2)) (by simp) (by simp [calm])).trans w2
  have y3 := (back_ob kp (id := (79118, 3)) (by simp) (by simp [calm])).trans w3
  have y4 := (back_ob kp (id := (79118, 4)) (by simp) (by simp [calm])).trans w4
  clear q1 hk' kp ktm u0 u4 u19 v4 w0 w1 w2 w3 w4
  obtain ⟨p5, p3⟩ := hN
  repeat' (first
   | refine wp2_seq fun K hK => ?_
   | refine M_cons fun K hK => ?_
   | (refine hK _ ?_; clear hK K)
   | refine wp2_region ?_
   | simp (maxSteps := 4000000) (disch := omega) [z0, z4, x4, p5, mk1, makes, y0, y1, y2, y3, y4])
  generalize hst : St.put _ (some 21) _ = st5
  have hN : RuOb st5 rs := by
    rw [← hst]
    exact ⟨by simp [p5], fun i hi => by simp [p3 i hi]⟩
  have r0 : st5.tm 0 = .t (recs encRu rs) := by
    rw [← hst]
    simp [z0]
  have r4 : st5.tm 4 = .ptr (79104, 0) 0 0 := by
    rw [← hst]
    simp [z4]
  have r5 : st5.tm 5 = .row (70005, 0) 3 0 rs.length := by
    rw [← hst]
    simp
  have r21 : st5.tm 21 = .row (70005, 0) 3 0 rs.length := by
    rw [← hst]
    simp
  have b4 : st5.ob (79104, 0) = some (.var [.t (.v (.int .i64 cd)), .row (79118, 0) 1 0 a.length, .row (79118, 1) 1 0 b.length, .row (79118, 2) 1 0 d.length, .row (79118, 3) 1 0 e.length, .row (79118, 4) 1 0 f.length]) := by
    rw [← hst]
    simp [x4]
  have g0 : st5.ob (79118, 0) = some (.row 1 (intRow a)) := by
    rw [← hst]
    simp [y0]
  have g1 : st5.ob (79118, 1) = some (.row 1 (intRow b)) := by
    rw [← hst]
    simp [y1]
  have g2 : st5.ob (79118, 2) = some (.row 1 (intRow d)) := by
    rw [← hst]
    simp [y2]
  have g3 : st5.ob (79118, 3) = some (.row 1 (intRow e)) := by
    rw [← hst]
    simp [y3]
  have g4 : st5.ob (79118, 4) = some (.row 1 (boolRow f)) := by
    rw [← hst]
    simp [y4]
  have q5 : Keep lawU st0 st5 := by
    rw [← hst]
    (repeat' first | exact q3 | exact q3 _ | refine Keep.put ?_ _ _ | refine Keep.setOb ?_ (by first | rfl | simp) _ | refine Keep.kill hc ?_ (by first | rfl | simp) | refine Keep.ren hc ?_ (by first | rfl | simp) | refine Keep.ren1 hc ?_ (by first | rfl | simp) | refine Keep.kill1 hc ?_ (by first | rfl | simp))
  refine callT_read hI (by rfl) (argsR1U (ruRead hN)) (by (repeat' first | exact flat_intRow _ | exact flat_boolRow _ | exact trivial | constructor | unfold RV.flat | unfold RV.flats)) ?_
  clear hst x4 p5 p3 z0 z4 q3 y0 y1 y2 y3 y4
  obtain ⟨p5, p3⟩ := hN
  repeat' (first
   | refine wp2_seq fun K hK => ?_
   | refine M_cons fun K hK => ?_
   | (refine hK _ ?_; clear hK K)
   | (refine hY _ ?_; clear hX hY X Y)
   | refine wp2_region ?_
   | refine wp2_cond fun X Y hX hY => ?_
   | (refine condK_of (fun c => ?_) (fun c => ?_) <;> (try simp [-List.length_eq_zero_iff] at c))
   | (refine callT_fl (hE) (by simp [St.args, St.arg, r0, r4, r5, b4, p5, mk1, makes, g0, g1, g2, g3, g4] <;> first | rfl | ((repeat' first | rfl | apply And.intro); first | done | fail)) ?_)
   | (refine callT_gen false (hT) (by simp) (by simp [St.args, St.arg, r0, r4, r5, b4, p5, mk1, makes, g0, g1, g2, g3, g4] <;> first | rfl | ((repeat' first | rfl | apply And.intro); first | done | fail)) (by simp [apartArgs, mutsOf, noRow]) (by simp [callFrz, valsOf, outEff]) ?_)
   | simp (maxSteps := 4000000) (disch := omega) [r0, r4, r5, b4, p5, mk1, makes, g0, g1, g2, g3, g4])
  generalize hst : St.put _ (some 29) _ = st6
  have hN : RuOb st6 rs := by
    rw [← hst]
    exact ⟨by simp [p5], fun i hi => by simp [p3 i hi]⟩
  have d0 : st6.ob (29, 0) = some (.row 3 (recRow encRu rs)) := by
    rw [← hst]
    simp
  have f0 : st6.tm 0 = .t (recs encRu rs) := by
    rw [← hst]
    simp [r0]
  have f4 : st6.tm 4 = .ptr (79104, 0) 0 0 := by
    rw [← hst]
    simp [r4]
  have f5 : st6.tm 5 = .row (70005, 0) 3 0 rs.length := by
    rw [← hst]
    simp [r5]
  have f6 : st6.tm 6 = .ptr (6, 0) 0 0 := by
    rw [← hst]
    simp
  have h4 : st6.ob (79104, 0) = some (.var [.t (.v (.int .i64 cd)), .row (79118, 0) 1 0 a.length, .row (79118, 1) 1 0 b.length, .row (79118, 2) 1 0 d.length, .row (79118, 3) 1 0 e.length, .row (79118, 4) 1 0 f.length]) := by
    rw [← hst]
    simp [b4]
  have k0 : st6.ob (79118, 0) = some (.row 1 (intRow a)) := by
    rw [← hst]
    simp [g0]
  have k1 : st6.ob (79118, 1) = some (.row 1 (intRow b)) := by
    rw [← hst]
    simp [g1]
  have k2 : st6.ob (79118, 2) = some (.row 1 (intRow d)) := by
    rw [← hst]
    simp [g2]
  have k3 : st6.ob (79118, 3) = some (.row 1 (intRow e)) := by
    rw [← hst]
    simp [g3]
  have k4 : st6.ob (79118, 4) = some (.row 1 (boolRow f)) := by
    rw [← hst]
    simp [g4]
  have h6 : st6.ob (6, 0) = some (.var [.t (.v (.int .i64 cd)), .row (22, 0) 1 0 a.length, .row (22, 1) 1 0 b.length, .row (22, 2) 1 0 d.length, .row (22, 3) 1 0 e.length, .row (22, 4) 1 0 f.length]) := by
    rw [← hst]
    simp
  have m0 : st6.ob (22, 0) = some (.row 1 (intRow a)) := by
    rw [← hst]
    simp
  have m1 : st6.ob (22, 1) = some (.row 1 (intRow b)) := by
    rw [← hst]
    simp
  have m2 : st6.ob (22, 2) = some (.row 1 (intRow d)) := by
    rw [← hst]
    simp
  have m3 : st6.ob (22, 3) = some (.row 1 (intRow e)) := by
    rw [← hst]
    simp
  have m4 : st6.ob (22, 4) = some (.row 1 (boolRow f)) := by
    rw [← hst]
    simp
  have q6 : Keep lawU st0 st6 := by
    rw [← hst]
    (repeat' first | exact q5 | exact q5 _ | refine Keep.put ?_ _ _ | refine Keep.setOb ?_ (by first | rfl | simp) _ | refine Keep.kill hc ?_ (by first | rfl | simp) | refine Keep.ren hc ?_ (by first | rfl | simp) | refine Keep.ren1 hc ?_ (by first | rfl | simp) | refine Keep.kill1 hc ?_ (by first | rfl | simp))
  refine callT_read (eqUs rs hl hq) (by rfl) (argsR2U (ruRead hN) (ruRow d0)) (by exact trivial) ?_
  clear hst b4 r0 r4 r5 r21 q5 p5 p3 d0 g0 g1 g2 g3 g4
  obtain ⟨p5, p3⟩ := hN
  repeat' (first
   | refine wp2_seq fun K hK => ?_
   | refine M_cons fun K hK => ?_
   | (refine hK _ ?_; clear hK K)
   | (refine hY _ ?_; clear hX hY X Y)
   | refine wp2_inl (mk := [34]) 2 rfl ?_
   | refine wp2_region ?_
   | refine wp2_cond fun X Y hX hY => ?_
   | (refine condK_of (fun c => ?_) (fun c => ?_) <;> (try simp [-List.length_eq_zero_iff] at c))
   | simp (maxSteps := 4000000) (disch := omega) [f0, f4, f5, f6, h4, h6, p5, mk1, makes, k0, k1, k2, k3, k4, m0, m1, m2, m3, m4])
  generalize hst : St.put _ (some 33) _ = st7
  have q7 : Keep lawU st0 (renL st7 [(6, 79106), (22, 79122)]) := by
    rw [← hst]
    simp only [renL_cons, renL_nil]
    (repeat' first | exact q6 | exact q6 _ | refine Keep.put ?_ _ _ | refine Keep.setOb ?_ (by first | rfl | simp) _ | refine Keep.kill hc ?_ (by first | rfl | simp) | refine Keep.ren hc ?_ (by first | rfl | simp) | refine Keep.ren1 hc ?_ (by first | rfl | simp) | refine Keep.kill1 hc ?_ (by first | rfl | simp))
  have hN : RuOb (renL st7 [(6, 79106), (22, 79122)]) rs := by
    rw [← hst]
    exact ⟨by simp [p5], fun i hi => by simp [p3 i hi]⟩
  have o0 : (renL st7 [(6, 79106), (22, 79122)]).tm 0 = .t (recs encRu rs) := by
    rw [← hst]
    simp [f0]
  have o4 : (renL st7 [(6, 79106), (22, 79122)]).tm 4 = .ptr (79104, 0) 0 0 := by
    rw [← hst]
    simp [f4]
  have o6 : (renL st7 [(6, 79106), (22, 79122)]).tm 6 = .ptr (79106, 0) 0 0 := by
    rw [← hst]
    simp [f6]
  have o32 : (renL st7 [(6, 79106), (22, 79122)]).tm 32 = .row (70005, 0) 3 0 rs.length := by
    rw [← hst]
    simp
  have o33 : (renL st7 [(6, 79106), (22, 79122)]).tm 33 = .t (.v (.int .i64 1)) := by
    rw [← hst]
    simp
  have i4 : (renL st7 [(6, 79106), (22, 79122)]).ob (79104, 0) = some (.var [.t (.v (.int .i64 cd)), .row (79118, 0) 1 0 a.length, .row (79118, 1) 1 0 b.length, .row (79118, 2) 1 0 d.length, .row (79118, 3) 1 0 e.length, .row (79118, 4) 1 0 f.length]) := by
    rw [← hst]
    simp [h4]
  have j0 : (renL st7 [(6, 79106), (22, 79122)]).ob (79118, 0) = some (.row 1 (intRow a)) := by
    rw [← hst]
    simp [k0]
  have j1 : (renL st7 [(6, 79106), (22, 79122)]).ob (79118, 1) = some (.row 1 (intRow b)) := by
    rw [← hst]
    simp [k1]
  have j2 : (renL st7 [(6, 79106), (22, 79122)]).ob (79118, 2) = some (.row 1 (intRow d)) := by
    rw [← hst]
    simp [k2]
  have j3 : (renL st7 [(6, 79106), (22, 79122)]).ob (79118, 3) = some (.row 1 (intRow e)) := by
    rw [← hst]
    simp [k3]
  have j4 : (renL st7 [(6, 79106), (22, 79122)]).ob (79118, 4) = some (.row 1 (boolRow f)) := by
    rw [← hst]
    simp [k4]
  have i6 : (renL st7 [(6, 79106), (22, 79122)]).ob (79106, 0) = some (.var [.t (.v (.int .i64 cd)), .row (79122, 0) 1 0 a.length, .row (79122, 1) 1 0 b.length, .row (79122, 2) 1 0 d.length, .row (79122, 3) 1 0 e.length, .row (79122, 4) 1 0 f.length]) := by
    rw [← hst]
    simp [h6]
  have n0 : (renL st7 [(6, 79106), (22, 79122)]).ob (79122, 0) = some (.row 1 (intRow a)) := by
    rw [← hst]
    simp [m0]
  have n1 : (renL st7 [(6, 79106), (22, 79122)]).ob (79122, 1) = some (.row 1 (intRow b)) := by
    rw [← hst]
    simp [m1]
  have n2 : (renL st7 [(6, 79106), (22, 79122)]).ob (79122, 2) = some (.row 1 (intRow d)) := by
    rw [← hst]
    simp [m2]
  have n3 : (renL st7 [(6, 79106), (22, 79122)]).ob (79122, 3) = some (.row 1 (intRow e)) := by
    rw [← hst]
    simp [m3]
  have n4 : (renL st7 [(6, 79106), (22, 79122)]).ob (79122, 4) = some (.row 1 (boolRow f)) := by
    rw [← hst]
    simp [m4]
  refine callI_named [(6, 79106), (22, 79122)] [0, 4, 6, 32, 33] (fun id => calm lawU id ∨ (ruId rs id ∨ (id = (79104, 0) ∨ id = (79106, 0) ∨ id = (79118, 0) ∨ id = (79118, 1) ∨ id = (79118, 2) ∨ id = (79118, 3) ∨ id = (79118, 4) ∨ id = (79122, 0) ∨ id = (79122, 1) ∨ id = (79122, 2) ∨ id = (79122, 3) ∨ id = (79122, 4)))) (by decide) ⟨Try.f35, by kernel_rfl, by kernel_rfl, rfl⟩ [.row (70005, 0) 3 0 rs.length, .t (.v (.int .i64 1))] (by simp [-renL_cons, o32, o33]) ?_
  clear hst q6 f0 f4 f5 f6 h4 h6 p5 p3 k0 k1 k2 k3 k4 m0 m1 m2 m3 m4
  generalize renL st7 [(6, 79106), (22, 79122)] = st8 at *
  have hacc := accU_size (rs := rs) rs.length
  have hsum := sumU_nn (l := rs) rs.length
  have hs9 := hs
  unfold sizeU at hs9
  have hN8 : RuOb (st8.only [0, 4, 6, 32, 33] (fun id => calm lawU id ∨ (ruId rs id ∨ (id = (79104, 0) ∨ id = (79106, 0) ∨ id = (79118, 0) ∨ id = (79118, 1) ∨ id = (79118, 2) ∨ id = (79118, 3) ∨ id = (79118, 4) ∨ id = (79122, 0) ∨ id = (79122, 1) ∨ id = (79122, 2) ∨ id = (79122, 3) ∨ id = (79122, 4))))).push rs := ruOb_congr hN fun id hid => by rw [push_ob, only_ob (.inr (.inl hid))]
  refine markUs_inl _ (push_frame hc q7 rfl (by simp [o0, o4, o6, o32, o33, AV.free, calm]) ?_) _ (fun i => (nth rs (i : Int)).seq.length) rs.length 1 (by omega) (by omega) hl (fun i hi => hq i hi) (by rw [hN8.big, uU_all]) (fun i hi => ⟨_, rfl, hN8.seq i hi⟩) ?_
  · rintro id o (hid | rfl | rfl | rfl | rfl | rfl | rfl | rfl | rfl | rfl | rfl | rfl | rfl) ho
    · exact ruOb_free hN hid ho
    · rw [i4] at ho
      cases ho
      simp [Ob.avs, AV.frees, AV.free, calm]
    · rw [i6] at ho
      cases ho
      simp [Ob.avs, AV.frees, AV.free, calm]
    · rw [j0] at ho
      cases ho
      unfold Ob.avs AV.frees; trivial
    · rw [j1] at ho
      cases ho
      unfold Ob.avs AV.frees; trivial
    · rw [j2] at ho
      cases ho
      unfold Ob.avs AV.frees; trivial
    · rw [j3] at ho
      cases ho
      unfold Ob.avs AV.frees; trivial
    · rw [j4] at ho
      cases ho
      unfold Ob.avs AV.frees; trivial
    · rw [n0] at ho
      cases ho
      unfold Ob.avs AV.frees; trivial
    · rw [n1] at ho
      cases ho
      unfold Ob.avs AV.frees; trivial
    · rw [n2] at ho
      cases ho
      unfold Ob.avs AV.frees; trivial
    · rw [n3] at ho
      cases ho
      unfold Ob.avs AV.frees; trivial
    · rw [n4] at ho
      cases ho
      unfold Ob.avs AV.frees; trivial
  intro s' hk'
  obtain ⟨kp, ktm⟩ := hk'.pop
  generalize s'.pop0 = s9 at *
  have q9 := keep_back q7 kp rfl
  have z0 : s9.tm 0 = .t (recs encRu rs) := by rw [ktm]; simp [o0]
  have z4 : s9.tm 4 = .ptr (79104, 0) 0 0 := by rw [ktm]; simp [o4]
  have z6 : s9.tm 6 = .ptr (79106, 0) 0 0 := by rw [ktm]; simp [o6]
  have x4 := (back_ob kp (id := (79104, 0)) (by simp) (by simp [calm])).trans i4
  have x6 := (back_ob kp (id := (79106, 0)) (by simp) (by simp [calm])).trans i6
  have y0 := (back_ob kp (id := (79118, 0)) (by simp) (by simp [calm])).trans j0
  have y1 := (back_ob kp (id := (79118, 1)) (by simp) (by simp [calm])).trans j1
  have y2 := (back_ob kp (id := (79118, 2)) (by simp) (by simp [calm])).trans j2
  have y3 := (back_ob kp (id := (79118, 3)) (by simp) (by simp [calm])).trans j3
  have y4 := (back_ob kp (id := (79118, 4)) (by simp) (by simp [calm])).trans j4
  have v0 := (back_ob kp (id := (79122, 0)) (by simp) (by simp [calm])).trans n0
  have v1 := (back_ob kp (id := (79122, 1)) (by simp) (by simp [calm])).trans n1
  have v2 := (back_ob kp (id := (79122, 2)) (by simp) (by simp [calm])).trans n2
  have v3 := (back_ob kp (id := (79122, 3)) (by simp) (by simp [calm])).trans n3
  have v4 := (back_ob kp (id := (79122, 4)) (by simp) (by simp [calm])).trans n4
  clear q7 hk' kp ktm o0 o4 o6 o32 o33 i4 i6 hN hN8 j0 j1 j2 j3 j4 n0 n1 n2 n3 n4
  have hk0 : 0 ≤ (1 : Int) + (accU (fun i => 2 + (nth rs (i : Int)).seq.length) rs.length : Int) := by omega
  generalize (1 : Int) + (accU (fun i => 2 + (nth rs (i : Int)).seq.length) rs.length : Int) = kk at *
  have hk1 : ¬ kk < 0 := by omega
  have hM := markBo cd a b d e f la lb ld le lf 1 (by omega) (by omega)
  have hH := heldBo cd a.length b.length d.length e.length f.length la lb ld le lf 1 (by omega) (by omega)
  repeat' (first
   | refine wp2_seq fun K hK => ?_
   | refine M_cons fun K hK => ?_
   | (refine hK _ ?_; clear hK K)
   | (refine hX _ ?_; clear hX hY X Y)
   | (refine hY _ ?_; clear hX hY X Y)
   | refine wp2_region ?_
   | refine wp2_cond fun X Y hX hY => ?_
   | (refine condK_of (fun c => ?_) (fun c => ?_) <;> (try simp [-List.length_eq_zero_iff] at c))
   | (refine callT_fl (hE) (by simp [St.args, St.arg, z0, z4, z6, x4, x6, hk1, mk1, makes, tkIU, tkBU, y0, y1, y2, y3, y4, v0, v1, v2, v3, v4] <;> first | rfl | ((repeat' first | rfl | apply And.intro); first | done | fail)) ?_)
   | (refine callT_gen false (hT) (by simp) (by simp [St.args, St.arg, z0, z4, z6, x4, x6, hk1, mk1, makes, tkIU, tkBU, y0, y1, y2, y3, y4, v0, v1, v2, v3, v4] <;> first | rfl | ((repeat' first | rfl | apply And.intro); first | done | fail)) (by simp [apartArgs, mutsOf, noRow]) (by simp [callFrz, valsOf, outEff]) ?_)
   | (refine callT_gen false (hI) (by simp) (by simp [St.args, St.arg, z0, z4, z6, x4, x6, hk1, mk1, makes, tkIU, tkBU, y0, y1, y2, y3, y4, v0, v1, v2, v3, v4] <;> first | rfl | ((repeat' first | rfl | apply And.intro); first | done | fail)) (by simp [apartArgs, mutsOf, noRow]) (by simp [callFrz, valsOf, outEff]) ?_)
   | (refine callT_sh true (sh := [some 6, none]) (hM) (by simp; rfl) (by simp [St.args, St.arg, z0, z4, z6, x4, x6, hk1, mk1, makes, tkIU, tkBU, y0, y1, y2, y3, y4, v0, v1, v2, v3, v4] <;> first | rfl | ((repeat' first | rfl | apply And.intro); first | done | fail)) (fun _ => ⟨(by first | (simp [RV.flat, RV.flats, T.flat]; done) | ((repeat' first | exact flat_intRow _ | exact flat_boolRow _ | exact flat_byteR _ | exact trivial | constructor | unfold RV.flat | unfold RV.flats); first | done | fail)), (by (repeat' first | exact flat_intRow _ | exact flat_boolRow _ | exact flat_byteR _ | exact trivial | constructor | unfold Arg.flats | unfold Arg.flat); first | done | fail)⟩) (by simp [apartArgs, mutsOf, noRow, valsOf]) (by simp) ?_)
   | (refine callT_fl (hH) (by simp [St.args, St.arg, z0, z4, z6, x4, x6, hk1, mk1, makes, tkIU, tkBU, y0, y1, y2, y3, y4, v0, v1, v2, v3, v4] <;> first | rfl | ((repeat' first | rfl | apply And.intro); first | done | fail)) ?_)
   | simp (maxSteps := 4000000) (disch := omega) [z0, z4, z6, x4, x6, hk1, mk1, makes, tkIU, tkBU, y0, y1, y2, y3, y4, v0, v1, v2, v3, v4])
  all_goals try (simp [z0, z4, z6, x4, x6, hk1, mk1, makes, tkIU, tkBU, y0, y1, y2, y3, y4, v0, v1, v2, v3, v4, Back]; done)
  all_goals first | omega | skip
theorem tabB_le {f : Nat → Bool} {n : Nat} (h : n ≤ 2000) : (tabB f n).length ≤ 2000 := by simpa using h
theorem tabI_le {f : Nat → Int} {n : Nat} (h : n ≤ 2000) : (tabI f n).length ≤ 2000 := by simpa using h
/-- The statement's function says yes. -/
theorem lawBA (rs : List Ru) (hg : LU rs) : CallsF Try.prog 5 [.val (recs encRu rs)] (.t (.v (.bool true))) [] := by
  by_cases hs : 1048576 < sizeU rs
  · have e : leaveU 1048576 (rs.length + sumU rs rs.length) = -1 := if_pos hs
    have hz := szUs rs 1048576 hg.sm hg.each (by omega) (by omega)
    rw [e] at hz
    refine callsF_of_wp2 (fn := Try.f5) (k := k5) (fun _ => []) mixed (by kernel_rfl) rfl (by kernel_rfl) (by kernel_rfl) (by kernel_rfl) rfl (by simp [Try.f5]) (by simp [Arg.like]) ?_
    generalize hst : St.enter [.val (recs encRu rs)] = st0
    have t0 : st0.tm 0 = .t (recs encRu rs) := by rw [← hst]; rfl
    clear hst
    unfold k5
    repeat' (first
     | refine wp2_seq fun K hK => ?_
     | refine M_cons fun K hK => ?_
     | (refine hK _ ?_; clear hK K)
     | (refine hX _ ?_; clear hX hY X Y)
     | refine wp2_region ?_
     | refine wp2_cond fun X Y hX hY => ?_
     | (refine condK_of (fun c => ?_) (fun c => ?_) <;> (try simp [-List.length_eq_zero_iff] at c))
     | (refine callT_fl (hz) (by simp [St.args, St.arg, t0] <;> first | rfl | ((repeat' first | rfl | apply And.intro); first | done | fail)) ?_)
     | simp (maxSteps := 4000000) (disch := omega) [t0])
    all_goals try (simp [t0, Back]; done)
  · have hs : sizeU rs ≤ 1048576 := by omega
    obtain ⟨hl, hq⟩ := sizeU_each hs
    have hW : Rus rs := ⟨hl, hq⟩
    by_cases h : RGood rs
    · by_cases hw : 2000 < (wordsOf rs).length
      · have hI := buildI_12 hW h
        unfold resB at hI
        rw [if_pos hw] at hI
        exact lawU_n rs hg hs 13 hI (buildS_2 hW h hw)
      · have hI := buildI_12 hW h
        unfold resB at hI
        rw [if_neg hw] at hI
        have hlen : (wordsOf rs).length ≤ 2000 := by omega
        have pos : 1 ≤ (wordsOf rs).length := List.length_pos_of_mem (nil_word rs rs.length)
        exact lawU_y rs hg hs 0 _ _ _ _ _ (tabI_le hlen) (tabI_le hlen) (tabI_le hlen) (tabI_le hlen) (tabB_le hlen) hI (buildS_1 hW h hw pos)
    · exact lawU_n rs hg hs 12 (buildI_3 hW h) (buildS_3 hW h)
end Cal
