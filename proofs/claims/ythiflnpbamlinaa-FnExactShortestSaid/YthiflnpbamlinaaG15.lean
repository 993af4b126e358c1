/- A part of the proof: a calculus of our own over the model's code, and contracts of the program's functions. -/
import Derived.Test.YthiflnpbamlinaaG12
import Derived.Test.YthiflnpbamlinaaG14
/- impl.shortest: the whole. -/
set_option linter.unusedSimpArgs false
set_option linter.unusedVariables false
namespace Cal
open Go Go.Proofs
set_option maxRecDepth 100000
theorem enter_calm3 (E F : List Nat) (xs : List T) (a b : T) : (St.enter [.agg xs, .val a, .val b]).Calm E F := by
  refine ⟨fun t => by simp [St.enter, AV.free], fun id o _ ho => ?_⟩
  have : (St.enter [.agg xs, .val a, .val b]).ob id = none := by
    simp only [St.enter]
    split
    · rcases id.1 - base with _ | _ | _ | n <;> rfl
    · rfl
  rw [this] at ho
  cases ho
@[simp] theorem make_recQ (d e n : Nat) (h : n ≤ 1000000) : makeA d (some (e, ⟨true, 3, 24, [.int .i64 0, .int .i64 0, .int .i64 0]⟩)) (.t (.v (.int .i64 n))) (.t (.v (.int .i64 n))) = some (.row (d, 0) 3 0 n, [((d, 0), some (.row 3 (recRow encQ (List.replicate n ⟨0, 0, 0⟩))))]) := by
  have : n * 24 ≤ 140737488355328 := by omega
  simp [makeA, TI.fine, plain, lim, this, recRow, encQ]
/-- A route, its edges owned. -/
def rtRV : Rt → List RV
  | none => [.t (.v (.int .i64 1)), .t (.v (.int .i64 0)), .t (.v (.slice none 0 0))]
  | some (c, e) => [.t (.v (.int .i64 0)), .t (.v (.int .i64 c)), .own 1 (intRow e)]
set_option maxHeartbeats 0 in
theorem shortI_c {g : Gr} (h : VG g) {e t : Int} (h0 : 0 ≤ e) (h1 : e < g.start.length) {R : Rt} (hR : IsBest g e t R) :
    CallsF Try.prog 88 [.agg (encG g), .val (.v (.int .i64 e)), .val (.v (.int .i64 t))] (.agg (rtRV R)) [] := by
  refine callsF_of_wp2 (fn := Try.f88) (k := k88) (fun | 56 => (353 :: .nil) | _ => .nil) mixed (by kernel_rfl) rfl (by kernel_rfl) (by kernel_rfl) (by kernel_rfl) rfl (by simp [Try.f88]) (by simp [Arg.like]) ?_
  generalize hst : St.enter [.agg (encG g), .val (.v (.int .i64 e)), .val (.v (.int .i64 t))] = st0
  have hc : st0.Calm F0 F0 := by rw [← hst]; exact enter_calm3 _ _ _ _ _
  have q0 : ∀ F, Keep F st0 st0 := fun F => Keep.refl F st0
  have t0 : st0.tm 0 = .agg (encG g |>.map .t) := by rw [← hst]; rfl
  have t1 : st0.tm 1 = .t (.v (.int .i64 e)) := by rw [← hst]; rfl
  have t2 : st0.tm 2 = .t (.v (.int .i64 t)) := by rw [← hst]; rfl
  clear hst
  unfold k88
  simp [encG] at t0
  have l1 := h.l1
  have l2 := h.l2
  have l3 := h.l3
  have l5 := h.l5
  have l6 := h.l6
  have l7 := h.l7
  obtain ⟨a0, a1, a2⟩ := h.startOf h0 h1
  have gs := recRow_getI encQ (List.replicate g.edgeOf.length (⟨0, 0, 0⟩ : Rc)) (rd g.start e) a0 (by simpa using a1)
  have g0 : ∀ x : List T, ([x] : List (List T))[0]? = some x := fun _ => rfl
  have gb := boolRow_getI (List.replicate g.edgeOf.length false) (rd g.start e) a0 (by simpa using a1)
  repeat' (first
   | refine wp2_seq fun K hK => ?_
   | refine M_cons fun K hK => ?_
   | (refine hK _ ?_; clear hK K)
   | refine wp2_block ?_
   | (refine wp2_big (ops := ⟨some 60, _, _⟩ :: _) (79051, 0) (by simp [t0, t1, t2, gs, g0, gb, encQ] <;> first | rfl | exact ⟨rfl, rfl⟩) ?_)
   | refine wp2_canon (ops := ⟨some 29, _, _⟩ :: _) [(3, 79003), (6, 79006)] ?_
   | refine wp2_canon (ops := ⟨some 34, _, _⟩ :: _) [(33, 79033), (8, 79008)] ?_
   | refine wp2_canon (ops := ⟨some 36, _, _⟩ :: _) [(9, 79035)] ?_
   | refine wp2_canon (ops := ⟨some 38, _, _⟩ :: _) [(10, 79037)] ?_
   | refine wp2_canon (ops := ⟨some 52, _, _⟩ :: _) [(50, 79051), (12, 79050)] ?_
   | refine wp2_region ?_
   | simp (maxSteps := 4000000) (disch := omega) [t0, t1, t2, gs, g0, gb, encQ])
  all_goals first | omega | skip
  have z1 := rest_all h g.edgeOf.length (Nat.le_refl _)
  rw [h.fv] at z1
  have dj := DJ.start h h0 h1
  have hP : (fun y => y ∈ [W0 g e].take 1) = fun y => y = W0 g e := by
    funext y
    simp
  rw [← hP] at dj
  refine wp2_loop _ (1 + g.to.length) ?_ (ds_l0 (e := e) (t := t) (st0 := st0) h h0 h1 hc ?_)
  · refine ⟨_, _, _, [], [W0 g e], 1, ?_, ⟨by simp, by simp [cellsR, cellR, W0], by simp⟩, fun i _ _ => by omega, ?_, dj, by rw [z1]; push_cast; omega, by omega⟩
    · exact ⟨⟨by simp [t1], by simp [t2], by simp, by simp, by simp, by simp, by simp, by simp, by simp [ordV], by simp, by simp, by simp, by simp [W0], by simp, fun hn => absurd rfl hn⟩, by simp, by simp, by simp⟩
    · (repeat' first | exact q0 | exact q0 _ | refine Keep.put ?_ _ _ | refine Keep.setOb ?_ (by first | rfl | simp) _ | refine Keep.kill hc ?_ (by first | rfl | simp) | refine Keep.ren hc ?_ (by first | rfl | simp) | refine Keep.ren1 hc ?_ (by first | rfl | simp) | refine Keep.kill1 hc ?_ (by first | rfl | simp))
  intro s best has order hB q1 fd
  have lo : order.length ≤ 6000 := by
    have := nodup_lt _ _ fd.nd fun x hx => ((fd.ord x).1 hx).1
    omega
  repeat' (first
   | refine wp2_seq fun K hK => ?_
   | refine M_cons fun K hK => ?_
   | (refine hK _ ?_; clear hK K)
   | refine wp2_block ?_
   | refine wp2_canon (ops := ⟨some 167, _, _⟩ :: _) [(18, 79018)] ?_
   | refine wp2_region ?_
   | simp (maxSteps := 4000000) (disch := omega) [hB.s1, hB.s2, hB.s3, hB.o3, hB.s6, hB.o6, hB.s7, hB.s8, hB.o8, hB.o33, hB.s10, hB.o37, hB.s11])
  all_goals first | omega | skip
  refine wp2_loop _ g.edgeOf.length ?_ (ds_l2 (t := t) (st0 := st0) h h0 h1 hc fd ?_)
  · refine ⟨⟨-1, 0, 0⟩, 0, ?_, by simp, by simp [cellR], by simp, by simp, ?_, GL.start _ _ _ _, by omega, rfl⟩
    · exact ⟨by simp [hB.s1], by simp [hB.s2], by simp [hB.s3], by simp [hB.s6], by simp [hB.s7], by simp [hB.s8], by simp [hB.s10], by simp [hB.s11], by simp [hB.s13], by simp [hB.o3], by simp [hB.o6], by simp [hB.o8], by simp [hB.o33], by simp [hB.o37], fun hn => by simp [hB.o85 hn]⟩
    · (repeat' first | exact q1 | exact q1 _ | refine Keep.put ?_ _ _ | refine Keep.setOb ?_ (by first | rfl | simp) _ | refine Keep.kill hc ?_ (by first | rfl | simp) | refine Keep.ren hc ?_ (by first | rfl | simp) | refine Keep.ren1 hc ?_ (by first | rfl | simp) | refine Keep.kill1 hc ?_ (by first | rfl | simp))
  clear hB q1
  intro s q hB s18 o18 q1 gl
  have o18' := o18
  unfold cellR at o18
  by_cases hn : q.a < 0
  · obtain rfl := (fd.none h h0 h1 gl hn).one hR
    repeat' (first
     | refine wp2_seq fun K hK => ?_
     | refine M_cons fun K hK => ?_
     | (refine hK _ ?_; clear hK K)
     | (refine hX _ ?_; clear hX hY X Y)
     | refine wp2_region ?_
     | refine wp2_cond fun X Y hX hY => ?_
     | (refine condK_of (fun c => ?_) (fun c => ?_) <;> (try simp [-List.length_eq_zero_iff] at c))
     | simp (maxSteps := 4000000) (disch := omega) [hB.s1, hB.s2, hB.s3, hB.o3, hB.s6, hB.o6, hB.s7, hB.s8, hB.o8, hB.o33, hB.s10, hB.o37, hB.s11, s18, o18, hn])
    all_goals simp [Back, rtRV, hB.s6]
  · have ok := fd.ok h h0 h1 gl hn
    obtain ⟨sr, sh, sa, sb, sg, sbest⟩ := ok.start
    obtain ⟨er, lm⟩ := ok.lexMin _ rfl sr sh sg
    obtain rfl := (sbest er lm).one hR
    have on : order.length ≠ 0 := fun hz => by
      have := (ok.ord _).2 ⟨sr, sh⟩
      rw [List.eq_nil_of_length_eq_zero hz] at this
      cases this
    have s13 : s.tm 13 = .row (79085, 0) 1 0 order.length := by rw [hB.s13]; unfold ordV; rw [if_neg on]
    have o85 := hB.o85 on
    repeat' (first
     | refine wp2_seq fun K hK => ?_
     | refine M_cons fun K hK => ?_
     | (refine hK _ ?_; clear hK K)
     | (refine hY _ ?_; clear hX hY X Y)
     | refine wp2_block ?_
     | refine wp2_canon (ops := ⟨some 223, _, _⟩ :: _) [(21, 79021)] ?_
     | refine wp2_region ?_
     | refine wp2_cond fun X Y hX hY => ?_
     | (refine condK_of (fun c => ?_) (fun c => ?_) <;> (try simp [-List.length_eq_zero_iff] at c))
     | simp (maxSteps := 4000000) (disch := omega) [hB.s1, hB.s2, hB.s3, hB.o3, hB.s6, hB.o6, hB.s7, hB.s8, hB.o8, hB.o33, hB.s10, hB.o37, hB.s11, s18, o18, hn, s13, o85])
    all_goals first | omega | skip
    refine wp2_loop _ order.length ?_ (ds_l3 (t := t) (st0 := st0) h h0 h1 hc ok lo ?_)
    · refine ⟨List.replicate g.edgeOf.length false, ?_, by simp [s18], by simp [o18, cellR], by simp, by simp, by simp [hB.s3, hB.s8], by simp, ?_, GB.start, Nat.le_refl _⟩
      · exact ⟨by simp [hB.s1], by simp [hB.s2], by simp [hB.s3], by simp [hB.s6], by simp [hB.s7], by simp [hB.s8], by simp [hB.s10], by simp [hB.s11], by simp [hB.s13], by simp [hB.o3], by simp [hB.o6], by simp [hB.o8], by simp [hB.o33], by simp [hB.o37], fun hn => by simp [hB.o85 hn]⟩
      · (repeat' first | exact q1 | exact q1 _ | refine Keep.put ?_ _ _ | refine Keep.setOb ?_ (by first | rfl | simp) _ | refine Keep.kill hc ?_ (by first | rfl | simp) | refine Keep.ren hc ?_ (by first | rfl | simp) | refine Keep.ren1 hc ?_ (by first | rfl | simp) | refine Keep.kill1 hc ?_ (by first | rfl | simp))
    clear hB q1 s18 o18 o18' s13 o85
    intro s good hB s18 o18 s21 o21 s22 q1 gb
    unfold cellR at o18
    repeat' (first
     | refine wp2_seq fun K hK => ?_
     | refine M_cons fun K hK => ?_
     | (refine hK _ ?_; clear hK K)
     | refine wp2_block ?_
     | refine wp2_canon (ops := ⟨some 302, _, _⟩ :: _) [(300, 79030), (26, 79026)] ?_
     | refine wp2_region ?_
     | simp (maxSteps := 4000000) (disch := omega) [hB.s1, hB.s2, hB.s3, hB.o3, hB.s6, hB.o6, hB.s7, hB.s8, hB.o8, hB.o33, hB.s10, hB.o37, hB.s11, s18, o18, s21, o21, s22])
    all_goals first | omega | skip
    have lf : (e :: er).length ≤ 6001 := by
      obtain ⟨⟨mm, cc, uu, ff, hu, ha, hb⟩, _⟩ := lm
      have l := ff.len
      obtain ⟨u2, u3, u4, u5, u6⟩ := ok.hit
      have := (ok.toFD.bound h h0 h1 u3 u5).2.2.2
      rw [← u6] at this
      simp
      omega
    refine wp2_loop _ (q.b - (nth best (rd g.start e)).b).toNat ?_ (ds_l5 (t := t) (st0 := st0) (fin := e :: er) h h0 h1 hc ok gb lf ?_)
    · refine ⟨rd g.start e, [e], er, (79030, 0), ⟨?_, by simp [s18], by simp [o18, cellR], by simp [s21], by simp [o21], by simp [s22], by simp, by simp, by simp, ?_⟩, .inl rfl, by simp, sr, sh, sg, lm, rfl, rfl⟩
      · exact ⟨by simp [hB.s1], by simp [hB.s2], by simp [hB.s3], by simp [hB.s6], by simp [hB.s7], by simp [hB.s8], by simp [hB.s10], by simp [hB.s11], by simp [hB.s13], by simp [hB.o3], by simp [hB.o6], by simp [hB.o8], by simp [hB.o33], by simp [hB.o37], fun hn => by simp [hB.o85 hn]⟩
      · (repeat' first | exact q1 | exact q1 _ | refine Keep.put ?_ _ _ | refine Keep.setOb ?_ (by first | rfl | simp) _ | refine Keep.kill hc ?_ (by first | rfl | simp) | refine Keep.ren hc ?_ (by first | rfl | simp) | refine Keep.ren1 hc ?_ (by first | rfl | simp) | refine Keep.kill1 hc ?_ (by first | rfl | simp))
    clear hB q1 s18 o18 s21 o21 s22
    rintro s rid ⟨hB, s18, o18, s21, o21, s22, s26, o26, o30, q1⟩ hid
    rcases hid with rfl | rfl
    · repeat' (first
     | refine wp2_seq fun K hK => ?_
     | refine M_cons fun K hK => ?_
     | (refine hK _ ?_; clear hK K)
     | refine wp2_region ?_
     | simp (maxSteps := 4000000) (disch := omega) [hB.s1, hB.s2, hB.s3, hB.o3, hB.s6, hB.o6, hB.s7, hB.s8, hB.o8, hB.o33, hB.s10, hB.o37, hB.s11, s26, o26, o30])
      all_goals simp [Back, rtRV, hB.s6, o30]
    · repeat' (first
     | refine wp2_seq fun K hK => ?_
     | refine M_cons fun K hK => ?_
     | (refine hK _ ?_; clear hK K)
     | refine wp2_region ?_
     | simp (maxSteps := 4000000) (disch := omega) [hB.s1, hB.s2, hB.s3, hB.o3, hB.s6, hB.o6, hB.s7, hB.s8, hB.o8, hB.o33, hB.s10, hB.o37, hB.s11, s26, o26, o30])
      all_goals simp [Back, rtRV, hB.s6, o30]
end Cal

/- spec.Shortest: its loops. -/
set_option linter.unusedSimpArgs false
set_option linter.unusedVariables false
namespace Cal
open Go Go.Proofs
set_option maxRecDepth 100000
theorem KN.len {ws : List Wk} {V : Nat} (hn : KN ws) (h : ∀ w ∈ ws, ∃ v, w.k = [v] ∧ 0 ≤ v ∧ v < V) : ws.length ≤ V := by
  have := nodup_lt V (ws.map fun w => w.k.headD 0) (by
    unfold KN List.Nodup at hn
    rw [List.pairwise_map] at hn
    unfold List.Nodup
    rw [List.pairwise_map]
    refine hn.imp_of_mem fun {a b} ha hb hab => ?_
    obtain ⟨v, hv, _⟩ := h a ha
    obtain ⟨u, hu, _⟩ := h b hb
    rw [hv, hu] at hab ⊢
    simpa using hab) (by
    intro x hx
    obtain ⟨w, hw, rfl⟩ := List.mem_map.1 hx
    obtain ⟨v, hv, h1⟩ := h w hw
    rw [hv]
    exact h1)
  rwa [List.length_map] at this
/-- Walks with keys that differ, of at most n arcs. -/
def Fr (g : Gr) (s : Int) (n : Nat) (ws : List Wk) : Prop := KN ws ∧ ∀ w ∈ ws, ∃ v m, m ≤ n ∧ w.k = [v] ∧ Wal g s v m w.c w.e
structure FrF (g : Gr) (n : Nat) (w : Wk) : Prop where
  k : ∃ v, w.k = [v] ∧ 0 ≤ v ∧ v < g.edgeOf.length
  e0 : 0 < w.e.length
  e1 : w.e.length ≤ n + 1
  c0 : 0 ≤ w.c
  c1 : w.c ≤ 1048576 + n * 3145728
theorem Fr.at {g : Gr} {s : Int} {n : Nat} {ws : List Wk} (h : VG g) (h0 : 0 ≤ s) (h1 : s < g.start.length) (hf : Fr g s n ws) {w : Wk} (hw : w ∈ ws) : FrF g n w := by
  obtain ⟨v, m, hm, hk, w'⟩ := hf.2 w hw
  have f := w'.fine h h0 h1
  have a := f.el
  have b := f.c1
  exact ⟨⟨v, hk, f.v0, f.v1⟩, by omega, by omega, f.c0, by omega⟩
theorem Fr.len {g : Gr} {s : Int} {n : Nat} {ws : List Wk} (h : VG g) (h0 : 0 ≤ s) (h1 : s < g.start.length) (hf : Fr g s n ws) : ws.length ≤ 6000 := by
  have := hf.1.len fun w hw => (hf.at h h0 h1 hw).k
  have := h.l3
  omega
theorem Fr.wks {g : Gr} {s : Int} {n : Nat} {ws : List Wk} (h : VG g) (h0 : 0 ≤ s) (h1 : s < g.start.length) (hf : Fr g s n ws) (hn : n ≤ 6000) : Wks ws := by
  have hl := hf.len h h0 h1
  refine .of (by omega) fun w hw => ?_
  have a := hf.at h h0 h1 hw
  obtain ⟨v, hk, _⟩ := a.k
  have := a.e1
  rw [hk]
  simp
  omega
theorem NF.fr {g : Gr} {s : Int} {n i : Nat} {f sn next : List Wk} (h : NF g s n f sn i next) : Fr g s (n + 1) next := ⟨h.nn, fun w hw => by
  obtain ⟨v, h1, h2⟩ := h.nr w hw
  exact ⟨v, n + 1, Nat.le_refl _, h1, h2⟩⟩
theorem RI.frf {g : Gr} {s t : Int} {n : Nat} {f sn : List Wk} {b : Rt} (h : RI g s t n f sn b) : Fr g s n f := ⟨h.fn, fun w hw => by
  obtain ⟨v, h1, h2⟩ := h.fr w hw
  exact ⟨v, n, Nat.le_refl _, h1, h2⟩⟩
theorem RI.frs {g : Gr} {s t : Int} {n : Nat} {f sn : List Wk} {b : Rt} (h : RI g s t n f sn b) : Fr g s n sn := ⟨h.kn, h.sr⟩
/-- The state ahead of a round. -/
structure ShB (g : Gr) (t : Int) (b : Rt) (r : Int) (f sn : List Wk) (s : St) : Prop where
  s2 : s.tm 2 = .t (.v (.int .i64 t))
  s3 : s.tm 3 = .ptr (3, 0) 0 0
  o3 : s.ob (3, 0) = objG g
  s6 : s.tm 6 = .ptr (6, 0) 0 0
  o6 : s.ob (6, 0) = some (.var [.t (.v (.int .i64 0)), .t (.v (.int .i64 0)), .t (.v (.slice none 0 0))])
  s8 : s.tm 8 = .row (8, 0) 3 0 f.length
  o8 : s.ob (8, 0) = some (.frz 3 (recRow encW f))
  s9 : s.tm 9 = .row (9, 0) 3 0 sn.length
  o9 : s.ob (9, 0) = some (.row 3 (recRow encW sn))
  s10 : s.tm 10 = .ptr (10, 0) 0 0
  o10 : s.ob (10, 0) = some (.var ((encRt b).map .t))
  s11 : s.tm 11 = .t (.v (.int .i64 r))
structure ShN (g : Gr) (t : Int) (b : Rt) (r : Int) (f sn next : List Wk) (s : St) : Prop extends ShB g t b r f sn s where
  s12 : s.tm 12 = .row (12, 0) 3 0 next.length
  o12 : s.ob (12, 0) = some (.row 3 (recRow encW next))
@[simp] theorem rensG_mt (r : Id → Id) : ∀ l : List T, AV.rensG r (l.map .t) = l.map .t
  | [] => rfl
  | x :: l => by
    have := rensG_mt r l
    simp only [List.map_cons, AV.rensG, AV.renG, this]
@[simp] theorem muteB_154 (t : Nat) : muteB true [154] (some t) = !(decide (t = 154)) := by simp [muteB]
/-- The body of a loop. -/
def k21_l2 : Code1 :=
 (.seq
 (.seq
 (.region [] false ([]) [
 ⟨some 96,Op.move (Operand.tmp 15),none⟩,
 ⟨some 97,Op.fieldAddr 50 (Operand.tmp 3) 2,none⟩,
 ⟨some 98,Op.load 22 (Operand.tmp 97),none⟩,
 ⟨some 99,Op.move (Operand.tmp 14),none⟩,
 ⟨some 100,Op.binOp BinOp.add 2 (Operand.tmp 99) (Operand.const (Value.int IntKind.i64 1)) 2,none⟩,
 ⟨some 101,Op.indexAddr 22 (Operand.tmp 98) (Operand.tmp 100),none⟩,
 ⟨some 102,Op.load 2 (Operand.tmp 101),none⟩,
 ⟨some 103,Op.binOp BinOp.lss 2 (Operand.tmp 96) (Operand.tmp 102) 2,none⟩])
 (.cond (Operand.tmp 103)
 .skip
 (.exit 4)))
 (.seq
 (.block 5
 (.seq
 (.region [] false ([]) [
 ⟨some 106,Op.fieldAddr 50 (Operand.tmp 3) 3,none⟩,
 ⟨some 107,Op.load 22 (Operand.tmp 106),none⟩,
 ⟨some 108,Op.move (Operand.tmp 15),none⟩,
 ⟨some 109,Op.indexAddr 22 (Operand.tmp 107) (Operand.tmp 108),none⟩,
 ⟨some 110,Op.load 2 (Operand.tmp 109),none⟩,
 ⟨some 16,Op.assign (Operand.tmp 110),none⟩])
 (.seq
 (.region [] true ([]) [
 ⟨some 111,Op.move (Operand.tmp 8),none⟩,
 ⟨some 112,Op.move (Operand.tmp 13),none⟩,
 ⟨some 113,Op.indexAddr 126 (Operand.tmp 111) (Operand.tmp 112),none⟩,
 ⟨some 114,Op.fieldAddr 125 (Operand.tmp 113) 1,none⟩,
 ⟨some 115,Op.load 2 (Operand.tmp 114),none⟩,
 ⟨some 116,Op.fieldAddr 50 (Operand.tmp 3) 4,none⟩,
 ⟨some 117,Op.load 22 (Operand.tmp 116),none⟩,
 ⟨some 118,Op.move (Operand.tmp 15),none⟩,
 ⟨some 119,Op.indexAddr 22 (Operand.tmp 117) (Operand.tmp 118),none⟩,
 ⟨some 120,Op.load 2 (Operand.tmp 119),none⟩,
 ⟨some 121,Op.binOp BinOp.add 2 (Operand.tmp 115) (Operand.tmp 120) 2,none⟩,
 ⟨some 17,Op.assign (Operand.tmp 121),none⟩])
 (.seq
 (.region [124,125] false ([]) [
 ⟨some 122,Op.move (Operand.tmp 9),none⟩,
 ⟨some 123,Op.move (Operand.tmp 16),none⟩,
 ⟨some 124,Op.buildSlice 22 1 #[(0,Operand.tmp 123)],none⟩,
 ⟨some 125,Op.call {callee:=Callee.value (Operand.func 83),args:=#[Operand.tmp 122,Operand.tmp 124],argTypes:=#[126,22]},none⟩,
 ⟨some 18,Op.assign (Operand.tmp 125),none⟩])
 (.seq
 (.seq
 (.region [] false ([]) [
 ⟨some 126,Op.move (Operand.tmp 18),none⟩,
 ⟨some 127,Op.binOp BinOp.geq 3 (Operand.tmp 126) (Operand.const (Value.int IntKind.i64 0)) 3,none⟩,
 ⟨some 128,Op.move (Operand.tmp 127),none⟩,
 ⟨some 129,Op.move (Operand.tmp 9),some (128,true)⟩,
 ⟨some 130,Op.move (Operand.tmp 18),some (128,true)⟩,
 ⟨some 131,Op.indexAddr 126 (Operand.tmp 129) (Operand.tmp 130),some (128,true)⟩,
 ⟨some 132,Op.fieldAddr 125 (Operand.tmp 131) 1,some (128,true)⟩,
 ⟨some 133,Op.load 2 (Operand.tmp 132),some (128,true)⟩,
 ⟨some 134,Op.move (Operand.tmp 17),some (128,true)⟩,
 ⟨some 135,Op.binOp BinOp.leq 2 (Operand.tmp 133) (Operand.tmp 134) 2,some (128,true)⟩,
 ⟨some 136,Op.pick (Operand.tmp 128) (Operand.tmp 135) (Operand.const (Value.bool false)),none⟩])
 (.cond (Operand.tmp 136)
 (.exit 5)
 .skip))
 (.region [148,149,152,154] true ([154]) [
 ⟨some 137,Op.move (Operand.tmp 12),none⟩,
 ⟨some 138,Op.move (Operand.tmp 8),none⟩,
 ⟨some 139,Op.move (Operand.tmp 13),none⟩,
 ⟨some 140,Op.indexAddr 126 (Operand.tmp 138) (Operand.tmp 139),none⟩,
 ⟨some 141,Op.fieldAddr 125 (Operand.tmp 140) 0,none⟩,
 ⟨some 142,Op.load 22 (Operand.tmp 141),none⟩,
 ⟨some 143,Op.fieldAddr 50 (Operand.tmp 3) 0,none⟩,
 ⟨some 144,Op.load 22 (Operand.tmp 143),none⟩,
 ⟨some 145,Op.move (Operand.tmp 16),none⟩,
 ⟨some 146,Op.indexAddr 22 (Operand.tmp 144) (Operand.tmp 145),none⟩,
 ⟨some 147,Op.load 2 (Operand.tmp 146),none⟩,
 ⟨some 148,Op.buildSlice 22 1 #[(0,Operand.tmp 147)],none⟩,
 ⟨some 149,Op.call {callee:=Callee.value (Operand.func 85),args:=#[Operand.tmp 142,Operand.tmp 148],argTypes:=#[22,22]},none⟩,
 ⟨some 150,Op.move (Operand.tmp 17),none⟩,
 ⟨some 151,Op.move (Operand.tmp 16),none⟩,
 ⟨some 152,Op.buildSlice 22 1 #[(0,Operand.tmp 151)],none⟩,
 ⟨some 153,Op.build 125 #[(0,Operand.tmp 149),(1,Operand.tmp 150),(2,Operand.tmp 152)],none⟩,
 ⟨some 154,Op.call {callee:=Callee.value (Operand.func 84),args:=#[Operand.tmp 137,Operand.tmp 153],argTypes:=#[126,125]},none⟩,
 ⟨some 12,Op.assign (Operand.tmp 154),none⟩]))))))
 (.region [] false ([]) [
 ⟨some 104,Op.move (Operand.tmp 15),none⟩,
 ⟨some 105,Op.binOp BinOp.add 2 (Operand.tmp 104) (Operand.const (Value.int IntKind.i64 1)) 2,none⟩,
 ⟨some 15,Op.assign (Operand.tmp 105),none⟩])))
/-- The body of a loop. -/
def k21_l1 : Code1 :=
 (.seq
 (.seq
 (.region [] false ([]) [
 ⟨some 78,Op.move (Operand.tmp 13),none⟩,
 ⟨some 79,Op.move (Operand.tmp 8),none⟩,
 ⟨some 80,Op.call {callee:=Callee.builtin Builtin.len,args:=#[Operand.tmp 79],argTypes:=#[126]},none⟩,
 ⟨some 81,Op.binOp BinOp.lss 3 (Operand.tmp 78) (Operand.tmp 80) 3,none⟩])
 (.cond (Operand.tmp 81)
 .skip
 (.exit 2)))
 (.seq
 (.block 3
 (.seq
 (.region [] false ([]) [
 ⟨some 84,Op.move (Operand.tmp 8),none⟩,
 ⟨some 85,Op.move (Operand.tmp 13),none⟩,
 ⟨some 86,Op.indexAddr 126 (Operand.tmp 84) (Operand.tmp 85),none⟩,
 ⟨some 87,Op.fieldAddr 125 (Operand.tmp 86) 2,none⟩,
 ⟨some 88,Op.load 22 (Operand.tmp 87),none⟩,
 ⟨some 89,Op.indexAddr 22 (Operand.tmp 88) (Operand.const (Value.int IntKind.i64 0)),none⟩,
 ⟨some 90,Op.load 2 (Operand.tmp 89),none⟩,
 ⟨some 14,Op.assign (Operand.tmp 90),none⟩])
 (.seq
 (.region [] false ([]) [
 ⟨some 91,Op.fieldAddr 50 (Operand.tmp 3) 2,none⟩,
 ⟨some 92,Op.load 22 (Operand.tmp 91),none⟩,
 ⟨some 93,Op.move (Operand.tmp 14),none⟩,
 ⟨some 94,Op.indexAddr 22 (Operand.tmp 92) (Operand.tmp 93),none⟩,
 ⟨some 95,Op.load 2 (Operand.tmp 94),none⟩,
 ⟨some 15,Op.assign (Operand.tmp 95),none⟩])
 (.block 4
 (.loop k21_l2)))))
 (.region [] false ([]) [
 ⟨some 82,Op.move (Operand.tmp 13),none⟩,
 ⟨some 83,Op.binOp BinOp.add 3 (Operand.tmp 82) (Operand.const (Value.int IntKind.i64 1)) 3,none⟩,
 ⟨some 13,Op.assign (Operand.tmp 83),none⟩])))
/-- The body of a loop. -/
def k21_l0 : Code1 :=
 (.seq
 (.seq
 (.region [] false ([]) [
 ⟨some 68,Op.move (Operand.tmp 11),none⟩,
 ⟨some 69,Op.binOp BinOp.gtr 3 (Operand.tmp 68) (Operand.const (Value.int IntKind.i64 0)) 3,none⟩,
 ⟨some 70,Op.move (Operand.tmp 69),none⟩,
 ⟨some 71,Op.move (Operand.tmp 8),some (70,true)⟩,
 ⟨some 72,Op.call {callee:=Callee.builtin Builtin.len,args:=#[Operand.tmp 71],argTypes:=#[126]},some (70,true)⟩,
 ⟨some 73,Op.binOp BinOp.gtr 3 (Operand.tmp 72) (Operand.const (Value.int IntKind.i64 0)) 3,some (70,true)⟩,
 ⟨some 74,Op.pick (Operand.tmp 70) (Operand.tmp 73) (Operand.const (Value.bool false)),none⟩])
 (.cond (Operand.tmp 74)
 .skip
 (.exit 0)))
 (.seq
 (.block 1
 (.seq
 (.region [77] false ([]) [
 ⟨some 77,Op.buildSlice 126 0 #[],none⟩,
 ⟨some 12,Op.assign (Operand.tmp 77),none⟩])
 (.seq
 (.seq
 (.region [] false ([]) [
 ⟨some 13,Op.assign (Operand.const (Value.int IntKind.i64 0)),none⟩])
 (.block 2
 (.loop k21_l1)))
 (.seq
 (.region [157] false ([]) [
 ⟨some 155,Op.move (Operand.tmp 12),none⟩,
 ⟨some 156,Op.move (Operand.tmp 9),none⟩,
 ⟨some 157,Op.call {callee:=Callee.value (Operand.func 86),args:=#[Operand.tmp 155,Operand.tmp 156],argTypes:=#[126,126]},none⟩,
 ⟨some 8,Op.assign (Operand.tmp 157),none⟩])
 (.seq
 (.region [160] false ([]) [
 ⟨some 158,Op.move (Operand.tmp 9),none⟩,
 ⟨some 159,Op.move (Operand.tmp 8),none⟩,
 ⟨some 160,Op.call {callee:=Callee.value (Operand.func 81),args:=#[Operand.tmp 158,Operand.tmp 159],argTypes:=#[126,126]},none⟩,
 ⟨some 9,Op.assign (Operand.tmp 160),none⟩])
 (.region [164] false ([]) [
 ⟨some 161,Op.load 48 (Operand.tmp 10),none⟩,
 ⟨some 162,Op.move (Operand.tmp 8),none⟩,
 ⟨some 163,Op.move (Operand.tmp 2),none⟩,
 ⟨some 164,Op.call {callee:=Callee.value (Operand.func 82),args:=#[Operand.tmp 161,Operand.tmp 162,Operand.tmp 163],argTypes:=#[48,126,2]},none⟩,
 ⟨none,Op.store 48 (Operand.tmp 10) (Operand.tmp 164),none⟩]))))))
 (.region [] false ([]) [
 ⟨some 75,Op.move (Operand.tmp 11),none⟩,
 ⟨some 76,Op.binOp BinOp.sub 3 (Operand.tmp 75) (Operand.const (Value.int IntKind.i64 1)) 3,none⟩,
 ⟨some 11,Op.assign (Operand.tmp 76),none⟩])))
/-- The code of spec.Shortest, its loops' bodies named. -/
def k21 : Code1 :=
 (.seq
 (.region [3,6] false ([]) [
 ⟨some 3,Op.box 50 (Operand.tmp 0),none⟩,
 ⟨some 6,Op.alloc 48,none⟩])
 (.seq
 (.seq
 (.region [20] false ([]) [
 ⟨some 19,Op.load 50 (Operand.tmp 3),none⟩,
 ⟨some 20,Op.call {callee:=Callee.value (Operand.func 80),args:=#[Operand.tmp 19],argTypes:=#[50]},none⟩,
 ⟨some 21,Op.unOp UnOp.not 4 (Operand.tmp 20),none⟩])
 (.cond (Operand.tmp 21)
 (.seq
 (.region [] false ([]) [
 ⟨some 22,Op.build 48 #[(0,Operand.const (Value.int IntKind.i64 3))],none⟩,
 ⟨none,Op.store 48 (Operand.tmp 6) (Operand.tmp 22),none⟩])
 .ret)
 .skip))
 (.seq
 (.region [] false ([]) [
 ⟨some 23,Op.fieldAddr 50 (Operand.tmp 3) 5,none⟩,
 ⟨some 24,Op.load 22 (Operand.tmp 23),none⟩,
 ⟨some 25,Op.call {callee:=Callee.builtin Builtin.len,args:=#[Operand.tmp 24],argTypes:=#[22]},none⟩,
 ⟨some 7,Op.assign (Operand.tmp 25),none⟩])
 (.seq
 (.seq
 (.region [] false ([]) [
 ⟨some 26,Op.move (Operand.tmp 1),none⟩,
 ⟨some 27,Op.binOp BinOp.lss 2 (Operand.tmp 26) (Operand.const (Value.int IntKind.i64 0)) 2,none⟩,
 ⟨some 28,Op.move (Operand.tmp 27),none⟩,
 ⟨some 29,Op.move (Operand.tmp 1),some (28,false)⟩,
 ⟨some 30,Op.move (Operand.tmp 7),some (28,false)⟩,
 ⟨some 31,Op.binOp BinOp.geq 2 (Operand.tmp 29) (Operand.tmp 30) 2,some (28,false)⟩,
 ⟨some 32,Op.pick (Operand.tmp 28) (Operand.const (Value.bool true)) (Operand.tmp 31),none⟩,
 ⟨some 33,Op.move (Operand.tmp 32),none⟩,
 ⟨some 34,Op.move (Operand.tmp 2),some (33,false)⟩,
 ⟨some 35,Op.binOp BinOp.lss 2 (Operand.tmp 34) (Operand.const (Value.int IntKind.i64 0)) 2,some (33,false)⟩,
 ⟨some 36,Op.pick (Operand.tmp 33) (Operand.const (Value.bool true)) (Operand.tmp 35),none⟩,
 ⟨some 37,Op.move (Operand.tmp 36),none⟩,
 ⟨some 38,Op.move (Operand.tmp 2),some (37,false)⟩,
 ⟨some 39,Op.move (Operand.tmp 7),some (37,false)⟩,
 ⟨some 40,Op.binOp BinOp.geq 2 (Operand.tmp 38) (Operand.tmp 39) 2,some (37,false)⟩,
 ⟨some 41,Op.pick (Operand.tmp 37) (Operand.const (Value.bool true)) (Operand.tmp 40),none⟩])
 (.cond (Operand.tmp 41)
 (.seq
 (.region [] false ([]) [
 ⟨some 42,Op.build 48 #[(0,Operand.const (Value.int IntKind.i64 2))],none⟩,
 ⟨none,Op.store 48 (Operand.tmp 6) (Operand.tmp 42),none⟩])
 .ret)
 .skip))
 (.seq
 (.region [44,55,57] true ([57]) [
 ⟨some 43,Op.move (Operand.tmp 1),none⟩,
 ⟨some 44,Op.buildSlice 22 1 #[(0,Operand.tmp 43)],none⟩,
 ⟨some 45,Op.fieldAddr 50 (Operand.tmp 3) 6,none⟩,
 ⟨some 46,Op.load 22 (Operand.tmp 45),none⟩,
 ⟨some 47,Op.move (Operand.tmp 1),none⟩,
 ⟨some 48,Op.indexAddr 22 (Operand.tmp 46) (Operand.tmp 47),none⟩,
 ⟨some 49,Op.load 2 (Operand.tmp 48),none⟩,
 ⟨some 50,Op.fieldAddr 50 (Operand.tmp 3) 5,none⟩,
 ⟨some 51,Op.load 22 (Operand.tmp 50),none⟩,
 ⟨some 52,Op.move (Operand.tmp 1),none⟩,
 ⟨some 53,Op.indexAddr 22 (Operand.tmp 51) (Operand.tmp 52),none⟩,
 ⟨some 54,Op.load 2 (Operand.tmp 53),none⟩,
 ⟨some 55,Op.buildSlice 22 1 #[(0,Operand.tmp 54)],none⟩,
 ⟨some 56,Op.build 125 #[(0,Operand.tmp 44),(1,Operand.tmp 49),(2,Operand.tmp 55)],none⟩,
 ⟨some 57,Op.buildSlice 126 1 #[(0,Operand.tmp 56)],none⟩,
 ⟨some 8,Op.assign (Operand.tmp 57),none⟩])
 (.seq
 (.region [58,60] false ([]) [
 ⟨some 58,Op.buildSlice 126 0 #[],none⟩,
 ⟨some 59,Op.move (Operand.tmp 8),none⟩,
 ⟨some 60,Op.call {callee:=Callee.value (Operand.func 81),args:=#[Operand.tmp 58,Operand.tmp 59],argTypes:=#[126,126]},none⟩,
 ⟨some 9,Op.assign (Operand.tmp 60),none⟩])
 (.seq
 (.region [64,10] false ([]) [
 ⟨some 61,Op.build 48 #[(0,Operand.const (Value.int IntKind.i64 1))],none⟩,
 ⟨some 62,Op.move (Operand.tmp 8),none⟩,
 ⟨some 63,Op.move (Operand.tmp 2),none⟩,
 ⟨some 64,Op.call {callee:=Callee.value (Operand.func 82),args:=#[Operand.tmp 61,Operand.tmp 62,Operand.tmp 63],argTypes:=#[48,126,2]},none⟩,
 ⟨some 10,Op.alloc 48,none⟩,
 ⟨none,Op.store 48 (Operand.tmp 10) (Operand.tmp 64),none⟩])
 (.seq
 (.seq
 (.region [] false ([]) [
 ⟨some 65,Op.fieldAddr 50 (Operand.tmp 3) 0,none⟩,
 ⟨some 66,Op.load 22 (Operand.tmp 65),none⟩,
 ⟨some 67,Op.call {callee:=Callee.builtin Builtin.len,args:=#[Operand.tmp 66],argTypes:=#[22]},none⟩,
 ⟨some 11,Op.assign (Operand.tmp 67),none⟩])
 (.block 0
 (.loop k21_l0)))
 (.seq
 (.region [] false ([]) [
 ⟨some 165,Op.load 48 (Operand.tmp 10),none⟩,
 ⟨none,Op.store 48 (Operand.tmp 6) (Operand.tmp 165),none⟩])
 .ret)))))))))
set_option maxHeartbeats 0 in
theorem sh_l2 {g : Gr} {e t : Int} (h : VG g) (h0 : 0 ≤ e) (h1 : e < g.start.length) {n i : Nat} {f sn : List Wk} {b : Rt} {r : Int} {v : Int} (hn : n < 6000) (hR : RI g e t n f sn b) (hi : i < f.length) (hv : (nth f i).k = [v]) {Q : Ex → St → Prop}
    (hE : ∀ (s : St) (next : List Wk), ShN g t b r f sn next s → s.tm 13 = .t (.v (.int .i64 i)) → NF g e n f sn (i + 1) next → Q .normal s)
    (m : Nat) (s : St) (hs : (fun (m : Nat) (s : St) => ∃ (next : List Wk) (k : Int), ShN g t b r f sn next s ∧ s.tm 13 = .t (.v (.int .i64 i)) ∧ s.tm 14 = .t (.v (.int .i64 v)) ∧ s.tm 15 = .t (.v (.int .i64 k)) ∧ NI g e n f sn i v k next ∧ rd g.first v ≤ k ∧ k ≤ rd g.first (v + 1) ∧ (m : Int) = rd g.first (v + 1) - k) m s) (K' : St → Prop)
    (hN : ∀ (m' : Nat) (s' : St), m' < m → (fun (m : Nat) (s : St) => ∃ (next : List Wk) (k : Int), ShN g t b r f sn next s ∧ s.tm 13 = .t (.v (.int .i64 i)) ∧ s.tm 14 = .t (.v (.int .i64 v)) ∧ s.tm 15 = .t (.v (.int .i64 k)) ∧ NI g e n f sn i v k next ∧ rd g.first v ≤ k ∧ k ≤ rd g.first (v + 1) ∧ (m : Int) = rd g.first (v + 1) - k) m' s' → K' s') :
    wp2 Try.prog k21_l2 (thenQ K' (inBlk 4 Q)) s := by
  obtain ⟨next, k, hB, s13, s14, s15, hI, hk1, hk2, hm⟩ := hs
  obtain ⟨v', hv', hw⟩ := hR.fr _ (nth_in hi)
  rw [hv] at hv'
  cases hv'
  have fw := hw.fine h h0 h1
  have v0 := fw.v0
  have v1 := fw.v1
  have ar := h.arcsOf v0 v1
  have l3 := h.l3
  have l5 := h.l5
  have l6 := h.l6
  have l7 := h.l7
  have hS := hR.frs.wks h h0 h1 (by omega)
  have hX := hI.toNF.fr.wks h h0 h1 (by omega)
  have hfl := hR.frf.len h h0 h1
  have hsl := hR.frs.len h h0 h1
  have hnl := hI.toNF.fr.len h h0 h1
  have hfw := hR.frf.at h h0 h1 (nth_in hi)
  have c0 := hfw.c0
  have c1 := hfw.c1
  have e1 := hfw.e1
  have o3 : s.ob (3, 0) = some (.var [.t (ints g.edgeOf), .t (ints g.stateOf), .t (ints g.first), .t (ints g.to), .t (ints g.cost), .t (ints g.start), .t (ints g.weight)]) := hB.o3
  unfold k21_l2
  by_cases hlt : k < rd g.first (v + 1)
  · have ac := h.arcOf v0 v1 hk1 hlt
    have a0 := ac.1
    have a1 := ac.2.1
    have a2 := ac.2.2.1
    have a3 := ac.2.2.2.1
    have a4 := ac.2.2.2.2.1
    have a5 := ac.2.2.2.2.2
    have f1 := find_c (key := [rd g.to k]) hS (by simp)
    have skipped : ∀ s' : St, ShN g t b r f sn next s' → s'.tm 13 = .t (.v (.int .i64 i)) → s'.tm 14 = .t (.v (.int .i64 v)) → s'.tm 15 = .t (.v (.int .i64 (k + 1))) → NI g e n f sn i v (k + 1) next → K' s' := fun s' b1 b2 b3 b4 b5 =>
      hN (m - 1) s' (by omega) ⟨next, k + 1, b1, b2, b3, b4, b5, by omega, by omega, by omega⟩
    have kept : ∀ s' : St, ShN g t b r f sn (keepW next ⟨(nth f i).e ++ [rd g.edgeOf (rd g.to k)], (nth f i).c + rd g.cost k, [rd g.to k]⟩) s' → s'.tm 13 = .t (.v (.int .i64 i)) → s'.tm 14 = .t (.v (.int .i64 v)) → s'.tm 15 = .t (.v (.int .i64 (k + 1))) → K' s' := fun s' b1 b2 b3 b4 =>
      hN (m - 1) s' (by omega) ⟨_, k + 1, b1, b2, b3, b4, hI.keep hw hk1 hlt, by omega, by omega, by omega⟩
    clear hN
    have p1 := plus_c (nth f i).e [rd g.edgeOf (rd g.to k)] (by omega) (by simp)
    have q0 : T.sl (List.take ((nth f (i : Int)).e.length + 1) (intRow ((nth f (i : Int)).e ++ [rd g.edgeOf (rd g.to k)]))) = ints ((nth f (i : Int)).e ++ [rd g.edgeOf (rd g.to k)]) := by
      rw [List.take_of_length_le (by simp)]
      rfl
    have g1 := keep_c (w := ⟨(nth f i).e ++ [rd g.edgeOf (rd g.to k)], (nth f i).c + rd g.cost k, [rd g.to k]⟩) hX (by simp; omega) (by simp)
    have sk := fun x hx hk hc => hI.skip (x := x) hx hk hc
    clear hI hE hR hX hS hw hv
    rcases fI_cases sn [rd g.to k] with ef | ⟨j, ef, hj⟩
    · repeat' (first
     | refine wp2_seq fun K hK => ?_
     | refine M_cons fun K hK => ?_
     | (refine hK _ ?_; clear hK K)
     | (refine hX _ ?_; clear hX hY X Y)
     | (refine hY _ ?_; clear hX hY X Y)
     | refine wp2_block ?_
     | refine wp2_canon (ops := ⟨some 104, _, _⟩ :: _) [(12, 12)] ?_
     | refine wp2_region ?_
     | refine wp2_cond fun X Y hX hY => ?_
     | (refine condK_of (fun c => ?_) (fun c => ?_) <;> (try simp [-List.length_eq_zero_iff] at c))
     | (refine callT_fl (f1) (by simp [St.args, St.arg, hB.s2, hB.s3, o3, hB.s6, hB.o6, hB.s8, hB.o8, hB.s9, hB.o9, hB.s12, hB.o12, s13, s14, s15, hlt, hi, encW, ef, q0] <;> first | rfl | ((repeat' first | rfl | apply And.intro); first | done | fail)) ?_)
     | (refine callT_fl (p1) (by simp [St.args, St.arg, hB.s2, hB.s3, o3, hB.s6, hB.o6, hB.s8, hB.o8, hB.s9, hB.o9, hB.s12, hB.o12, s13, s14, s15, hlt, hi, encW, ef, q0] <;> first | rfl | ((repeat' first | rfl | apply And.intro); first | done | fail)) ?_)
     | (refine callT_gen false (g1) (by simp) (by simp [St.args, St.arg, hB.s2, hB.s3, o3, hB.s6, hB.o6, hB.s8, hB.o8, hB.s9, hB.o9, hB.s12, hB.o12, s13, s14, s15, hlt, hi, encW, ef, q0] <;> first | rfl | ((repeat' first | rfl | apply And.intro); first | done | fail)) (by simp [apartArgs, mutsOf, noRow]) (by simp [callFrz, valsOf, outEff]) ?_)
     | simp (maxSteps := 4000000) (disch := omega) [hB.s2, hB.s3, o3, hB.s6, hB.o6, hB.s8, hB.o8, hB.s9, hB.o9, hB.s12, hB.o12, s13, s14, s15, hlt, hi, encW, ef, q0])
      all_goals first | omega | skip
      refine kept _ ?_ ?_ ?_ ?_
      · exact ⟨⟨by simp [hB.s2], by simp [hB.s3], by simp [o3], by simp [hB.s6], by simp [hB.o6], by simp [hB.s8], by simp [hB.o8], by simp [hB.s9], by simp [hB.o9], by simp [hB.s10], by simp [hB.o10], by simp [hB.s11]⟩, by simp [hB.s12], by simp [hB.o12]⟩
      all_goals simp [s13, s14]
    · have hk := fI_pos ef
      by_cases hc : (nth f i).c + rd g.cost k < (nth sn j).c
      · repeat' (first
       | refine wp2_seq fun K hK => ?_
       | refine M_cons fun K hK => ?_
       | (refine hK _ ?_; clear hK K)
       | (clear hK K; refine hK _ ?_; clear hK K)
       | (refine hX _ ?_; clear hX hY X Y)
       | (refine hY _ ?_; clear hX hY X Y)
       | refine wp2_block ?_
       | refine wp2_canon (ops := ⟨some 104, _, _⟩ :: _) [(12, 12)] ?_
       | refine wp2_region ?_
       | refine wp2_cond fun X Y hX hY => ?_
       | (refine condK_of (fun c => ?_) (fun c => ?_) <;> (try simp [-List.length_eq_zero_iff] at c))
       | (refine callT_fl (f1) (by simp [St.args, St.arg, hB.s2, hB.s3, o3, hB.s6, hB.o6, hB.s8, hB.o8, hB.s9, hB.o9, hB.s12, hB.o12, s13, s14, s15, hlt, hi, hj, encW, ef, q0, hc] <;> first | rfl | ((repeat' first | rfl | apply And.intro); first | done | fail)) ?_)
       | (refine callT_fl (p1) (by simp [St.args, St.arg, hB.s2, hB.s3, o3, hB.s6, hB.o6, hB.s8, hB.o8, hB.s9, hB.o9, hB.s12, hB.o12, s13, s14, s15, hlt, hi, hj, encW, ef, q0, hc] <;> first | rfl | ((repeat' first | rfl | apply And.intro); first | done | fail)) ?_)
       | (refine callT_gen false (g1) (by simp) (by simp [St.args, St.arg, hB.s2, hB.s3, o3, hB.s6, hB.o6, hB.s8, hB.o8, hB.s9, hB.o9, hB.s12, hB.o12, s13, s14, s15, hlt, hi, hj, encW, ef, q0, hc] <;> first | rfl | ((repeat' first | rfl | apply And.intro); first | done | fail)) (by simp [apartArgs, mutsOf, noRow]) (by simp [callFrz, valsOf, outEff]) ?_)
       | simp (maxSteps := 4000000) (disch := omega) [hB.s2, hB.s3, o3, hB.s6, hB.o6, hB.s8, hB.o8, hB.s9, hB.o9, hB.s12, hB.o12, s13, s14, s15, hlt, hi, hj, encW, ef, q0, hc])
        all_goals first | omega | skip
        refine kept _ ?_ ?_ ?_ ?_
        · exact ⟨⟨by simp [hB.s2], by simp [hB.s3], by simp [o3], by simp [hB.s6], by simp [hB.o6], by simp [hB.s8], by simp [hB.o8], by simp [hB.s9], by simp [hB.o9], by simp [hB.s10], by simp [hB.o10], by simp [hB.s11]⟩, by simp [hB.s12], by simp [hB.o12]⟩
        all_goals simp [s13, s14]
      · repeat' (first
       | refine wp2_seq fun K hK => ?_
       | refine M_cons fun K hK => ?_
       | (refine hK _ ?_; clear hK K)
       | (clear hK K; refine hK _ ?_; clear hK K)
       | (refine hX _ ?_; clear hX hY X Y)
       | (refine hY _ ?_; clear hX hY X Y)
       | refine wp2_block ?_
       | refine wp2_canon (ops := ⟨some 104, _, _⟩ :: _) [(12, 12)] ?_
       | refine wp2_region ?_
       | refine wp2_cond fun X Y hX hY => ?_
       | (refine condK_of (fun c => ?_) (fun c => ?_) <;> (try simp [-List.length_eq_zero_iff] at c))
       | (refine callT_fl (f1) (by simp [St.args, St.arg, hB.s2, hB.s3, o3, hB.s6, hB.o6, hB.s8, hB.o8, hB.s9, hB.o9, hB.s12, hB.o12, s13, s14, s15, hlt, hi, hj, encW, ef, q0, hc] <;> first | rfl | ((repeat' first | rfl | apply And.intro); first | done | fail)) ?_)
       | simp (maxSteps := 4000000) (disch := omega) [hB.s2, hB.s3, o3, hB.s6, hB.o6, hB.s8, hB.o8, hB.s9, hB.o9, hB.s12, hB.o12, s13, s14, s15, hlt, hi, hj, encW, ef, q0, hc])
        all_goals first | omega | skip
        refine skipped _ ?_ ?_ ?_ ?_ (sk _ (nth_in hj) hk.2 hc)
        · exact ⟨⟨by simp [hB.s2], by simp [hB.s3], by simp [o3], by simp [hB.s6], by simp [hB.o6], by simp [hB.s8], by simp [hB.o8], by simp [hB.s9], by simp [hB.o9], by simp [hB.s10], by simp [hB.o10], by simp [hB.s11]⟩, by simp [hB.s12], by simp [hB.o12]⟩
        all_goals simp [s13, s14]
  · have ek : k = rd g.first (v + 1) := by omega
    subst ek
    repeat' (first
     | refine wp2_seq fun K hK => ?_
     | refine M_cons fun K hK => ?_
     | (refine hK _ ?_; clear hK K)
     | (refine hY _ ?_; clear hX hY X Y)
     | refine wp2_region ?_
     | refine wp2_cond fun X Y hX hY => ?_
     | (refine condK_of (fun c => ?_) (fun c => ?_) <;> (try simp [-List.length_eq_zero_iff] at c))
     | simp (maxSteps := 4000000) (disch := omega) [hB.s2, hB.s3, o3, hB.s6, hB.o6, hB.s8, hB.o8, hB.s9, hB.o9, hB.s12, hB.o12, s13, s14, s15])
    all_goals first | omega | skip
    refine hE _ next ?_ ?_ (hI.exit hv)
    · exact ⟨⟨by simp [hB.s2], by simp [hB.s3], by simp [o3], by simp [hB.s6], by simp [hB.o6], by simp [hB.s8], by simp [hB.o8], by simp [hB.s9], by simp [hB.o9], by simp [hB.s10], by simp [hB.o10], by simp [hB.s11]⟩, by simp [hB.s12], by simp [hB.o12]⟩
    · simp [s13]
end Cal

/- spec.Shortest: the front's loop. -/
set_option linter.unusedSimpArgs false
set_option linter.unusedVariables false
namespace Cal
open Go Go.Proofs
set_option maxRecDepth 100000
@[simp] theorem index_one (e : Nat) (ag : Bool) (b : Nat) (z : List Value) (x : Int) : indexAddrA (some (e, ⟨ag, 1, b, z⟩)) (.t (ints [x])) 0 = some (.roptr [.v (.int .i64 x)]) := rfl
set_option maxHeartbeats 0 in
theorem sh_l1 {g : Gr} {e t : Int} (h : VG g) (h0 : 0 ≤ e) (h1 : e < g.start.length) {n : Nat} {f sn : List Wk} {b : Rt} {r : Int} (hn : n < 6000) (hR : RI g e t n f sn b) {Q : Ex → St → Prop}
    (hE : ∀ (s : St) (next : List Wk), ShN g t b r f sn next s → NF g e n f sn f.length next → Q .normal s)
    (m : Nat) (s : St) (hs : (fun (m : Nat) (s : St) => ∃ (next : List Wk) (i : Nat), ShN g t b r f sn next s ∧ s.tm 13 = .t (.v (.int .i64 i)) ∧ NF g e n f sn i next ∧ i ≤ f.length ∧ m = f.length - i) m s) (K' : St → Prop)
    (hN : ∀ (m' : Nat) (s' : St), m' < m → (fun (m : Nat) (s : St) => ∃ (next : List Wk) (i : Nat), ShN g t b r f sn next s ∧ s.tm 13 = .t (.v (.int .i64 i)) ∧ NF g e n f sn i next ∧ i ≤ f.length ∧ m = f.length - i) m' s' → K' s') :
    wp2 Try.prog k21_l1 (thenQ K' (inBlk 2 Q)) s := by
  obtain ⟨next, i, hB, s13, hF, hi, rfl⟩ := hs
  have l1 := h.l1
  have l2 := h.l2
  have l3 := h.l3
  have l5 := h.l5
  have l6 := h.l6
  have l7 := h.l7
  have o3 : s.ob (3, 0) = some (.var [.t (ints g.edgeOf), .t (ints g.stateOf), .t (ints g.first), .t (ints g.to), .t (ints g.cost), .t (ints g.start), .t (ints g.weight)]) := hB.o3
  have hfl := hR.frf.len h h0 h1
  unfold k21_l1
  by_cases hlt : i < f.length
  · obtain ⟨v, hv, hw⟩ := hR.fr _ (nth_in hlt)
    have fw := hw.fine h h0 h1
    have v0 := fw.v0
    have v1 := fw.v1
    have ar := h.arcsOf v0 v1
    repeat' (first
     | refine wp2_seq fun K hK => ?_
     | refine M_cons fun K hK => ?_
     | (refine hK _ ?_; clear hK K)
     | (refine hX _ ?_; clear hX hY X Y)
     | refine wp2_block ?_
     | refine wp2_region ?_
     | refine wp2_cond fun X Y hX hY => ?_
     | (refine condK_of (fun c => ?_) (fun c => ?_) <;> (try simp [-List.length_eq_zero_iff] at c))
     | simp (maxSteps := 4000000) (disch := omega) [hB.s2, hB.s3, o3, hB.s6, hB.o6, hB.s8, hB.o8, hB.s9, hB.o9, hB.s10, hB.s11, hB.s12, hB.o12, s13, hlt, encW, hv])
    all_goals first | omega | skip
    refine wp2_loop _ (rd g.first (v + 1) - rd g.first v).toNat ?_ (sh_l2 (r := r) h h0 h1 hn hR hlt hv ?_)
    · refine ⟨next, rd g.first v, ?_, by simp [s13], by simp, by simp, hF.enter, by omega, by omega, by omega⟩
      exact ⟨⟨by simp [hB.s2], by simp [hB.s3], by simp [o3], by simp [hB.s6], by simp [hB.o6], by simp [hB.s8], by simp [hB.o8], by simp [hB.s9], by simp [hB.o9], by simp [hB.s10], by simp [hB.o10], by simp [hB.s11]⟩, by simp [hB.s12], by simp [hB.o12]⟩
    · intro s next hB s13 hF
      have o3 : s.ob (3, 0) = some (.var [.t (ints g.edgeOf), .t (ints g.stateOf), .t (ints g.first), .t (ints g.to), .t (ints g.cost), .t (ints g.start), .t (ints g.weight)]) := hB.o3
      repeat' (first
       | refine M_cons fun K hK => ?_
       | (refine hK _ ?_; clear hK K)
       | refine wp2_region ?_
       | simp (maxSteps := 4000000) (disch := omega) [hB.s2, hB.s3, o3, hB.s6, hB.o6, hB.s8, hB.o8, hB.s9, hB.o9, hB.s10, hB.s11, hB.s12, hB.o12, s13])
      all_goals first | omega | skip
      refine hN (f.length - (i + 1)) _ (by omega) ⟨next, i + 1, ?_, by simp [s13], hF, by omega, rfl⟩
      exact ⟨⟨by simp [hB.s2], by simp [hB.s3], by simp [o3], by simp [hB.s6], by simp [hB.o6], by simp [hB.s8], by simp [hB.o8], by simp [hB.s9], by simp [hB.o9], by simp [hB.s10], by simp [hB.o10], by simp [hB.s11]⟩, by simp [hB.s12], by simp [hB.o12]⟩
  · obtain rfl : i = f.length := by omega
    repeat' (first
     | refine wp2_seq fun K hK => ?_
     | refine M_cons fun K hK => ?_
     | (refine hK _ ?_; clear hK K)
     | (refine hY _ ?_; clear hX hY X Y)
     | refine wp2_region ?_
     | refine wp2_cond fun X Y hX hY => ?_
     | (refine condK_of (fun c => ?_) (fun c => ?_) <;> (try simp [-List.length_eq_zero_iff] at c))
     | simp (maxSteps := 4000000) (disch := omega) [hB.s2, hB.s3, o3, hB.s6, hB.o6, hB.s8, hB.o8, hB.s9, hB.o9, hB.s10, hB.s11, hB.s12, hB.o12, s13])
    all_goals first | omega | skip
    refine hE _ next ?_ hF
    exact ⟨⟨by simp [hB.s2], by simp [hB.s3], by simp [o3], by simp [hB.s6], by simp [hB.o6], by simp [hB.s8], by simp [hB.o8], by simp [hB.s9], by simp [hB.o9], by simp [hB.s10], by simp [hB.o10], by simp [hB.s11]⟩, by simp [hB.s12], by simp [hB.o12]⟩
end Cal

/- spec.Shortest: the rounds, the whole. -/
set_option linter.unusedSimpArgs false
set_option linter.unusedVariables false
namespace Cal
open Go Go.Proofs
set_option maxRecDepth 100000
@[simp] theorem muteB_57 (t : Nat) : muteB true [57] (some t) = !(decide (t = 57)) := by simp [muteB]
@[simp] theorem encRt_len (b : Rt) : (encRt b).length = 3 := by rcases b with _ | ⟨c, e⟩ <;> rfl
@[simp] theorem encRt_take (b : Rt) : List.take 3 ((encRt b).map AV.t) = (encRt b).map .t := List.take_of_length_le (by simp)
@[simp] theorem toTs_mapt (s : St) : ∀ l : List T, s.toTs (l.map .t) = some l
  | [] => rfl
  | x :: l => by
    have := toTs_mapt s l
    simp only [List.map_cons, St.toTs, St.toT, this]
@[simp] theorem retAs_mapt (d k : Nat) : ∀ l : List T, retAs d k (l.map .t) = (l.map .t, [], k)
  | [] => rfl
  | x :: l => by
    have := retAs_mapt d k l
    simp only [List.map_cons, retAs, retA, this, List.nil_append]
@[simp] theorem frzEffs_mapt (s : St) (r : List AV) : ∀ l : List T, s.frzEffs (l.map .t ++ r) = s.frzEffs r
  | [] => rfl
  | x :: l => by
    have := frzEffs_mapt s r l
    simp only [List.map_cons, List.cons_append, St.frzEffs, St.frzEff, this, List.nil_append]
@[simp] theorem encRt_drop (b : Rt) : List.drop 3 ((encRt b).map AV.t) = [] := List.drop_of_length_le (by simp)
theorem recRow_nil {α : Type} (enc : α → List T) : recRow enc [] = [] := rfl
set_option maxHeartbeats 0 in
theorem sh_l0 {g : Gr} {e t : Int} (h : VG g) (h0 : 0 ≤ e) (h1 : e < g.start.length) {Q : Ex → St → Prop}
    (hE : ∀ (s : St) (b : Rt) (r : Int) (f sn : List Wk), ShB g t b r f sn s → IsBest g e t b → Q .normal s)
    (m : Nat) (s : St) (hs : (fun (m : Nat) (s : St) => ∃ (f sn : List Wk) (b : Rt) (n : Nat), ShB g t b ((g.edgeOf.length : Int) - n) f sn s ∧ RI g e t n f sn b ∧ n ≤ g.edgeOf.length ∧ m = g.edgeOf.length - n) m s) (K' : St → Prop)
    (hN : ∀ (m' : Nat) (s' : St), m' < m → (fun (m : Nat) (s : St) => ∃ (f sn : List Wk) (b : Rt) (n : Nat), ShB g t b ((g.edgeOf.length : Int) - n) f sn s ∧ RI g e t n f sn b ∧ n ≤ g.edgeOf.length ∧ m = g.edgeOf.length - n) m' s' → K' s') :
    wp2 Try.prog k21_l0 (thenQ K' (inBlk 0 Q)) s := by
  obtain ⟨f, sn, b, n, hB, hR, hn, rfl⟩ := hs
  have l1 := h.l1
  have l2 := h.l2
  have l3 := h.l3
  have l5 := h.l5
  have l6 := h.l6
  have l7 := h.l7
  have o3 : s.ob (3, 0) = some (.var [.t (ints g.edgeOf), .t (ints g.stateOf), .t (ints g.first), .t (ints g.to), .t (ints g.cost), .t (ints g.start), .t (ints g.weight)]) := hB.o3
  have hfl := hR.frf.len h h0 h1
  have hsl := hR.frs.len h h0 h1
  have hS := hR.frs.wks h h0 h1 (by omega)
  unfold k21_l0
  by_cases hlt : n < g.edgeOf.length
  · by_cases hf : f = []
    · subst hf
      have hd := hR.done h h0 h1
      repeat' (first
       | refine wp2_seq fun K hK => ?_
       | refine M_cons fun K hK => ?_
       | (refine hK _ ?_; clear hK K)
       | (refine hY _ ?_; clear hX hY X Y)
       | refine wp2_region ?_
       | refine wp2_cond fun X Y hX hY => ?_
       | (refine condK_of (fun c => ?_) (fun c => ?_) <;> (try simp [-List.length_eq_zero_iff] at c))
       | simp (maxSteps := 4000000) (disch := omega) [hB.s2, hB.s3, o3, hB.s6, hB.o6, hB.s8, hB.o8, hB.s9, hB.o9, hB.s10, hB.s11, hlt])
      all_goals first | omega | skip
      refine hE _ b ((g.edgeOf.length : Int) - n) [] sn ?_ hd
      exact ⟨by simp [hB.s2], by simp [hB.s3], by simp [o3], by simp [hB.s6], by simp [hB.o6], by simp [hB.s8], by simp [hB.o8], by simp [hB.s9], by simp [hB.o9], by simp [hB.s10], by simp [hB.o10], by simp [hB.s11]⟩
    · have hf0 : 0 < f.length := List.length_pos_iff.2 hf
      repeat' (first
       | refine wp2_seq fun K hK => ?_
       | refine M_cons fun K hK => ?_
       | (refine hK _ ?_; clear hK K)
       | (refine hX _ ?_; clear hX hY X Y)
       | refine wp2_block ?_
       | refine wp2_canon (ops := ⟨some 13, _, _⟩ :: _) [(12, 12)] ?_
       | refine wp2_region ?_
       | refine wp2_cond fun X Y hX hY => ?_
       | (refine condK_of (fun c => ?_) (fun c => ?_) <;> (try simp [-List.length_eq_zero_iff] at c))
       | simp (maxSteps := 4000000) (disch := omega) [hB.s2, hB.s3, o3, hB.s6, hB.o6, hB.s8, hB.o8, hB.s9, hB.o9, hB.s10, hB.s11, hlt, hf0])
      all_goals first | omega | skip
      refine wp2_loop _ f.length ?_ (sh_l1 (r := (g.edgeOf.length : Int) - n) h h0 h1 (by omega) hR ?_)
      · refine ⟨[], 0, ?_, by simp, .start n f sn, by omega, rfl⟩
        exact ⟨⟨by simp [hB.s2], by simp [hB.s3], by simp [o3], by simp [hB.s6], by simp [hB.o6], by simp [hB.s8], by simp [hB.o8], by simp [hB.s9], by simp [hB.o9], by simp [hB.s10], by simp [hB.o10], by simp [hB.s11]⟩, by simp, by simp [recRow_nil]⟩
      · intro s next hB hF
        have hr := hF.round h h0 h1 hR
        have hX := hF.fr.wks h h0 h1 (by omega)
        have hXl := hF.fr.len h h0 h1
        have hF' := hr.frf.wks h h0 h1 (by omega)
        have hF'l := hr.frf.len h h0 h1
        have g1 := fresh_c hX hS
        have g2 := see_c hS hF' (by omega)
        have g3 := best_c (old := b) t hF' (fun c e' he => by
          obtain ⟨v, m, hm, w, _⟩ := hR.br c e' he
          have := (w.fine h h0 h1).el
          omega) (fun i hi => (hr.frf.at h h0 h1 (nth_in hi)).e0)
        have o3 : s.ob (3, 0) = some (.var [.t (ints g.edgeOf), .t (ints g.stateOf), .t (ints g.first), .t (ints g.to), .t (ints g.cost), .t (ints g.start), .t (ints g.weight)]) := hB.o3
        repeat' (first
         | refine wp2_seq fun K hK => ?_
         | refine M_cons fun K hK => ?_
         | (refine hK _ ?_; clear hK K)
         | refine wp2_canon (ops := ⟨some 75, _, _⟩ :: _) [(8, 8), (9, 9)] ?_
         | refine wp2_region ?_
         | (refine callT_gen false (g1) (by simp) (by simp [St.args, St.arg, hB.s2, hB.s3, o3, hB.s6, hB.o6, hB.s8, hB.o8, hB.s9, hB.o9, hB.s10, hB.o10, hB.s11, hB.s12, hB.o12] <;> first | rfl | ((repeat' first | rfl | apply And.intro); first | done | fail)) (by simp [apartArgs, mutsOf, noRow]) (by simp [callFrz, valsOf, outEff]) ?_)
         | (refine callT_gen false (g2) (by simp) (by simp [St.args, St.arg, hB.s2, hB.s3, o3, hB.s6, hB.o6, hB.s8, hB.o8, hB.s9, hB.o9, hB.s10, hB.o10, hB.s11, hB.s12, hB.o12] <;> first | rfl | ((repeat' first | rfl | apply And.intro); first | done | fail)) (by simp [apartArgs, mutsOf, noRow]) (by simp [callFrz, valsOf, outEff]) ?_)
         | (refine callT_gen false (g3) (by simp) (by simp [St.args, St.arg, hB.s2, hB.s3, o3, hB.s6, hB.o6, hB.s8, hB.o8, hB.s9, hB.o9, hB.s10, hB.o10, hB.s11, hB.s12, hB.o12] <;> first | rfl | ((repeat' first | rfl | apply And.intro); first | done | fail)) (by simp [apartArgs, mutsOf, noRow]) (by simp [callFrz, valsOf, outEff]) ?_)
         | simp (maxSteps := 4000000) (disch := omega) [hB.s2, hB.s3, o3, hB.s6, hB.o6, hB.s8, hB.o8, hB.s9, hB.o9, hB.s10, hB.o10, hB.s11, hB.s12, hB.o12])
        all_goals first | omega | skip
        refine hN (g.edgeOf.length - (n + 1)) _ (by omega) ⟨freshW next sn, seeW sn (freshW next sn), bestW b (freshW next sn) t, n + 1, ?_, hr, by omega, rfl⟩
        exact ⟨by simp [hB.s2], by simp [hB.s3], by simp [o3], by simp [hB.s6], by simp [hB.o6], by simp [hB.s8], by simp [hB.o8], by simp [hB.s9], by simp [hB.o9], by simp [hB.s10], by simp [hB.o10], by simp [hB.s11]; omega⟩
  · obtain rfl : n = g.edgeOf.length := by omega
    have hf := hR.late h h0 h1
    subst hf
    have hd := hR.done h h0 h1
    repeat' (first
     | refine wp2_seq fun K hK => ?_
     | refine M_cons fun K hK => ?_
     | (refine hK _ ?_; clear hK K)
     | (refine hY _ ?_; clear hX hY X Y)
     | refine wp2_region ?_
     | refine wp2_cond fun X Y hX hY => ?_
     | (refine condK_of (fun c => ?_) (fun c => ?_) <;> (try simp [-List.length_eq_zero_iff] at c))
     | simp (maxSteps := 4000000) (disch := omega) [hB.s2, hB.s3, o3, hB.s6, hB.o6, hB.s8, hB.o8, hB.s9, hB.o9, hB.s10, hB.s11])
    all_goals first | omega | skip
    refine hE _ b ((g.edgeOf.length : Int) - g.edgeOf.length) [] sn ?_ hd
    exact ⟨by simp [hB.s2], by simp [hB.s3], by simp [o3], by simp [hB.s6], by simp [hB.o6], by simp [hB.s8], by simp [hB.o8], by simp [hB.s9], by simp [hB.o9], by simp [hB.s10], by simp [hB.o10], by simp [hB.s11]⟩
set_option maxHeartbeats 0 in
theorem shortS (g : Gr) (e t : Int) (R : Rt) (lg : g.edgeOf.length ≤ 1048576 ∧ g.stateOf.length ≤ 1048576 ∧ g.first.length ≤ 1048576 ∧ g.to.length ≤ 1048576 ∧ g.cost.length ≤ 1048576 ∧ g.start.length ≤ 1048576 ∧ g.weight.length ≤ 1048576) (hR : VG g → 0 ≤ e → e < g.start.length → IsBest g e t R) :
    CallsF Try.prog 21 [.agg (encG g), .val (.v (.int .i64 e)), .val (.v (.int .i64 t))] (.agg ((if VG g then if 0 ≤ e ∧ e < g.start.length ∧ 0 ≤ t ∧ t < g.start.length then encRt R else [.v (.int .i64 2), .v (.int .i64 0), .v (.slice none 0 0)] else [.v (.int .i64 3), .v (.int .i64 0), .v (.slice none 0 0)]).map .t)) [] := by
  refine callsF_of_wp2 (fn := Try.f21) (k := k21) (fun | 6 => (57 :: .nil) | 24 => (154 :: .nil) | _ => .nil) mixed (by kernel_rfl) rfl (by kernel_rfl) (by kernel_rfl) (by kernel_rfl) rfl (by simp [Try.f21]) (by simp [Arg.like]) ?_
  generalize hst : St.enter [.agg (encG g), .val (.v (.int .i64 e)), .val (.v (.int .i64 t))] = st0
  have t0 : st0.tm 0 = .agg ((encG g) |>.map .t) := by rw [← hst]; rfl
  have t1 : st0.tm 1 = .t (.v (.int .i64 e)) := by rw [← hst]; rfl
  have t2 : st0.tm 2 = .t (.v (.int .i64 t)) := by rw [← hst]; rfl
  clear hst
  unfold k21
  simp [encG] at t0
  obtain ⟨lg1, lg2, lg3, lg4, lg5, lg6, lg7⟩ := lg
  have vg := vgS g lg1 lg2 lg3 lg4 lg5 lg6 lg7
  by_cases h : VG g
  · rw [if_pos h]
    have l1 := h.l1
    have l2 := h.l2
    have l3 := h.l3
    by_cases hq : 0 ≤ e ∧ e < g.start.length ∧ 0 ≤ t ∧ t < g.start.length
    · rw [if_pos hq]
      obtain ⟨q1, q2, q3, q4⟩ := hq
      have hR := hR h q1 q2
      have r1 : ¬ e < 0 := by omega
      have r2 : ¬ (g.start.length : Int) ≤ e := by omega
      have r3 : ¬ t < 0 := by omega
      have r4 : ¬ (g.start.length : Int) ≤ t := by omega
      have hRI := RI.start (t := t) h q1 q2
      have hF := hRI.frf.wks h q1 q2 (by omega)
      have gs := see_c (seen := []) (.of (by simp) (by simp)) hF (by simp)
      have gb := best_c (old := none) t hF (by simp) (fun i hi => (hRI.frf.at h q1 q2 (nth_in hi)).e0)
      repeat' (first
       | refine wp2_seq fun K hK => ?_
       | refine M_cons fun K hK => ?_
       | (refine hK _ ?_; clear hK K)
       | (refine hY _ ?_; clear hX hY X Y)
       | refine wp2_block ?_
       | refine wp2_canon (ops := ⟨some 65, _, _⟩ :: _) [(8, 8), (9, 9)] ?_
       | refine wp2_region ?_
       | refine wp2_cond fun X Y hX hY => ?_
       | (refine condK_of (fun c => ?_) (fun c => ?_) <;> (try simp [-List.length_eq_zero_iff] at c))
       | (refine callT_fl (vg) (by simp [St.args, St.arg, t0, t1, t2, h, encG, r1, r2, r3, r4, q1, q2, recRow_nil] <;> first | rfl | ((repeat' first | rfl | apply And.intro); first | done | fail)) ?_)
       | (refine callT_gen false (gs) (by simp) (by simp [St.args, St.arg, t0, t1, t2, h, encG, r1, r2, r3, r4, q1, q2, recRow_nil] <;> first | rfl | ((repeat' first | rfl | apply And.intro); first | done | fail)) (by simp [apartArgs, mutsOf, noRow]) (by simp [callFrz, valsOf, outEff]) ?_)
       | (refine callT_gen false (gb) (by simp) (by simp [St.args, St.arg, t0, t1, t2, h, encG, r1, r2, r3, r4, q1, q2, recRow_nil] <;> first | rfl | ((repeat' first | rfl | apply And.intro); first | done | fail)) (by simp [apartArgs, mutsOf, noRow]) (by simp [callFrz, valsOf, outEff]) ?_)
       | simp (maxSteps := 4000000) (disch := omega) [t0, t1, t2, h, encG, r1, r2, r3, r4, q1, q2, recRow_nil])
      all_goals first | omega | skip
      refine wp2_loop _ g.edgeOf.length ?_ (sh_l0 (t := t) h q1 q2 ?_)
      · refine ⟨_, _, _, 0, ?_, hRI, by omega, rfl⟩
        exact ⟨by simp [t2], by simp, by simp, by simp, by simp, by simp, by simp [recRow, encW], by simp, by simp, by simp, by simp, by simp⟩
      · intro s b r f sn hB hb
        obtain rfl := hb.one hR
        repeat' (first
         | refine wp2_seq fun K hK => ?_
         | refine M_cons fun K hK => ?_
         | (refine hK _ ?_; clear hK K)
         | refine wp2_region ?_
         | simp (maxSteps := 4000000) (disch := omega) [hB.s6, hB.o6, hB.s10, hB.o10])
        all_goals (rcases b with _ | ⟨c, e'⟩ <;> simp [Back, encRt, hB.s6, hB.o6, hB.s10, hB.o10])
    · rw [if_neg hq]
      by_cases r1 : e < 0
      · repeat' (first
       | refine wp2_seq fun K hK => ?_
       | refine M_cons fun K hK => ?_
       | (refine hK _ ?_; clear hK K)
       | (refine hX _ ?_; clear hX hY X Y)
       | (refine hY _ ?_; clear hX hY X Y)
       | refine wp2_region ?_
       | refine wp2_cond fun X Y hX hY => ?_
       | (refine condK_of (fun c => ?_) (fun c => ?_) <;> (try simp [-List.length_eq_zero_iff] at c))
       | (refine callT_fl (vg) (by simp [St.args, St.arg, t0, t1, t2, h, encG, r1] <;> first | rfl | ((repeat' first | rfl | apply And.intro); first | done | fail)) ?_)
       | simp (maxSteps := 4000000) (disch := omega) [t0, t1, t2, h, encG, r1])
        all_goals try (simp [t0, t1, t2, h, encG, r1, Back]; done)
      · by_cases r2 : (g.start.length : Int) ≤ e
        · repeat' (first
         | refine wp2_seq fun K hK => ?_
         | refine M_cons fun K hK => ?_
         | (refine hK _ ?_; clear hK K)
         | (refine hX _ ?_; clear hX hY X Y)
         | (refine hY _ ?_; clear hX hY X Y)
         | refine wp2_region ?_
         | refine wp2_cond fun X Y hX hY => ?_
         | (refine condK_of (fun c => ?_) (fun c => ?_) <;> (try simp [-List.length_eq_zero_iff] at c))
         | (refine callT_fl (vg) (by simp [St.args, St.arg, t0, t1, t2, h, encG, r1, r2] <;> first | rfl | ((repeat' first | rfl | apply And.intro); first | done | fail)) ?_)
         | simp (maxSteps := 4000000) (disch := omega) [t0, t1, t2, h, encG, r1, r2])
          all_goals try (simp [t0, t1, t2, h, encG, r1, r2, Back]; done)
        · by_cases r3 : t < 0
          · repeat' (first
           | refine wp2_seq fun K hK => ?_
           | refine M_cons fun K hK => ?_
           | (refine hK _ ?_; clear hK K)
           | (refine hX _ ?_; clear hX hY X Y)
           | (refine hY _ ?_; clear hX hY X Y)
           | refine wp2_region ?_
           | refine wp2_cond fun X Y hX hY => ?_
           | (refine condK_of (fun c => ?_) (fun c => ?_) <;> (try simp [-List.length_eq_zero_iff] at c))
           | (refine callT_fl (vg) (by simp [St.args, St.arg, t0, t1, t2, h, encG, r1, r2, r3] <;> first | rfl | ((repeat' first | rfl | apply And.intro); first | done | fail)) ?_)
           | simp (maxSteps := 4000000) (disch := omega) [t0, t1, t2, h, encG, r1, r2, r3])
            all_goals try (simp [t0, t1, t2, h, encG, r1, r2, r3, Back]; done)
          · have r4 : (g.start.length : Int) ≤ t := by omega
            repeat' (first
             | refine wp2_seq fun K hK => ?_
             | refine M_cons fun K hK => ?_
             | (refine hK _ ?_; clear hK K)
             | (refine hX _ ?_; clear hX hY X Y)
             | (refine hY _ ?_; clear hX hY X Y)
             | refine wp2_region ?_
             | refine wp2_cond fun X Y hX hY => ?_
             | (refine condK_of (fun c => ?_) (fun c => ?_) <;> (try simp [-List.length_eq_zero_iff] at c))
             | (refine callT_fl (vg) (by simp [St.args, St.arg, t0, t1, t2, h, encG, r1, r2, r3, r4] <;> first | rfl | ((repeat' first | rfl | apply And.intro); first | done | fail)) ?_)
             | simp (maxSteps := 4000000) (disch := omega) [t0, t1, t2, h, encG, r1, r2, r3, r4])
            all_goals try (simp [t0, t1, t2, h, encG, r1, r2, r3, r4, Back]; done)
  · rw [if_neg h]
    repeat' (first
     | refine wp2_seq fun K hK => ?_
     | refine M_cons fun K hK => ?_
     | (refine hK _ ?_; clear hK K)
     | (refine hX _ ?_; clear hX hY X Y)
     | refine wp2_region ?_
     | refine wp2_cond fun X Y hX hY => ?_
     | (refine condK_of (fun c => ?_) (fun c => ?_) <;> (try simp [-List.length_eq_zero_iff] at c))
     | (refine callT_fl (vg) (by simp [St.args, St.arg, t0, h, encG] <;> first | rfl | ((repeat' first | rfl | apply And.intro); first | done | fail)) ?_)
     | simp (maxSteps := 4000000) (disch := omega) [t0, h, encG])
    all_goals try (simp [t0, h, encG, Back]; done)
end Cal

/- There is a best route; impl.Shortest, spec.Shortest: what they answer. -/
set_option linter.unusedSimpArgs false
set_option linter.unusedVariables false
namespace Cal
open Go Go.Proofs
set_option maxRecDepth 100000
theorem least_nat {α : Type} {p : α → Prop} (f : α → Nat) : ∀ (n : Nat) (x : α), f x = n → p x → ∃ y, p y ∧ ∀ z, p z → f y ≤ f z := by
  intro n
  induction n using Nat.strongRecOn with
  | _ n ih =>
    intro x hx hp
    by_cases h : ∃ z, p z ∧ f z < f x
    · obtain ⟨z, h1, h2⟩ := h
      exact ih (f z) (by omega) z rfl h1
    · exact ⟨x, hp, fun z hz => Nat.le_of_not_lt fun hlt => h ⟨z, hz, hlt⟩⟩
theorem least_lex : ∀ (n : Nat) {p : List Int → Prop}, (∀ l, p l → l.length = n ∧ ∀ x ∈ l, 0 ≤ x) → (∃ l, p l) → ∃ l, p l ∧ ∀ l', p l' → l = l' ∨ Short.lex l l' = true
  | 0, p, hp, ⟨l, hl⟩ => by
    refine ⟨l, hl, fun l' hl' => .inl ?_⟩
    rw [List.eq_nil_of_length_eq_zero (hp l hl).1, List.eq_nil_of_length_eq_zero (hp l' hl').1]
  | n + 1, p, hp, ⟨l, hl⟩ => by
    obtain ⟨m, hm, hmin⟩ := least_nat (p := p) (fun l => (l.headD 0).toNat) _ l rfl hl
    obtain ⟨m1, m2⟩ := hp m hm
    obtain ⟨a, r, rfl⟩ : ∃ a r, m = a :: r := by
      cases m with
      | nil => simp at m1
      | cons a r => exact ⟨a, r, rfl⟩
    obtain ⟨q, hq, hqm⟩ := least_lex n (p := fun r' => p (a :: r')) (fun r' hr' => by
      obtain ⟨h1, h2⟩ := hp _ hr'
      exact ⟨by simpa using h1, fun x hx => h2 x (by simp [hx])⟩) ⟨r, hm⟩
    refine ⟨a :: q, hq, fun l' hl' => ?_⟩
    obtain ⟨k1, k2⟩ := hp l' hl'
    obtain ⟨b, r', rfl⟩ : ∃ b r', l' = b :: r' := by
      cases l' with
      | nil => simp at k1
      | cons b r' => exact ⟨b, r', rfl⟩
    have h1 := hmin _ hl'
    simp only [List.headD_cons] at h1
    have h2 := m2 a (by simp)
    have h3 := k2 b (by simp)
    by_cases e : a = b
    · subst e
      rcases hqm r' hl' with h | h
      · exact .inl (by rw [h])
      · right
        unfold Short.lex
        rw [if_pos rfl]
        exact h
    · right
      unfold Short.lex
      rw [if_neg e]
      simp
      omega
theorem Wal.pos {g : Gr} {s : Int} (h : VG g) (h0 : 0 ≤ s) (h1 : s < g.start.length) {v : Int} {n : Nat} {c : Int} {e : List Int} (w : Wal g s v n c e) : ∀ x ∈ e, 0 ≤ x := by
  induction w with
  | base => intro x hx; simp at hx; omega
  | step k w k1 k2 ih =>
    intro x hx
    rcases List.mem_append.1 hx with hx | hx
    · exact ih x hx
    · have f := w.fine h h0 h1
      have a := h.arcOf f.v0 f.v1 k1 k2
      have b := h.edgeOf a.1 a.2.1
      simp at hx
      omega
theorem IsBest.is {g : Gr} {s : Int} (h : VG g) (h0 : 0 ≤ s) (h1 : s < g.start.length) (t : Int) : ∃ R, IsBest g s t R := by
  by_cases hx : ∃ (x : Int × List Int), ∃ v n, Wal g s v n x.1 x.2 ∧ rd g.edgeOf v = t
  · obtain ⟨x, hx⟩ := hx
    obtain ⟨y, hy, ym⟩ := least_nat (p := fun x : Int × List Int => ∃ v n, Wal g s v n x.1 x.2 ∧ rd g.edgeOf v = t) (fun x => x.1.toNat) _ x rfl hx
    obtain ⟨z, hz, zm⟩ := least_nat (p := fun e : List Int => ∃ v n, Wal g s v n y.1 e ∧ rd g.edgeOf v = t) (fun e => e.length) _ y.2 rfl hy
    obtain ⟨w, hw, wm⟩ := least_lex z.length (p := fun e : List Int => e.length = z.length ∧ ∃ v n, Wal g s v n y.1 e ∧ rd g.edgeOf v = t) (fun l ⟨h2, v, n, h3, h4⟩ => ⟨h2, h3.pos h h0 h1⟩) ⟨z, rfl, hz⟩
    refine ⟨some (y.1, w), fun c e he => (by cases he; exact hw.2), fun v n c e wk hv => ⟨_, _, rfl, ?_⟩⟩
    have a := ym (c, e) ⟨v, n, wk, hv⟩
    dsimp only at a
    have c0 := (wk.fine h h0 h1).c0
    obtain ⟨v', n', hw1, hw2⟩ := hw.2
    have c1 := (hw1.fine h h0 h1).c0
    by_cases ec : y.1 = c
    · subst ec
      have b := zm e ⟨v, n, wk, hv⟩
      refine .inr ⟨rfl, ?_⟩
      by_cases el : e.length = z.length
      · rcases wm e ⟨el, v, n, wk, hv⟩ with h2 | h2
        · exact .inl h2
        · right
          unfold Short.before
          rw [if_pos (by rw [hw.1, el])]
          exact h2
      · right
        unfold Short.before
        rw [if_neg (by rw [hw.1]; omega), hw.1]
        simp
        omega
    · exact .inl (by omega)
  · exact ⟨none, fun c e he => (by cases he), fun v n c e w hv => absurd ⟨(c, e), v, n, w, hv⟩ hx⟩
/-- There is a route. -/
def AnsY (g : Gr) (e t c : Int) (es : List Int) : Prop := VG g ∧ (0 ≤ e ∧ e < g.start.length ∧ 0 ≤ t ∧ t < g.start.length) ∧ IsBest g e t (some (c, es))
/-- There is none: the code. -/
def AnsN (g : Gr) (e t k : Int) : Prop := (¬ VG g ∧ k = 3) ∨ (VG g ∧ ¬ (0 ≤ e ∧ e < g.start.length ∧ 0 ≤ t ∧ t < g.start.length) ∧ k = 2) ∨ (VG g ∧ (0 ≤ e ∧ e < g.start.length ∧ 0 ≤ t ∧ t < g.start.length) ∧ IsBest g e t none ∧ k = 1)
theorem ans (g : Gr) (e t : Int) : (∃ c es, AnsY g e t c es) ∨ ∃ k, AnsN g e t k := by
  by_cases h : VG g
  · by_cases hq : 0 ≤ e ∧ e < g.start.length ∧ 0 ≤ t ∧ t < g.start.length
    · obtain ⟨R, hR⟩ := IsBest.is h hq.1 hq.2.1 t
      rcases R with _ | ⟨c, es⟩
      · exact .inr ⟨1, .inr (.inr ⟨h, hq, hR, rfl⟩)⟩
      · exact .inl ⟨c, es, h, hq, hR⟩
    · exact .inr ⟨2, .inr (.inl ⟨h, hq, rfl⟩)⟩
  · exact .inr ⟨3, .inl ⟨h, rfl⟩⟩
theorem sizes (g : Gr) (h : sumG g ≤ 1048576) : g.edgeOf.length ≤ 1048576 ∧ g.stateOf.length ≤ 1048576 ∧ g.first.length ≤ 1048576 ∧ g.to.length ≤ 1048576 ∧ g.cost.length ≤ 1048576 ∧ g.start.length ≤ 1048576 ∧ g.weight.length ≤ 1048576 := by
  unfold sumG at h
  omega
theorem shortS_y {g : Gr} {e t c : Int} {es : List Int} (h : sumG g ≤ 1048576) (ha : AnsY g e t c es) : CallsF Try.prog 21 [.agg (encG g), .val (.v (.int .i64 e)), .val (.v (.int .i64 t))] (.agg [.t (.v (.int .i64 0)), .t (.v (.int .i64 c)), .t (ints es)]) [] := by
  have := shortS g e t (some (c, es)) (sizes g h) (fun _ _ _ => ha.2.2)
  rw [if_pos ha.1, if_pos ha.2.1] at this
  exact this
theorem shortS_n {g : Gr} {e t k : Int} (h : sumG g ≤ 1048576) (ha : AnsN g e t k) : CallsF Try.prog 21 [.agg (encG g), .val (.v (.int .i64 e)), .val (.v (.int .i64 t))] (.agg [.t (.v (.int .i64 k)), .t (.v (.int .i64 0)), .t (.v (.slice none 0 0))]) [] := by
  rcases ha with ⟨h1, rfl⟩ | ⟨h1, h2, rfl⟩ | ⟨h1, h2, h3, rfl⟩
  · have := shortS g e t none (sizes g h) (fun h2 => absurd h2 h1)
    rw [if_neg h1] at this
    exact this
  · by_cases hq : 0 ≤ e ∧ e < g.start.length
    · obtain ⟨R, hR⟩ := IsBest.is h1 hq.1 hq.2 t
      have := shortS g e t R (sizes g h) (fun _ _ _ => hR)
      rw [if_pos h1, if_neg h2] at this
      exact this
    · have := shortS g e t none (sizes g h) (fun _ h3 h4 => absurd ⟨h3, h4⟩ hq)
      rw [if_pos h1, if_neg h2] at this
      exact this
  · have := shortS g e t none (sizes g h) (fun _ _ _ => h3)
    rw [if_pos h1, if_pos h2] at this
    exact this
/-- The code of impl.Shortest. -/
def k23 : Code1 :=
 (.seq
 (.region [3,6] false ([]) [
 ⟨some 3,Op.box 50 (Operand.tmp 0),none⟩,
 ⟨some 6,Op.alloc 48,none⟩])
 (.seq
 (.seq
 (.region [9] false ([]) [
 ⟨some 8,Op.load 50 (Operand.tmp 3),none⟩,
 ⟨some 9,Op.call {callee:=Callee.value (Operand.func 87),args:=#[Operand.tmp 8],argTypes:=#[50]},none⟩,
 ⟨some 10,Op.unOp UnOp.not 4 (Operand.tmp 9),none⟩])
 (.cond (Operand.tmp 10)
 (.seq
 (.region [] false ([]) [
 ⟨some 11,Op.build 48 #[(0,Operand.const (Value.int IntKind.i64 3))],none⟩,
 ⟨none,Op.store 48 (Operand.tmp 6) (Operand.tmp 11),none⟩])
 .ret)
 .skip))
 (.seq
 (.region [] false ([]) [
 ⟨some 12,Op.fieldAddr 50 (Operand.tmp 3) 5,none⟩,
 ⟨some 13,Op.load 22 (Operand.tmp 12),none⟩,
 ⟨some 14,Op.call {callee:=Callee.builtin Builtin.len,args:=#[Operand.tmp 13],argTypes:=#[22]},none⟩,
 ⟨some 7,Op.assign (Operand.tmp 14),none⟩])
 (.seq
 (.seq
 (.region [] false ([]) [
 ⟨some 15,Op.move (Operand.tmp 1),none⟩,
 ⟨some 16,Op.binOp BinOp.lss 2 (Operand.tmp 15) (Operand.const (Value.int IntKind.i64 0)) 2,none⟩,
 ⟨some 17,Op.move (Operand.tmp 16),none⟩,
 ⟨some 18,Op.move (Operand.tmp 1),some (17,false)⟩,
 ⟨some 19,Op.move (Operand.tmp 7),some (17,false)⟩,
 ⟨some 20,Op.binOp BinOp.geq 2 (Operand.tmp 18) (Operand.tmp 19) 2,some (17,false)⟩,
 ⟨some 21,Op.pick (Operand.tmp 17) (Operand.const (Value.bool true)) (Operand.tmp 20),none⟩,
 ⟨some 22,Op.move (Operand.tmp 21),none⟩,
 ⟨some 23,Op.move (Operand.tmp 2),some (22,false)⟩,
 ⟨some 24,Op.binOp BinOp.lss 2 (Operand.tmp 23) (Operand.const (Value.int IntKind.i64 0)) 2,some (22,false)⟩,
 ⟨some 25,Op.pick (Operand.tmp 22) (Operand.const (Value.bool true)) (Operand.tmp 24),none⟩,
 ⟨some 26,Op.move (Operand.tmp 25),none⟩,
 ⟨some 27,Op.move (Operand.tmp 2),some (26,false)⟩,
 ⟨some 28,Op.move (Operand.tmp 7),some (26,false)⟩,
 ⟨some 29,Op.binOp BinOp.geq 2 (Operand.tmp 27) (Operand.tmp 28) 2,some (26,false)⟩,
 ⟨some 30,Op.pick (Operand.tmp 26) (Operand.const (Value.bool true)) (Operand.tmp 29),none⟩])
 (.cond (Operand.tmp 30)
 (.seq
 (.region [] false ([]) [
 ⟨some 31,Op.build 48 #[(0,Operand.const (Value.int IntKind.i64 2))],none⟩,
 ⟨none,Op.store 48 (Operand.tmp 6) (Operand.tmp 31),none⟩])
 .ret)
 .skip))
 (.seq
 (.region [35] false ([]) [
 ⟨some 32,Op.load 50 (Operand.tmp 3),none⟩,
 ⟨some 33,Op.move (Operand.tmp 1),none⟩,
 ⟨some 34,Op.move (Operand.tmp 2),none⟩,
 ⟨some 35,Op.call {callee:=Callee.value (Operand.func 88),args:=#[Operand.tmp 32,Operand.tmp 33,Operand.tmp 34],argTypes:=#[50,2,2]},none⟩,
 ⟨none,Op.store 48 (Operand.tmp 6) (Operand.tmp 35),none⟩])
 .ret)))))
set_option maxHeartbeats 0 in
theorem shortI_y {g : Gr} {e t c : Int} {es : List Int} (hs : sumG g ≤ 1048576) (ha : AnsY g e t c es) : CallsF Try.prog 23 [.agg (encG g), .val (.v (.int .i64 e)), .val (.v (.int .i64 t))] (.agg [.t (.v (.int .i64 0)), .t (.v (.int .i64 c)), .own 1 (intRow es)]) [] := by
  obtain ⟨h, ⟨q1, q2, q3, q4⟩, hR⟩ := ha
  obtain ⟨lg1, lg2, lg3, lg4, lg5, lg6, lg7⟩ := sizes g hs
  have vg := vgI g lg1 lg2 lg3 lg4 lg5 lg6 lg7
  have sc := shortI_c h q1 q2 hR
  refine callsF_of_wp2 (fn := Try.f23) (k := k23) (fun _ => []) mixed (by kernel_rfl) rfl (by kernel_rfl) (by kernel_rfl) (by kernel_rfl) rfl (by simp [Try.f23]) (by simp [Arg.like]) ?_
  generalize hst : St.enter [.agg (encG g), .val (.v (.int .i64 e)), .val (.v (.int .i64 t))] = st0
  have t0 : st0.tm 0 = .agg ((encG g) |>.map .t) := by rw [← hst]; rfl
  have t1 : st0.tm 1 = .t (.v (.int .i64 e)) := by rw [← hst]; rfl
  have t2 : st0.tm 2 = .t (.v (.int .i64 t)) := by rw [← hst]; rfl
  clear hst
  unfold k23
  simp [encG] at t0
  have l1 := h.l1
  have r1 : ¬ e < 0 := by omega
  have r2 : ¬ (g.start.length : Int) ≤ e := by omega
  have r3 : ¬ t < 0 := by omega
  have r4 : ¬ (g.start.length : Int) ≤ t := by omega
  unfold rtRV at sc
  repeat' (first
   | refine wp2_seq fun K hK => ?_
   | refine M_cons fun K hK => ?_
   | (refine hK _ ?_; clear hK K)
   | (refine hY _ ?_; clear hX hY X Y)
   | refine wp2_region ?_
   | refine wp2_cond fun X Y hX hY => ?_
   | (refine condK_of (fun c => ?_) (fun c => ?_) <;> (try simp [-List.length_eq_zero_iff] at c))
   | (refine callT_fl (vg) (by simp [St.args, St.arg, t0, t1, t2, h, encG, r1, r2, r3, r4] <;> first | rfl | ((repeat' first | rfl | apply And.intro); first | done | fail)) ?_)
   | (refine callT_fl (sc) (by simp [St.args, St.arg, t0, t1, t2, h, encG, r1, r2, r3, r4] <;> first | rfl | ((repeat' first | rfl | apply And.intro); first | done | fail)) ?_)
   | simp (maxSteps := 4000000) (disch := omega) [t0, t1, t2, h, encG, r1, r2, r3, r4])
  all_goals try (simp [t0, t1, t2, h, encG, r1, r2, r3, r4, Back]; done)
  all_goals simp [Back]
set_option maxHeartbeats 0 in
theorem shortI_n {g : Gr} {e t k : Int} (hs : sumG g ≤ 1048576) (ha : AnsN g e t k) : CallsF Try.prog 23 [.agg (encG g), .val (.v (.int .i64 e)), .val (.v (.int .i64 t))] (.agg [.t (.v (.int .i64 k)), .t (.v (.int .i64 0)), .t (.v (.slice none 0 0))]) [] := by
  obtain ⟨lg1, lg2, lg3, lg4, lg5, lg6, lg7⟩ := sizes g hs
  have vg := vgI g lg1 lg2 lg3 lg4 lg5 lg6 lg7
  refine callsF_of_wp2 (fn := Try.f23) (k := k23) (fun _ => []) mixed (by kernel_rfl) rfl (by kernel_rfl) (by kernel_rfl) (by kernel_rfl) rfl (by simp [Try.f23]) (by simp [Arg.like]) ?_
  generalize hst : St.enter [.agg (encG g), .val (.v (.int .i64 e)), .val (.v (.int .i64 t))] = st0
  have t0 : st0.tm 0 = .agg ((encG g) |>.map .t) := by rw [← hst]; rfl
  have t1 : st0.tm 1 = .t (.v (.int .i64 e)) := by rw [← hst]; rfl
  have t2 : st0.tm 2 = .t (.v (.int .i64 t)) := by rw [← hst]; rfl
  clear hst
  unfold k23
  simp [encG] at t0
  rcases ha with ⟨h1, rfl⟩ | ⟨h, h2, rfl⟩ | ⟨h, ⟨q1, q2, q3, q4⟩, hR, rfl⟩
  · repeat' (first
   | refine wp2_seq fun K hK => ?_
   | refine M_cons fun K hK => ?_
   | (refine hK _ ?_; clear hK K)
   | (refine hX _ ?_; clear hX hY X Y)
   | refine wp2_region ?_
   | refine wp2_cond fun X Y hX hY => ?_
   | (refine condK_of (fun c => ?_) (fun c => ?_) <;> (try simp [-List.length_eq_zero_iff] at c))
   | (refine callT_fl (vg) (by simp [St.args, St.arg, t0, t1, t2, h1, encG] <;> first | rfl | ((repeat' first | rfl | apply And.intro); first | done | fail)) ?_)
   | simp (maxSteps := 4000000) (disch := omega) [t0, t1, t2, h1, encG])
    all_goals try (simp [t0, t1, t2, h1, encG, Back]; done)
  · have l1 := h.l1
    by_cases r1 : e < 0
    · repeat' (first
     | refine wp2_seq fun K hK => ?_
     | refine M_cons fun K hK => ?_
     | (refine hK _ ?_; clear hK K)
     | (refine hX _ ?_; clear hX hY X Y)
     | (refine hY _ ?_; clear hX hY X Y)
     | refine wp2_region ?_
     | refine wp2_cond fun X Y hX hY => ?_
     | (refine condK_of (fun c => ?_) (fun c => ?_) <;> (try simp [-List.length_eq_zero_iff] at c))
     | (refine callT_fl (vg) (by simp [St.args, St.arg, t0, t1, t2, h, encG, r1] <;> first | rfl | ((repeat' first | rfl | apply And.intro); first | done | fail)) ?_)
     | simp (maxSteps := 4000000) (disch := omega) [t0, t1, t2, h, encG, r1])
      all_goals try (simp [t0, t1, t2, h, encG, r1, Back]; done)
    · by_cases r2 : (g.start.length : Int) ≤ e
      · repeat' (first
       | refine wp2_seq fun K hK => ?_
       | refine M_cons fun K hK => ?_
       | (refine hK _ ?_; clear hK K)
       | (refine hX _ ?_; clear hX hY X Y)
       | (refine hY _ ?_; clear hX hY X Y)
       | refine wp2_region ?_
       | refine wp2_cond fun X Y hX hY => ?_
       | (refine condK_of (fun c => ?_) (fun c => ?_) <;> (try simp [-List.length_eq_zero_iff] at c))
       | (refine callT_fl (vg) (by simp [St.args, St.arg, t0, t1, t2, h, encG, r1, r2] <;> first | rfl | ((repeat' first | rfl | apply And.intro); first | done | fail)) ?_)
       | simp (maxSteps := 4000000) (disch := omega) [t0, t1, t2, h, encG, r1, r2])
        all_goals try (simp [t0, t1, t2, h, encG, r1, r2, Back]; done)
      · by_cases r3 : t < 0
        · repeat' (first
         | refine wp2_seq fun K hK => ?_
         | refine M_cons fun K hK => ?_
         | (refine hK _ ?_; clear hK K)
         | (refine hX _ ?_; clear hX hY X Y)
         | (refine hY _ ?_; clear hX hY X Y)
         | refine wp2_region ?_
         | refine wp2_cond fun X Y hX hY => ?_
         | (refine condK_of (fun c => ?_) (fun c => ?_) <;> (try simp [-List.length_eq_zero_iff] at c))
         | (refine callT_fl (vg) (by simp [St.args, St.arg, t0, t1, t2, h, encG, r1, r2, r3] <;> first | rfl | ((repeat' first | rfl | apply And.intro); first | done | fail)) ?_)
         | simp (maxSteps := 4000000) (disch := omega) [t0, t1, t2, h, encG, r1, r2, r3])
          all_goals try (simp [t0, t1, t2, h, encG, r1, r2, r3, Back]; done)
        · have r4 : (g.start.length : Int) ≤ t := by omega
          repeat' (first
           | refine wp2_seq fun K hK => ?_
           | refine M_cons fun K hK => ?_
           | (refine hK _ ?_; clear hK K)
           | (refine hX _ ?_; clear hX hY X Y)
           | (refine hY _ ?_; clear hX hY X Y)
           | refine wp2_region ?_
           | refine wp2_cond fun X Y hX hY => ?_
           | (refine condK_of (fun c => ?_) (fun c => ?_) <;> (try simp [-List.length_eq_zero_iff] at c))
           | (refine callT_fl (vg) (by simp [St.args, St.arg, t0, t1, t2, h, encG, r1, r2, r3, r4] <;> first | rfl | ((repeat' first | rfl | apply And.intro); first | done | fail)) ?_)
           | simp (maxSteps := 4000000) (disch := omega) [t0, t1, t2, h, encG, r1, r2, r3, r4])
          all_goals try (simp [t0, t1, t2, h, encG, r1, r2, r3, r4, Back]; done)
  · have sc := shortI_c h q1 q2 hR
    have l1 := h.l1
    have r1 : ¬ e < 0 := by omega
    have r2 : ¬ (g.start.length : Int) ≤ e := by omega
    have r3 : ¬ t < 0 := by omega
    have r4 : ¬ (g.start.length : Int) ≤ t := by omega
    unfold rtRV at sc
    repeat' (first
     | refine wp2_seq fun K hK => ?_
     | refine M_cons fun K hK => ?_
     | (refine hK _ ?_; clear hK K)
     | (refine hY _ ?_; clear hX hY X Y)
     | refine wp2_region ?_
     | refine wp2_cond fun X Y hX hY => ?_
     | (refine condK_of (fun c => ?_) (fun c => ?_) <;> (try simp [-List.length_eq_zero_iff] at c))
     | (refine callT_fl (vg) (by simp [St.args, St.arg, t0, t1, t2, h, encG, r1, r2, r3, r4] <;> first | rfl | ((repeat' first | rfl | apply And.intro); first | done | fail)) ?_)
     | (refine callT_fl (sc) (by simp [St.args, St.arg, t0, t1, t2, h, encG, r1, r2, r3, r4] <;> first | rfl | ((repeat' first | rfl | apply And.intro); first | done | fail)) ?_)
     | simp (maxSteps := 4000000) (disch := omega) [t0, t1, t2, h, encG, r1, r2, r3, r4])
    all_goals try (simp [t0, t1, t2, h, encG, r1, r2, r3, r4, Back]; done)
end Cal

/- The law of Shortest. -/
set_option linter.unusedSimpArgs false
set_option linter.unusedVariables false
namespace Cal
open Go Go.Proofs
set_option maxRecDepth 100000
@[simp] theorem take_mk (k : Int) (n : Nat) : (intRow (marked k n)).take n = intRow (marked k n) := by
  have := take_intRow (marked k n)
  rwa [marked_length] at this
theorem AnsY.len {g : Gr} {e t c : Int} {es : List Int} (ha : AnsY g e t c es) : es.length ≤ 6000 := by
  obtain ⟨h, ⟨q1, q2, q3, q4⟩, hR⟩ := ha
  obtain ⟨v, n, w, hv⟩ := hR.1 _ _ rfl
  have el := (w.fine h q1 q2).el
  have st : Strict g e v n c := by
    intro m c' e' hm w'
    obtain ⟨c2, e2, h1, h2⟩ := hR.2 v m c' e' w' hv
    cases h1
    have el' := (w'.fine h q1 q2).el
    rcases h2 with h2 | ⟨rfl, h2⟩
    · exact h2
    · exfalso
      rcases h2 with rfl | h2
      · omega
      · unfold Short.before at h2
        rw [if_neg (by omega)] at h2
        simp at h2
        omega
  have := st.short h q1 q2 w
  have := h.l3
  omega
theorem eqNN : CallsF Try.prog 42 [.val (.v (.slice none 0 0)), .val (.v (.slice none 0 0))] (.t (.v (.bool true))) [] := by
  refine callsF_of_wp2 (fn := Try.f42) (k := k42) (fun _ => []) mixed (by kernel_rfl) rfl (by kernel_rfl) (by kernel_rfl) (by kernel_rfl) rfl (by simp [Try.f42]) (by simp [Arg.like]) ?_
  generalize hst : St.enter [.val (.v (.slice none 0 0)), .val (.v (.slice none 0 0))] = st0
  have t0 : st0.tm 0 = .t (.v (.slice none 0 0)) := by rw [← hst]; rfl
  have t1 : st0.tm 1 = .t (.v (.slice none 0 0)) := by rw [← hst]; rfl
  clear hst
  unfold k42
  repeat' (first
   | refine wp2_seq fun K hK => ?_
   | refine M_cons fun K hK => ?_
   | (refine hK _ ?_; clear hK K)
   | (refine hY _ ?_; clear hX hY X Y)
   | refine wp2_block ?_
   | refine wp2_region ?_
   | refine wp2_cond fun X Y hX hY => ?_
   | (refine condK_of (fun c => ?_) (fun c => ?_) <;> (try simp [-List.length_eq_zero_iff] at c))
   | simp (maxSteps := 4000000) (disch := omega) [t0, t1])
  have hJ : ∀ s, K s := by
    intro s
    repeat' (first
     | refine wp2_seq fun K hK => ?_
     | refine M_cons fun K hK => ?_
     | (refine hK _ ?_; clear hK K)
     | refine wp2_region ?_
     | simp (maxSteps := 4000000) (disch := omega) [])
    all_goals try (simp [Back]; done)
  clear hK
  refine wp2_loop (fun n s => s.tm 0 = .t (.v (.slice none 0 0)) ∧ s.tm 5 = .t (.v (.int .i64 0)) ∧ n = 0) 0 ?_ ?_
  · simp [t0, t1]
  · rintro n s ⟨s0, s5, rfl⟩ K' hK'
    repeat' (first
     | refine wp2_seq fun K hK => ?_
     | refine M_cons fun K hK => ?_
     | (refine hK _ ?_; clear hK K)
     | (refine hY _ ?_; clear hX hY X Y)
     | refine wp2_region ?_
     | refine wp2_cond fun X Y hX hY => ?_
     | (refine condK_of (fun c => ?_) (fun c => ?_) <;> (try simp [-List.length_eq_zero_iff] at c))
     | simp (maxSteps := 4000000) (disch := omega) [s0, s5])
    exact hJ _
theorem markNN (k : Int) : CallsF Try.prog 73 [.val (.v (.slice none 0 0)), .val (.v (.int .i64 k))] (.t (.v (.int .i64 k))) [] := by
  refine callsF_of_wp2 (fn := Try.f73) (k := k73) (fun _ => []) mixed (by kernel_rfl) rfl (by kernel_rfl) (by kernel_rfl) (by kernel_rfl) rfl (by simp [Try.f73]) (by simp [Arg.like]) ?_
  generalize hst : St.enter [.val (.v (.slice none 0 0)), .val (.v (.int .i64 k))] = st0
  have t0 : st0.tm 0 = .t (.v (.slice none 0 0)) := by rw [← hst]; rfl
  have t1 : st0.tm 1 = .t (.v (.int .i64 k)) := by rw [← hst]; rfl
  clear hst
  unfold k73
  repeat' (first
   | refine wp2_seq fun K hK => ?_
   | refine M_cons fun K hK => ?_
   | (refine hK _ ?_; clear hK K)
   | refine wp2_block ?_
   | refine wp2_region ?_
   | simp (maxSteps := 4000000) (disch := omega) [t0, t1])
  have hJ : ∀ s, s.tm 1 = .t (.v (.int .i64 k)) → K s := by
    intro s s1
    repeat' (first
     | refine wp2_seq fun K hK => ?_
     | refine M_cons fun K hK => ?_
     | (refine hK _ ?_; clear hK K)
     | refine wp2_region ?_
     | simp (maxSteps := 4000000) (disch := omega) [s1])
    all_goals try (simp [s1, Back]; done)
  clear hK
  refine wp2_loop (fun n s => s.tm 0 = .t (.v (.slice none 0 0)) ∧ s.tm 5 = .t (.v (.int .i64 0)) ∧ s.tm 1 = .t (.v (.int .i64 k)) ∧ n = 0) 0 ?_ ?_
  · simp [t0, t1]
  · rintro n s ⟨s0, s5, s1, rfl⟩ K' hK'
    repeat' (first
     | refine wp2_seq fun K hK => ?_
     | refine M_cons fun K hK => ?_
     | (refine hK _ ?_; clear hK K)
     | (refine hY _ ?_; clear hX hY X Y)
     | refine wp2_region ?_
     | refine wp2_cond fun X Y hX hY => ?_
     | (refine condK_of (fun c => ?_) (fun c => ?_) <;> (try simp [-List.length_eq_zero_iff] at c))
     | simp (maxSteps := 4000000) (disch := omega) [s0, s5, s1])
    exact hJ _ (by simp [s1])
theorem heldNN (k : Int) : CallsF Try.prog 78 [.val (.v (.slice none 0 0)), .val (.v (.int .i64 k))] (.t (.v (.int .i64 k))) [] := by
  refine callsF_of_wp2 (fn := Try.f78) (k := k78) (fun _ => []) mixed (by kernel_rfl) rfl (by kernel_rfl) (by kernel_rfl) (by kernel_rfl) rfl (by simp [Try.f78]) (by simp [Arg.like]) ?_
  generalize hst : St.enter [.val (.v (.slice none 0 0)), .val (.v (.int .i64 k))] = st0
  have t0 : st0.tm 0 = .t (.v (.slice none 0 0)) := by rw [← hst]; rfl
  have t1 : st0.tm 1 = .t (.v (.int .i64 k)) := by rw [← hst]; rfl
  clear hst
  unfold k78
  repeat' (first
   | refine wp2_seq fun K hK => ?_
   | refine M_cons fun K hK => ?_
   | (refine hK _ ?_; clear hK K)
   | refine wp2_block ?_
   | refine wp2_region ?_
   | simp (maxSteps := 4000000) (disch := omega) [t0, t1])
  have hJ : ∀ s, s.tm 1 = .t (.v (.int .i64 k)) → K s := by
    intro s s1
    repeat' (first
     | refine wp2_seq fun K hK => ?_
     | refine M_cons fun K hK => ?_
     | (refine hK _ ?_; clear hK K)
     | refine wp2_region ?_
     | simp (maxSteps := 4000000) (disch := omega) [s1])
    all_goals try (simp [s1, Back]; done)
  clear hK
  refine wp2_loop (fun n s => s.tm 0 = .t (.v (.slice none 0 0)) ∧ s.tm 5 = .t (.v (.int .i64 0)) ∧ s.tm 1 = .t (.v (.int .i64 k)) ∧ n = 0) 0 ?_ ?_
  · simp [t0, t1]
  · rintro n s ⟨s0, s5, s1, rfl⟩ K' hK'
    repeat' (first
     | refine wp2_seq fun K hK => ?_
     | refine M_cons fun K hK => ?_
     | (refine hK _ ?_; clear hK K)
     | (refine hY _ ?_; clear hX hY X Y)
     | refine wp2_region ?_
     | refine wp2_cond fun X Y hX hY => ?_
     | (refine condK_of (fun c => ?_) (fun c => ?_) <;> (try simp [-List.length_eq_zero_iff] at c))
     | simp (maxSteps := 4000000) (disch := omega) [s0, s5, s1])
    exact hJ _ (by simp [s1])
/-- The code of laws.eqRoute. -/
def k24 : Code1 :=
 (.seq
 (.region [2,3] false ([]) [
 ⟨some 2,Op.box 48 (Operand.tmp 0),none⟩,
 ⟨some 3,Op.box 48 (Operand.tmp 1),none⟩,
 ⟨some 4,Op.assign (Operand.const (Value.bool false)),none⟩])
 (.seq
 (.seq
 (.region [] false ([]) [
 ⟨some 5,Op.fieldAddr 48 (Operand.tmp 2) 0,none⟩,
 ⟨some 6,Op.load 2 (Operand.tmp 5),none⟩,
 ⟨some 7,Op.fieldAddr 48 (Operand.tmp 3) 0,none⟩,
 ⟨some 8,Op.load 2 (Operand.tmp 7),none⟩,
 ⟨some 9,Op.binOp BinOp.neq 2 (Operand.tmp 6) (Operand.tmp 8) 2,none⟩])
 (.cond (Operand.tmp 9)
 (.seq
 (.region [] false ([]) [
 ⟨some 4,Op.assign (Operand.const (Value.bool false)),none⟩])
 .ret)
 .skip))
 (.seq
 (.seq
 (.region [] false ([]) [
 ⟨some 10,Op.fieldAddr 48 (Operand.tmp 2) 1,none⟩,
 ⟨some 11,Op.load 2 (Operand.tmp 10),none⟩,
 ⟨some 12,Op.fieldAddr 48 (Operand.tmp 3) 1,none⟩,
 ⟨some 13,Op.load 2 (Operand.tmp 12),none⟩,
 ⟨some 14,Op.binOp BinOp.neq 2 (Operand.tmp 11) (Operand.tmp 13) 2,none⟩])
 (.cond (Operand.tmp 14)
 (.seq
 (.region [] false ([]) [
 ⟨some 4,Op.assign (Operand.const (Value.bool false)),none⟩])
 .ret)
 .skip))
 (.seq
 (.seq
 (.region [19] false ([]) [
 ⟨some 15,Op.fieldAddr 48 (Operand.tmp 2) 2,none⟩,
 ⟨some 16,Op.load 22 (Operand.tmp 15),none⟩,
 ⟨some 17,Op.fieldAddr 48 (Operand.tmp 3) 2,none⟩,
 ⟨some 18,Op.load 22 (Operand.tmp 17),none⟩,
 ⟨some 19,Op.call {callee:=Callee.value (Operand.func 42),args:=#[Operand.tmp 16,Operand.tmp 18],argTypes:=#[22,22]},none⟩,
 ⟨some 20,Op.unOp UnOp.not 4 (Operand.tmp 19),none⟩])
 (.cond (Operand.tmp 20)
 (.seq
 (.region [] false ([]) [
 ⟨some 4,Op.assign (Operand.const (Value.bool false)),none⟩])
 .ret)
 .skip))
 (.seq
 (.region [] false ([]) [
 ⟨some 4,Op.assign (Operand.const (Value.bool true)),none⟩])
 .ret)))))
theorem eqRtY (a c : Int) (es : List Int) (h : es.length ≤ 1048576) : CallsF Try.prog 24 [.agg [.v (.int .i64 a), .v (.int .i64 c), ints es], .agg [.v (.int .i64 a), .v (.int .i64 c), ints es]] (.t (.v (.bool true))) [] := by
  refine callsF_of_wp2 (fn := Try.f24) (k := k24) (fun _ => []) mixed (by kernel_rfl) rfl (by kernel_rfl) (by kernel_rfl) (by kernel_rfl) rfl (by simp [Try.f24]) (by simp [Arg.like]) ?_
  generalize hst : St.enter [.agg [.v (.int .i64 a), .v (.int .i64 c), ints es], .agg [.v (.int .i64 a), .v (.int .i64 c), ints es]] = st0
  have t0 : st0.tm 0 = .agg ([.v (.int .i64 a), .v (.int .i64 c), ints es] |>.map .t) := by rw [← hst]; rfl
  have t1 : st0.tm 1 = .agg ([.v (.int .i64 a), .v (.int .i64 c), ints es] |>.map .t) := by rw [← hst]; rfl
  clear hst
  unfold k24
  have e1 := eqI es es h h
  repeat' (first
   | refine wp2_seq fun K hK => ?_
   | refine M_cons fun K hK => ?_
   | (refine hK _ ?_; clear hK K)
   | (refine hY _ ?_; clear hX hY X Y)
   | refine wp2_region ?_
   | refine wp2_cond fun X Y hX hY => ?_
   | (refine condK_of (fun c => ?_) (fun c => ?_) <;> (try simp [-List.length_eq_zero_iff] at c))
   | (refine callT_fl (e1) (by simp [St.args, St.arg, t0, t1] <;> first | rfl | ((repeat' first | rfl | apply And.intro); first | done | fail)) ?_)
   | simp (maxSteps := 4000000) (disch := omega) [t0, t1])
  all_goals try (simp [t0, t1, Back]; done)
theorem eqRtN (a c : Int) : CallsF Try.prog 24 [.agg [.v (.int .i64 a), .v (.int .i64 c), .v (.slice none 0 0)], .agg [.v (.int .i64 a), .v (.int .i64 c), .v (.slice none 0 0)]] (.t (.v (.bool true))) [] := by
  refine callsF_of_wp2 (fn := Try.f24) (k := k24) (fun _ => []) mixed (by kernel_rfl) rfl (by kernel_rfl) (by kernel_rfl) (by kernel_rfl) rfl (by simp [Try.f24]) (by simp [Arg.like]) ?_
  generalize hst : St.enter [.agg [.v (.int .i64 a), .v (.int .i64 c), .v (.slice none 0 0)], .agg [.v (.int .i64 a), .v (.int .i64 c), .v (.slice none 0 0)]] = st0
  have t0 : st0.tm 0 = .agg ([.v (.int .i64 a), .v (.int .i64 c), .v (.slice none 0 0)] |>.map .t) := by rw [← hst]; rfl
  have t1 : st0.tm 1 = .agg ([.v (.int .i64 a), .v (.int .i64 c), .v (.slice none 0 0)] |>.map .t) := by rw [← hst]; rfl
  clear hst
  unfold k24
  repeat' (first
   | refine wp2_seq fun K hK => ?_
   | refine M_cons fun K hK => ?_
   | (refine hK _ ?_; clear hK K)
   | (refine hY _ ?_; clear hX hY X Y)
   | refine wp2_region ?_
   | refine wp2_cond fun X Y hX hY => ?_
   | (refine condK_of (fun c => ?_) (fun c => ?_) <;> (try simp [-List.length_eq_zero_iff] at c))
   | (refine callT_fl (eqNN) (by simp [St.args, St.arg, t0, t1] <;> first | rfl | ((repeat' first | rfl | apply And.intro); first | done | fail)) ?_)
   | simp (maxSteps := 4000000) (disch := omega) [t0, t1])
  all_goals try (simp [t0, t1, Back]; done)
/-- The code of laws.markRoute. -/
def k27 : Code1 :=
 (.seq
 (.region [2] false ([]) [
 ⟨some 2,Op.box 48 (Operand.tmp 0),none⟩,
 ⟨some 4,Op.assign (Operand.const (Value.int IntKind.i64 0)),none⟩])
 (.seq
 (.region [8] false ([]) [
 ⟨some 5,Op.fieldAddr 48 (Operand.tmp 2) 2,none⟩,
 ⟨some 6,Op.load 22 (Operand.tmp 5),none⟩,
 ⟨some 7,Op.move (Operand.tmp 1),none⟩,
 ⟨some 8,Op.call {callee:=Callee.value (Operand.func 73),args:=#[Operand.tmp 6,Operand.tmp 7],argTypes:=#[22,3]},none⟩,
 ⟨some 1,Op.assign (Operand.tmp 8),none⟩])
 (.seq
 (.region [] false ([]) [
 ⟨some 9,Op.move (Operand.tmp 1),none⟩,
 ⟨some 4,Op.assign (Operand.tmp 9),none⟩])
 .ret)))
theorem markRtY (a c k : Int) (es : List Int) (h0 : 0 ≤ k) (h1 : k ≤ 1000000000) (h : es.length ≤ 1048576) : CallsFS Try.prog 27 [some 3, none] [.val (.v (.int .i64 a)), .val (.v (.int .i64 c)), .mrow 1 (intRow es), .val (.v (.int .i64 k))] (.t (.v (.int .i64 (k + es.length)))) [some (.mrow 1 (intRow (marked k es.length)))] := by
  refine callsFS_of_wp2 (fn := Try.f27) (k := k27) (fun _ => []) mixed (by kernel_rfl) rfl (by kernel_rfl) (by kernel_rfl) (by kernel_rfl) rfl (by simp [Try.f27]) (by simp [Arg.like]) ?_
  generalize hst : St.enterS [some 3, none] [.val (.v (.int .i64 a)), .val (.v (.int .i64 c)), .mrow 1 (intRow es), .val (.v (.int .i64 k))] = st0
  have t0 : st0.tm 0 = .agg [.t (.v (.int .i64 a)), .t (.v (.int .i64 c)), .row (100002, 0) 1 0 (intRow es).length] := by rw [← hst]; rfl
  have t1 : st0.tm 1 = .t (.v (.int .i64 k)) := by rw [← hst]; rfl
  have o2 : st0.ob (100002, 0) = some (.row 1 (intRow es)) := by rw [← hst]; rfl
  clear hst
  unfold k27
  simp at t0
  have hb : base = 100000 := rfl
  repeat' (first
   | refine wp2_seq fun K hK => ?_
   | refine M_cons fun K hK => ?_
   | (refine hK _ ?_; clear hK K)
   | refine wp2_region ?_
   | (refine callT_gen true (markI es _ ?_ ?_ ?_) (fun _ => ⟨(by first | (simp [RV.flat, RV.flats, T.flat]; done) | ((repeat' first | exact flat_intRow _ | exact flat_boolRow _ | exact flat_byteR _ | exact trivial | constructor | unfold RV.flat | unfold RV.flats); first | done | fail)), (by (repeat' first | exact flat_intRow _ | exact flat_boolRow _ | exact flat_byteR _ | exact trivial | constructor | unfold Arg.flats | unfold Arg.flat); first | done | fail)⟩) (by simp [St.args, St.arg, t0, t1, o2, hb] <;> first | rfl | ((repeat' first | rfl | apply And.intro); first | done | fail)) (by simp [apartArgs, mutsOf, noRow, valsOf]) (by simp) ?_; omega; omega; omega)
   | simp (maxSteps := 4000000) (disch := omega) [t0, t1, o2, hb])
  all_goals try (simp [t0, t1, o2, hb, Back]; done)
theorem markRtN (a c k : Int) : CallsF Try.prog 27 [.agg [.v (.int .i64 a), .v (.int .i64 c), .v (.slice none 0 0)], .val (.v (.int .i64 k))] (.t (.v (.int .i64 k))) [] := by
  refine callsF_of_wp2 (fn := Try.f27) (k := k27) (fun _ => []) mixed (by kernel_rfl) rfl (by kernel_rfl) (by kernel_rfl) (by kernel_rfl) rfl (by simp [Try.f27]) (by simp [Arg.like]) ?_
  generalize hst : St.enter [.agg [.v (.int .i64 a), .v (.int .i64 c), .v (.slice none 0 0)], .val (.v (.int .i64 k))] = st0
  have t0 : st0.tm 0 = .agg ([.v (.int .i64 a), .v (.int .i64 c), .v (.slice none 0 0)] |>.map .t) := by rw [← hst]; rfl
  have t1 : st0.tm 1 = .t (.v (.int .i64 k)) := by rw [← hst]; rfl
  clear hst
  unfold k27
  have e1 := markNN k
  repeat' (first
   | refine wp2_seq fun K hK => ?_
   | refine M_cons fun K hK => ?_
   | (refine hK _ ?_; clear hK K)
   | refine wp2_region ?_
   | (refine callT_fl (e1) (by simp [St.args, St.arg, t0, t1] <;> first | rfl | ((repeat' first | rfl | apply And.intro); first | done | fail)) ?_)
   | simp (maxSteps := 4000000) (disch := omega) [t0, t1])
  all_goals try (simp [t0, t1, Back]; done)
/-- The code of laws.heldRoute. -/
def k28 : Code1 :=
 (.seq
 (.region [2] false ([]) [
 ⟨some 2,Op.box 48 (Operand.tmp 0),none⟩,
 ⟨some 4,Op.assign (Operand.const (Value.int IntKind.i64 0)),none⟩])
 (.seq
 (.region [8] false ([]) [
 ⟨some 5,Op.fieldAddr 48 (Operand.tmp 2) 2,none⟩,
 ⟨some 6,Op.load 22 (Operand.tmp 5),none⟩,
 ⟨some 7,Op.move (Operand.tmp 1),none⟩,
 ⟨some 8,Op.call {callee:=Callee.value (Operand.func 78),args:=#[Operand.tmp 6,Operand.tmp 7],argTypes:=#[22,3]},none⟩,
 ⟨some 1,Op.assign (Operand.tmp 8),none⟩])
 (.seq
 (.seq
 (.region [] false ([]) [
 ⟨some 9,Op.move (Operand.tmp 1),none⟩,
 ⟨some 10,Op.binOp BinOp.lss 3 (Operand.tmp 9) (Operand.const (Value.int IntKind.i64 0)) 3,none⟩])
 (.cond (Operand.tmp 10)
 (.seq
 (.region [] false ([]) [
 ⟨some 4,Op.assign (Operand.const (Value.int IntKind.i64 (-1))),none⟩])
 .ret)
 .skip))
 (.seq
 (.region [] false ([]) [
 ⟨some 11,Op.move (Operand.tmp 1),none⟩,
 ⟨some 4,Op.assign (Operand.tmp 11),none⟩])
 .ret))))
theorem heldRtY (a c k : Int) (n : Nat) (h0 : 0 ≤ k) (h1 : k ≤ 1000000000) (h : n ≤ 1048576) : CallsF Try.prog 28 [.agg [.v (.int .i64 a), .v (.int .i64 c), ints (marked k n)], .val (.v (.int .i64 k))] (.t (.v (.int .i64 (k + n)))) [] := by
  refine callsF_of_wp2 (fn := Try.f28) (k := k28) (fun _ => []) mixed (by kernel_rfl) rfl (by kernel_rfl) (by kernel_rfl) (by kernel_rfl) rfl (by simp [Try.f28]) (by simp [Arg.like]) ?_
  generalize hst : St.enter [.agg [.v (.int .i64 a), .v (.int .i64 c), ints (marked k n)], .val (.v (.int .i64 k))] = st0
  have t0 : st0.tm 0 = .agg ([.v (.int .i64 a), .v (.int .i64 c), ints (marked k n)] |>.map .t) := by rw [← hst]; rfl
  have t1 : st0.tm 1 = .t (.v (.int .i64 k)) := by rw [← hst]; rfl
  clear hst
  unfold k28
  have e1 := heldI n k h0 h1 h
  repeat' (first
   | refine wp2_seq fun K hK => ?_
   | refine M_cons fun K hK => ?_
   | (refine hK _ ?_; clear hK K)
   | (refine hX _ ?_; clear hX hY X Y)
   | (refine hY _ ?_; clear hX hY X Y)
   | refine wp2_region ?_
   | refine wp2_cond fun X Y hX hY => ?_
   | (refine condK_of (fun c => ?_) (fun c => ?_) <;> (try simp [-List.length_eq_zero_iff] at c))
   | (refine callT_fl (e1) (by simp [St.args, St.arg, t0, t1] <;> first | rfl | ((repeat' first | rfl | apply And.intro); first | done | fail)) ?_)
   | simp (maxSteps := 4000000) (disch := omega) [t0, t1])
  all_goals try (simp [t0, t1, Back]; done)
  all_goals first | omega | skip
theorem heldRtN (a c k : Int) (h0 : 0 ≤ k) : CallsF Try.prog 28 [.agg [.v (.int .i64 a), .v (.int .i64 c), .v (.slice none 0 0)], .val (.v (.int .i64 k))] (.t (.v (.int .i64 k))) [] := by
  refine callsF_of_wp2 (fn := Try.f28) (k := k28) (fun _ => []) mixed (by kernel_rfl) rfl (by kernel_rfl) (by kernel_rfl) (by kernel_rfl) rfl (by simp [Try.f28]) (by simp [Arg.like]) ?_
  generalize hst : St.enter [.agg [.v (.int .i64 a), .v (.int .i64 c), .v (.slice none 0 0)], .val (.v (.int .i64 k))] = st0
  have t0 : st0.tm 0 = .agg ([.v (.int .i64 a), .v (.int .i64 c), .v (.slice none 0 0)] |>.map .t) := by rw [← hst]; rfl
  have t1 : st0.tm 1 = .t (.v (.int .i64 k)) := by rw [← hst]; rfl
  clear hst
  unfold k28
  have e1 := heldNN k
  repeat' (first
   | refine wp2_seq fun K hK => ?_
   | refine M_cons fun K hK => ?_
   | (refine hK _ ?_; clear hK K)
   | (refine hX _ ?_; clear hX hY X Y)
   | (refine hY _ ?_; clear hX hY X Y)
   | refine wp2_region ?_
   | refine wp2_cond fun X Y hX hY => ?_
   | (refine condK_of (fun c => ?_) (fun c => ?_) <;> (try simp [-List.length_eq_zero_iff] at c))
   | (refine callT_fl (e1) (by simp [St.args, St.arg, t0, t1] <;> first | rfl | ((repeat' first | rfl | apply And.intro); first | done | fail)) ?_)
   | simp (maxSteps := 4000000) (disch := omega) [t0, t1])
  all_goals try (simp [t0, t1, Back]; done)
  all_goals first | omega | skip
/-- The code of laws.FnExactShortest. -/
def k4 : Code1 :=
 (.seq
 (.region [3] false ([]) [
 ⟨some 3,Op.box 45 (Operand.tmp 0),none⟩,
 ⟨some 6,Op.assign (Operand.const (Value.bool false)),none⟩])
 (.seq
 (.region [] false ([]) [
 ⟨some 7,Op.assign (Operand.const (Value.int IntKind.i64 1048576)),none⟩])
 (.seq
 (.region [17] false ([]) [
 ⟨some 15,Op.load 45 (Operand.tmp 3),none⟩,
 ⟨some 16,Op.move (Operand.tmp 7),none⟩,
 ⟨some 17,Op.call {callee:=Callee.value (Operand.func 20),args:=#[Operand.tmp 15,Operand.tmp 16],argTypes:=#[45,3]},none⟩,
 ⟨some 7,Op.assign (Operand.tmp 17),none⟩])
 (.seq
 (.seq
 (.region [] false ([]) [
 ⟨some 18,Op.move (Operand.tmp 7),none⟩,
 ⟨some 19,Op.binOp BinOp.lss 3 (Operand.tmp 18) (Operand.const (Value.int IntKind.i64 0)) 3,none⟩])
 (.cond (Operand.tmp 19)
 (.seq
 (.region [] false ([]) [
 ⟨some 6,Op.assign (Operand.const (Value.bool true)),none⟩])
 .ret)
 .skip))
 (.seq
 (.region [21,24,8] false ([]) [
 ⟨some 20,Op.load 45 (Operand.tmp 3),none⟩,
 ⟨some 21,Op.call {callee:=Callee.value (Operand.func 22),args:=#[Operand.tmp 20],argTypes:=#[45]},none⟩,
 ⟨some 22,Op.move (Operand.tmp 1),none⟩,
 ⟨some 23,Op.move (Operand.tmp 2),none⟩,
 ⟨some 24,Op.call {callee:=Callee.value (Operand.func 21),args:=#[Operand.tmp 21,Operand.tmp 22,Operand.tmp 23],argTypes:=#[50,2,2]},none⟩,
 ⟨some 8,Op.alloc 48,none⟩,
 ⟨none,Op.store 48 (Operand.tmp 8) (Operand.tmp 24),none⟩])
 (.seq
 (.region [26,9] false ([]) [
 ⟨some 25,Op.load 45 (Operand.tmp 3),none⟩,
 ⟨some 26,Op.call {callee:=Callee.value (Operand.func 22),args:=#[Operand.tmp 25],argTypes:=#[45]},none⟩,
 ⟨some 9,Op.alloc 50,none⟩,
 ⟨none,Op.store 50 (Operand.tmp 9) (Operand.tmp 26),none⟩])
 (.seq
 (.region [30,10] false ([]) [
 ⟨some 27,Op.load 50 (Operand.tmp 9),none⟩,
 ⟨some 28,Op.move (Operand.tmp 1),none⟩,
 ⟨some 29,Op.move (Operand.tmp 2),none⟩,
 ⟨some 30,Op.call {callee:=Callee.value (Operand.func 23),args:=#[Operand.tmp 27,Operand.tmp 28,Operand.tmp 29],argTypes:=#[50,2,2]},none⟩,
 ⟨some 10,Op.alloc 48,none⟩,
 ⟨none,Op.store 48 (Operand.tmp 10) (Operand.tmp 30),none⟩])
 (.seq
 (.seq
 (.region [33] false ([]) [
 ⟨some 31,Op.load 48 (Operand.tmp 10),none⟩,
 ⟨some 32,Op.load 48 (Operand.tmp 8),none⟩,
 ⟨some 33,Op.call {callee:=Callee.value (Operand.func 24),args:=#[Operand.tmp 31,Operand.tmp 32],argTypes:=#[48,48]},none⟩,
 ⟨some 34,Op.unOp UnOp.not 4 (Operand.tmp 33),none⟩])
 (.cond (Operand.tmp 34)
 (.seq
 (.region [] false ([]) [
 ⟨some 6,Op.assign (Operand.const (Value.bool false)),none⟩])
 .ret)
 .skip))
 (.seq
 (.seq
 (.region [37,38] true ([]) [
 ⟨some 35,Op.load 50 (Operand.tmp 9),none⟩,
 ⟨some 36,Op.load 45 (Operand.tmp 3),none⟩,
 ⟨some 37,Op.call {callee:=Callee.value (Operand.func 22),args:=#[Operand.tmp 36],argTypes:=#[45]},none⟩,
 ⟨some 38,Op.call {callee:=Callee.value (Operand.func 25),args:=#[Operand.tmp 35,Operand.tmp 37],argTypes:=#[50,50]},none⟩,
 ⟨some 39,Op.unOp UnOp.not 4 (Operand.tmp 38),none⟩])
 (.cond (Operand.tmp 39)
 (.seq
 (.region [] false ([]) [
 ⟨some 6,Op.assign (Operand.const (Value.bool false)),none⟩])
 .ret)
 .skip))
 (.seq
 (.region [] false ([]) [
 ⟨some 11,Op.assign (Operand.const (Value.int IntKind.i64 1)),none⟩])
 (.seq
 (.region [42] false ([]) [
 ⟨some 40,Op.load 50 (Operand.tmp 9),none⟩,
 ⟨some 41,Op.move (Operand.tmp 11),none⟩,
 ⟨some 42,Op.call {callee:=Callee.value (Operand.func 26),args:=#[Operand.tmp 40,Operand.tmp 41],argTypes:=#[50,3]},none⟩,
 ⟨some 11,Op.assign (Operand.tmp 42),none⟩])
 (.seq
 (.seq
 (.region [48] false ([]) [
 ⟨some 43,Op.move (Operand.tmp 11),none⟩,
 ⟨some 44,Op.binOp BinOp.lss 3 (Operand.tmp 43) (Operand.const (Value.int IntKind.i64 0)) 3,none⟩,
 ⟨some 45,Op.move (Operand.tmp 44),none⟩,
 ⟨some 46,Op.load 48 (Operand.tmp 10),some (45,false)⟩,
 ⟨some 47,Op.load 48 (Operand.tmp 8),some (45,false)⟩,
 ⟨some 48,Op.call {callee:=Callee.value (Operand.func 24),args:=#[Operand.tmp 46,Operand.tmp 47],argTypes:=#[48,48]},some (45,false)⟩,
 ⟨some 49,Op.unOp UnOp.not 4 (Operand.tmp 48),some (45,false)⟩,
 ⟨some 50,Op.pick (Operand.tmp 45) (Operand.const (Value.bool true)) (Operand.tmp 49),none⟩])
 (.cond (Operand.tmp 50)
 (.seq
 (.region [] false ([]) [
 ⟨some 6,Op.assign (Operand.const (Value.bool false)),none⟩])
 .ret)
 .skip))
 (.seq
 (.region [] false ([]) [
 ⟨some 12,Op.assign (Operand.const (Value.int IntKind.i64 1)),none⟩])
 (.seq
 (.region [53] false ([]) [
 ⟨some 51,Op.load 48 (Operand.tmp 10),none⟩,
 ⟨some 52,Op.move (Operand.tmp 12),none⟩,
 ⟨some 53,Op.call {callee:=Callee.value (Operand.func 27),args:=#[Operand.tmp 51,Operand.tmp 52],argTypes:=#[48,3]},none⟩,
 ⟨some 12,Op.assign (Operand.tmp 53),none⟩])
 (.seq
 (.region [] false ([]) [
 ⟨some 13,Op.assign (Operand.const (Value.int IntKind.i64 1)),none⟩])
 (.seq
 (.region [56] false ([]) [
 ⟨some 54,Op.load 48 (Operand.tmp 10),none⟩,
 ⟨some 55,Op.move (Operand.tmp 13),none⟩,
 ⟨some 56,Op.call {callee:=Callee.value (Operand.func 28),args:=#[Operand.tmp 54,Operand.tmp 55],argTypes:=#[48,3]},none⟩,
 ⟨some 13,Op.assign (Operand.tmp 56),none⟩])
 (.seq
 (.seq
 (.region [] false ([]) [
 ⟨some 57,Op.move (Operand.tmp 13),none⟩,
 ⟨some 58,Op.binOp BinOp.lss 3 (Operand.tmp 57) (Operand.const (Value.int IntKind.i64 0)) 3,none⟩])
 (.cond (Operand.tmp 58)
 (.seq
 (.region [] false ([]) [
 ⟨some 6,Op.assign (Operand.const (Value.bool false)),none⟩])
 .ret)
 .skip))
 (.seq
 (.seq
 (.region [] false ([]) [
 ⟨some 59,Op.move (Operand.tmp 13),none⟩,
 ⟨some 60,Op.move (Operand.tmp 12),none⟩,
 ⟨some 61,Op.binOp BinOp.neq 3 (Operand.tmp 59) (Operand.tmp 60) 3,none⟩])
 (.cond (Operand.tmp 61)
 (.seq
 (.region [] false ([]) [
 ⟨some 6,Op.assign (Operand.const (Value.bool false)),none⟩])
 .ret)
 .skip))
 (.seq
 (.region [63,66,14] false ([]) [
 ⟨some 62,Op.load 45 (Operand.tmp 3),none⟩,
 ⟨some 63,Op.call {callee:=Callee.value (Operand.func 22),args:=#[Operand.tmp 62],argTypes:=#[45]},none⟩,
 ⟨some 64,Op.move (Operand.tmp 1),none⟩,
 ⟨some 65,Op.move (Operand.tmp 2),none⟩,
 ⟨some 66,Op.call {callee:=Callee.value (Operand.func 23),args:=#[Operand.tmp 63,Operand.tmp 64,Operand.tmp 65],argTypes:=#[50,2,2]},none⟩,
 ⟨some 14,Op.alloc 48,none⟩,
 ⟨none,Op.store 48 (Operand.tmp 14) (Operand.tmp 66),none⟩])
 (.seq
 (.seq
 (.region [69] false ([]) [
 ⟨some 67,Op.load 48 (Operand.tmp 14),none⟩,
 ⟨some 68,Op.load 48 (Operand.tmp 8),none⟩,
 ⟨some 69,Op.call {callee:=Callee.value (Operand.func 24),args:=#[Operand.tmp 67,Operand.tmp 68],argTypes:=#[48,48]},none⟩,
 ⟨some 70,Op.unOp UnOp.not 4 (Operand.tmp 69),none⟩])
 (.cond (Operand.tmp 70)
 (.seq
 (.region [] false ([]) [
 ⟨some 6,Op.assign (Operand.const (Value.bool false)),none⟩])
 .ret)
 .skip))
 (.seq
 (.region [] false ([]) [
 ⟨some 6,Op.assign (Operand.const (Value.bool true)),none⟩])
 .ret)))))))))))))))))))))
set_option maxHeartbeats 0 in
theorem lawS_y (g : Gr) (e t c : Int) (es : List Int) (hg : smallG g) (hs2 : sumG g ≤ 1048576) (ha : AnsY g e t c es) : CallsF Try.prog 4 [.agg (encG g), .val (.v (.int .i64 e)), .val (.v (.int .i64 t))] (.t (.v (.bool true))) [] := by
  refine callsF_of_wp2 (fn := Try.f4) (k := k4) (fun _ => []) mixed (by kernel_rfl) rfl (by kernel_rfl) (by kernel_rfl) (by kernel_rfl) rfl (by simp [Try.f4]) (by simp [Arg.like]) ?_
  generalize hst : St.enter [.agg (encG g), .val (.v (.int .i64 e)), .val (.v (.int .i64 t))] = st0
  have t0 : st0.tm 0 = .agg ((encG g) |>.map .t) := by rw [← hst]; rfl
  have t1 : st0.tm 1 = .t (.v (.int .i64 e)) := by rw [← hst]; rfl
  have t2 : st0.tm 2 = .t (.v (.int .i64 t)) := by rw [← hst]; rfl
  clear hst
  unfold k4
  simp [encG] at t0
  have hs : ¬ 1048576 < sumG g := by omega
  have hs3 : 0 ≤ 1048576 - sumG g := by omega
  have hs4 := hs2
  unfold sumG at hs4
  have el := ha.len
  have cS := shortS_y hs2 ha
  have cI := shortI_y hs2 ha
  have cE := eqRtY 0 c es (by omega)
  have cM := markRtY 0 c 1 es (by omega) (by omega) (by omega)
  have cH := heldRtY 0 c 1 es.length (by omega) (by omega) (by omega)
  repeat' (first
   | refine wp2_seq fun K hK => ?_
   | refine M_cons fun K hK => ?_
   | (refine hK _ ?_; clear hK K)
   | (refine hX _ ?_; clear hX hY X Y)
   | (refine hY _ ?_; clear hX hY X Y)
   | refine wp2_region ?_
   | refine wp2_cond fun X Y hX hY => ?_
   | (refine condK_of (fun c => ?_) (fun c => ?_) <;> (try simp [-List.length_eq_zero_iff] at c))
   | (refine guard1_or (fun c => ?_) (fun c => ?_) <;> (have cc := c) <;> (try simp [-List.length_eq_zero_iff] at cc) <;> (try simp (disch := omega) [t0, t1, t2, hs, encG, rvG, c]))
   | (refine callT_fl (szG g _ hg ?_ ?_) (by simp [St.args, St.arg, t0, t1, t2, hs, encG, rvG] <;> first | rfl | ((repeat' first | rfl | apply And.intro); first | done | fail)) ?_; omega; omega)
   | (refine callT_fl (toG g ?_) (by simp [St.args, St.arg, t0, t1, t2, hs, encG, rvG] <;> first | rfl | ((repeat' first | rfl | apply And.intro); first | done | fail)) ?_; omega)
   | (refine callT_gen false (cS) (by simp) (by simp [St.args, St.arg, t0, t1, t2, hs, encG, rvG] <;> first | rfl | ((repeat' first | rfl | apply And.intro); first | done | fail)) (by simp [apartArgs, mutsOf, noRow]) (by simp [callFrz, valsOf, outEff]) ?_)
   | (refine callT_fl (cI) (by simp [St.args, St.arg, t0, t1, t2, hs, encG, rvG] <;> first | rfl | ((repeat' first | rfl | apply And.intro); first | done | fail)) ?_)
   | (refine callT_fl (cE) (by simp [St.args, St.arg, t0, t1, t2, hs, encG, rvG] <;> first | rfl | ((repeat' first | rfl | apply And.intro); first | done | fail)) ?_)
   | (refine callT_fl (eqG g ?_) (by simp [St.args, St.arg, t0, t1, t2, hs, encG, rvG] <;> first | rfl | ((repeat' first | rfl | apply And.intro); first | done | fail)) ?_; omega)
   | (refine callT_sh true (sh := [some 7, none]) (markG g.edgeOf g.stateOf g.first g.to g.cost g.start g.weight _ ?_ ?_ ?_) (by simp; rfl) (by simp [St.args, St.arg, t0, t1, t2, hs, encG, rvG] <;> first | rfl | ((repeat' first | rfl | apply And.intro); first | done | fail)) (fun _ => ⟨(by first | (simp [RV.flat, RV.flats, T.flat]; done) | ((repeat' first | exact flat_intRow _ | exact flat_boolRow _ | exact flat_byteR _ | exact trivial | constructor | unfold RV.flat | unfold RV.flats); first | done | fail)), (by (repeat' first | exact flat_intRow _ | exact flat_boolRow _ | exact flat_byteR _ | exact trivial | constructor | unfold Arg.flats | unfold Arg.flat); first | done | fail)⟩) (by simp [apartArgs, mutsOf, noRow, valsOf]) (by simp) ?_; omega; omega; omega)
   | (refine callT_sh true (sh := [some 3, none]) (cM) (by simp; rfl) (by simp [St.args, St.arg, t0, t1, t2, hs, encG, rvG] <;> first | rfl | ((repeat' first | rfl | apply And.intro); first | done | fail)) (fun _ => ⟨(by first | (simp [RV.flat, RV.flats, T.flat]; done) | ((repeat' first | exact flat_intRow _ | exact flat_boolRow _ | exact flat_byteR _ | exact trivial | constructor | unfold RV.flat | unfold RV.flats); first | done | fail)), (by (repeat' first | exact flat_intRow _ | exact flat_boolRow _ | exact flat_byteR _ | exact trivial | constructor | unfold Arg.flats | unfold Arg.flat); first | done | fail)⟩) (by simp [apartArgs, mutsOf, noRow, valsOf]) (by simp) ?_)
   | (refine callT_fl (cH) (by simp [St.args, St.arg, t0, t1, t2, hs, encG, rvG] <;> first | rfl | ((repeat' first | rfl | apply And.intro); first | done | fail)) ?_)
   | simp (maxSteps := 4000000) (disch := omega) [t0, t1, t2, hs, encG, rvG])
  all_goals try (simp [t0, t1, t2, hs, encG, rvG, Back]; done)
  all_goals first | omega | skip
set_option maxHeartbeats 0 in
theorem lawS_n (g : Gr) (e t k : Int) (hg : smallG g) (hs2 : sumG g ≤ 1048576) (ha : AnsN g e t k) : CallsF Try.prog 4 [.agg (encG g), .val (.v (.int .i64 e)), .val (.v (.int .i64 t))] (.t (.v (.bool true))) [] := by
  refine callsF_of_wp2 (fn := Try.f4) (k := k4) (fun _ => []) mixed (by kernel_rfl) rfl (by kernel_rfl) (by kernel_rfl) (by kernel_rfl) rfl (by simp [Try.f4]) (by simp [Arg.like]) ?_
  generalize hst : St.enter [.agg (encG g), .val (.v (.int .i64 e)), .val (.v (.int .i64 t))] = st0
  have t0 : st0.tm 0 = .agg ((encG g) |>.map .t) := by rw [← hst]; rfl
  have t1 : st0.tm 1 = .t (.v (.int .i64 e)) := by rw [← hst]; rfl
  have t2 : st0.tm 2 = .t (.v (.int .i64 t)) := by rw [← hst]; rfl
  clear hst
  unfold k4
  simp [encG] at t0
  have hs : ¬ 1048576 < sumG g := by omega
  have hs3 : 0 ≤ 1048576 - sumG g := by omega
  have hs4 := hs2
  unfold sumG at hs4
  have cS := shortS_n hs2 ha
  have cI := shortI_n hs2 ha
  have cE := eqRtN k 0
  have cM := markRtN k 0 1
  have cH := heldRtN k 0 1 (by omega)
  repeat' (first
   | refine wp2_seq fun K hK => ?_
   | refine M_cons fun K hK => ?_
   | (refine hK _ ?_; clear hK K)
   | (refine hX _ ?_; clear hX hY X Y)
   | (refine hY _ ?_; clear hX hY X Y)
   | refine wp2_region ?_
   | refine wp2_cond fun X Y hX hY => ?_
   | (refine condK_of (fun c => ?_) (fun c => ?_) <;> (try simp [-List.length_eq_zero_iff] at c))
   | (refine guard1_or (fun c => ?_) (fun c => ?_) <;> (have cc := c) <;> (try simp [-List.length_eq_zero_iff] at cc) <;> (try simp (disch := omega) [t0, t1, t2, hs, encG, rvG, c]))
   | (refine callT_fl (szG g _ hg ?_ ?_) (by simp [St.args, St.arg, t0, t1, t2, hs, encG, rvG] <;> first | rfl | ((repeat' first | rfl | apply And.intro); first | done | fail)) ?_; omega; omega)
   | (refine callT_fl (toG g ?_) (by simp [St.args, St.arg, t0, t1, t2, hs, encG, rvG] <;> first | rfl | ((repeat' first | rfl | apply And.intro); first | done | fail)) ?_; omega)
   | (refine callT_fl (cS) (by simp [St.args, St.arg, t0, t1, t2, hs, encG, rvG] <;> first | rfl | ((repeat' first | rfl | apply And.intro); first | done | fail)) ?_)
   | (refine callT_fl (cI) (by simp [St.args, St.arg, t0, t1, t2, hs, encG, rvG] <;> first | rfl | ((repeat' first | rfl | apply And.intro); first | done | fail)) ?_)
   | (refine callT_fl (cE) (by simp [St.args, St.arg, t0, t1, t2, hs, encG, rvG] <;> first | rfl | ((repeat' first | rfl | apply And.intro); first | done | fail)) ?_)
   | (refine callT_fl (eqG g ?_) (by simp [St.args, St.arg, t0, t1, t2, hs, encG, rvG] <;> first | rfl | ((repeat' first | rfl | apply And.intro); first | done | fail)) ?_; omega)
   | (refine callT_sh true (sh := [some 7, none]) (markG g.edgeOf g.stateOf g.first g.to g.cost g.start g.weight _ ?_ ?_ ?_) (by simp; rfl) (by simp [St.args, St.arg, t0, t1, t2, hs, encG, rvG] <;> first | rfl | ((repeat' first | rfl | apply And.intro); first | done | fail)) (fun _ => ⟨(by first | (simp [RV.flat, RV.flats, T.flat]; done) | ((repeat' first | exact flat_intRow _ | exact flat_boolRow _ | exact flat_byteR _ | exact trivial | constructor | unfold RV.flat | unfold RV.flats); first | done | fail)), (by (repeat' first | exact flat_intRow _ | exact flat_boolRow _ | exact flat_byteR _ | exact trivial | constructor | unfold Arg.flats | unfold Arg.flat); first | done | fail)⟩) (by simp [apartArgs, mutsOf, noRow, valsOf]) (by simp) ?_; omega; omega; omega)
   | (refine callT_fl (cM) (by simp [St.args, St.arg, t0, t1, t2, hs, encG, rvG] <;> first | rfl | ((repeat' first | rfl | apply And.intro); first | done | fail)) ?_)
   | (refine callT_fl (cH) (by simp [St.args, St.arg, t0, t1, t2, hs, encG, rvG] <;> first | rfl | ((repeat' first | rfl | apply And.intro); first | done | fail)) ?_)
   | simp (maxSteps := 4000000) (disch := omega) [t0, t1, t2, hs, encG, rvG])
  all_goals try (simp [t0, t1, t2, hs, encG, rvG, Back]; done)
  all_goals first | omega | skip
set_option maxHeartbeats 0 in
theorem lawS_b (g : Gr) (e t : Int) (hg : smallG g) (hs : 1048576 < sumG g) : CallsF Try.prog 4 [.agg (encG g), .val (.v (.int .i64 e)), .val (.v (.int .i64 t))] (.t (.v (.bool true))) [] := by
  refine callsF_of_wp2 (fn := Try.f4) (k := k4) (fun _ => []) mixed (by kernel_rfl) rfl (by kernel_rfl) (by kernel_rfl) (by kernel_rfl) rfl (by simp [Try.f4]) (by simp [Arg.like]) ?_
  generalize hst : St.enter [.agg (encG g), .val (.v (.int .i64 e)), .val (.v (.int .i64 t))] = st0
  have t0 : st0.tm 0 = .agg ((encG g) |>.map .t) := by rw [← hst]; rfl
  have t1 : st0.tm 1 = .t (.v (.int .i64 e)) := by rw [← hst]; rfl
  have t2 : st0.tm 2 = .t (.v (.int .i64 t)) := by rw [← hst]; rfl
  clear hst
  unfold k4
  simp [encG] at t0
  repeat' (first
   | refine wp2_seq fun K hK => ?_
   | refine M_cons fun K hK => ?_
   | (refine hK _ ?_; clear hK K)
   | (refine hX _ ?_; clear hX hY X Y)
   | refine wp2_region ?_
   | refine wp2_cond fun X Y hX hY => ?_
   | (refine condK_of (fun c => ?_) (fun c => ?_) <;> (try simp [-List.length_eq_zero_iff] at c))
   | (refine callT_fl (szG g _ hg ?_ ?_) (by simp [St.args, St.arg, t0, t1, t2, hs, encG] <;> first | rfl | ((repeat' first | rfl | apply And.intro); first | done | fail)) ?_; omega; omega)
   | simp (maxSteps := 4000000) (disch := omega) [t0, t1, t2, hs, encG])
  all_goals try (simp [t0, t1, t2, hs, encG, Back]; done)
  all_goals first | omega | skip
theorem lawS (g : Gr) (e t : Int) (hg : smallG g) (_ : (Lit.int .i64 e).wf = true) (_ : (Lit.int .i64 t).wf = true) : CallsF Try.prog 4 [.agg (encG g), .val (.v (.int .i64 e)), .val (.v (.int .i64 t))] (.t (.v (.bool true))) [] := by
  by_cases hs : 1048576 < sumG g
  · exact lawS_b g e t hg hs
  · rcases ans g e t with ⟨c, es, ha⟩ | ⟨k, ha⟩
    · exact lawS_y g e t c es hg (by omega) ha
    · exact lawS_n g e t k hg (by omega) ha
end Cal
