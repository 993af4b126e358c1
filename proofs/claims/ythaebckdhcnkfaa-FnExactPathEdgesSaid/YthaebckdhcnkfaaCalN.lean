/- A calculus of our own, thirteenth part: a store. No program is named here. -/
import Derived.Test.YthaebckdhcnkfaaCalM
set_option linter.unusedSimpArgs false
set_option linter.unusedVariables false
namespace Cal
open Go Go.RowKit

variable {P : Program} {w0 w : World} {S0 S : Nat → Prop} {own : List Nat} {N : Nat} {m cap : Id → Nat} {st : St} {a : Act}

theorem run_storeAt {t : TypeId} {i : TI} (ht : tinf P t = some i) {b off : Nat} {u : Value} {arr : Array Value} {ty : TypeId} (hb : w.heap[b]? = some (.cells arr ty (0, 0))) (hs : u.cells.size = i.size) (hoff : off + i.size ≤ arr.size) (h1 : ∀ x ∈ u.cells.toList, Single x) :
    ∃ w', (Instr.storeAt t (.pointer (some ⟨b, off, none⟩)) u).run P w = .ok () w' ∧ w'.heap[b]? = some (.cells (putAll arr off u.cells.toList) ty (0, 0)) ∧ (∀ k, k ≠ b → w'.heap[k]? = w.heap[k]?) ∧
      w'.os = w.os ∧ w'.tape = w.tape ∧ w'.output = w.output ∧ w'.heap.size = w.heap.size := by
  obtain ⟨w', g1, g2⟩ := run_storeFrom (P := P) off u.cells.toList 0 w arr hb (by simp; omega) h1
  refine ⟨w', ?_, g2⟩
  unfold Instr.storeAt Instr.sureAddr storeVar
  simp only [Sem.run_bind, Sem.run_pure, Result.andThen_ok, runT_sizeOf ht, hs]
  simp [g1]

theorem noRow_tail {id : Id} {v : AV} {vs : List AV} (h : noRow id (v :: vs) = true) : noRow id vs = true := by
  unfold noRow at h
  split at h
  · cases ‹_ :: _ = []›
  · rename_i e
    cases e
    simp only [Bool.and_eq_true] at h
    exact h.2
  · rename_i e
    cases e
    exact h

theorem noRow_ne {id : Id} : ∀ {vs : List AV}, noRow id vs = true → ∀ (id' : Id) (sz i n : Nat), AV.row id' sz i n ∈ vs → id' ≠ id
  | [], _, _, _, _, _, hm => by simp at hm
  | v :: vs, h, id', sz, i, n, hm => by
    rcases List.mem_cons.1 hm with e | hm
    · subst e
      simp only [noRow, Bool.and_eq_true, bne_iff_ne, ne_eq] at h
      exact h.1
    · exact noRow_ne (noRow_tail h) id' sz i n hm

theorem frz_other {s : St} {id : Id} : ∀ {vs : List AV}, noRow id vs = true → ∀ (s1 : St), (s1.eff (s.frzEffs vs)).ob id = s1.ob id
  | [], _, s1 => rfl
  | v :: vs, h, s1 => by
    unfold St.frzEffs
    rw [eff_append]
    rw [frz_other (noRow_tail h)]
    cases v with
    | row id' sz i n =>
      have hne := noRow_ne h id' sz i n (by simp)
      cases ho : s.ob id' with
      | none => simp [St.frzEff, ho]
      | some o =>
        cases o with
        | var cs => simp [St.frzEff, ho]
        | row sz' es => simp [St.frzEff, ho, St.setOb, hne.symm]
        | frz sz' es => simp [St.frzEff, ho, St.setOb, hne.symm]
    | _ => rfl

theorem gives_store {o : Oper} {t : TypeId} {y x : Operand} (ho : o.op = .store t y x) (h : RelAt w0 S0 own N m cap S st a w) {i : TI} (ht : tinf P t = some i) {f : Eff} (hf : storeA st i.size (st.ev x) (st.ev y) = some f) :
    ∃ w' S', Gives P o a w undef w' ∧ RelAt w0 S0 own N m cap S' (st.eff f) a w' := by
  have hx := h.ev x
  have hy := h.ev y
  have gv : ∀ {w' : World}, (Instr.storeAt t (a.eval y) (a.eval x)).run P w = .ok () w' → Gives P o a w undef w' := fun hr => .inr ⟨by simp [execOp, ho, hr], rfl⟩
  unfold storeA at hf
  split at hf
  · rename_i id j k hp
    rw [hp] at hy
    unfold AVrep at hy
    obtain ⟨ad, hy1, hy2, hy3⟩ := hy
    split at hf
    · rename_i hc
      obtain ⟨hsz, hone⟩ := hc
      obtain ⟨hxr, hxs⟩ := cells_rep hx hone
      have hlen := hxr.len
      have husz : (a.eval x).cells.size = i.size := by rw [← Array.length_toList, hlen, hsz]
      split at hf
      · rename_i cs hob
        split at hf
        · rename_i hb
          obtain ⟨hj, hjk⟩ := hb
          cases hf
          have had := hy2 cs hob hj
          obtain ⟨⟨arr, ty, k1, k2⟩, k3⟩ := h.obs id _ hob
          have hal : arr.size = cs.length := by rw [← Array.length_toList]; exact k2.len
          obtain ⟨w', r1, r2, r3, r4, r5, r6, r7⟩ := run_storeAt (P := P) ht k1 husz (off := k) (by omega) hxs
          have hsame : Same S w w' := fun b hb => r3 b fun e => k3 (e ▸ hb)
          have hle : Ob.leads (some (.var cs)) (some (.var (over cs k (st.ev x).cells))) := by
            simp only [Ob.leads]; rw [over_length (by omega)]
          have ht2 : Turn (fun _ => False) m m cap cap st.ob (st.setOb id (some (.var (over cs k (st.ev x).cells)))).ob := by
            refine ⟨fun i _ => ?_, fun i _ => ⟨rfl, rfl⟩⟩
            by_cases e : i = id
            · subst e; simp only [St.setOb, if_true]; rw [hob]; exact hle
            · simp only [St.setOb, if_neg e]; exact Ob.leads_refl _
          refine ⟨w', S, gv (by rw [hy1, had]; exact r1), ?_⟩
          refine h.wrote hob k3 hle r3 r4 r5 r6 r7 ⟨⟨_, ty, r2, ?_⟩, k3⟩
          rw [AVreps_iff]
          obtain ⟨q1, q2⟩ := AVreps_iff.1 k2
          obtain ⟨p1, p2⟩ := AVreps_iff.1 hxr
          refine ⟨by rw [Array.length_toList, putAll_size, over_length (by omega), hal], fun n v u hv hu => ?_⟩
          rw [over_get (by omega)] at hv
          rw [Array.getElem?_toList, putAll_get _ _ _ _ (by omega)] at hu
          refine AVrep.keep hsame (fun _ hb => hb) ht2 _ _ (AV.free_false _) ?_
          by_cases hn : k ≤ n ∧ n < k + (st.ev x).cells.length
          · rw [if_pos hn] at hv
            rw [if_pos (by omega)] at hu
            exact p2 _ v u hv hu
          · rw [if_neg hn] at hv
            rw [if_neg (by omega)] at hu
            exact q2 n v u hv (by simpa using hu)
        · cases hf
      · rename_i sz es hob
        split at hf
        · rename_i e xs he hxs'
          split at hf
          · rename_i hb
            obtain ⟨hjk, hno⟩ := hb
            cases hf
            obtain ⟨t1, t2, t3⟩ := toTs_some hxs'
            obtain ⟨S', z1, z2, z3, z4⟩ := freeze_all h (s0 := st) (st.ev x).cells (Froze.refl _) t2
            have hob' : (st.eff (st.frzEffs (st.ev x).cells)).ob id = some (.row sz es) := by rw [frz_other hno]; exact hob
            have hlt := (List.getElem?_eq_some_iff.1 he).1
            have had := hy3 sz es (.inl hob) hlt
            obtain ⟨⟨⟨arr, ty, k1, k2⟩, k3, k4, k5⟩, k6⟩ := z1.obs id _ hob'
            have helen := (k5.get he).1
            have hmul : j * sz + sz ≤ es.length * sz := by rw [← Nat.succ_mul]; exact Nat.mul_le_mul_right _ hlt
            have hcap : es.length * sz ≤ cap id * sz := Nat.mul_le_mul_right _ k3
            obtain ⟨w', r1, r2, r3, r4, r5, r6, r7⟩ := run_storeAt (P := P) ht k1 husz (off := j * sz + k) (by omega) hxs
            have hsame : Same S' w w' := fun b hb => r3 b fun e => k6 (e ▸ hb)
            rw [eff_append]
            have hxr' : AVreps w S' m cap (st.eff (st.frzEffs (st.ev x).cells)).ob (st.ev x).cells (a.eval x).cells.toList := by
              refine AVreps.keep (p := fun _ => False) (Same.refl _ _) z2 ⟨fun i _ => ?_, fun i _ => ⟨rfl, rfl⟩⟩ _ _ (AV.frees_false _) hxr
              rcases z3.2 i with e | ⟨sz', es', e1, e2⟩
              · rw [e]; exact Ob.leads_refl _
              · rw [e2]; rcases e1 with e1 | e1 <;> rw [e1] <;> exact ⟨rfl, rfl⟩
            have hT := toTs_rep z1 z3 hxs' hxr' z4
            obtain ⟨p1, p2⟩ := Treps_iff.1 hT
            refine ⟨w', S', gv (by rw [hy1, had]; exact r1), ?_⟩
            refine z1.wrote hob' k6 ⟨rfl, by simp⟩ r3 r4 r5 r6 r7 ⟨⟨⟨_, ty, r2, by rw [putAll_size]; exact k2⟩, by simpa using k3, k4, ?_⟩, k6⟩
            rw [Ereps_iff]
            intro n e' he'
            have hnlt : n < es.length := by
              have := (List.getElem?_eq_some_iff.1 he').1
              simpa using this
            have hcell : ∀ q, w'.cell? ⟨m id, q, none⟩ = if j * sz + k ≤ q ∧ q < j * sz + k + (a.eval x).cells.toList.length then (a.eval x).cells.toList[q - (j * sz + k)]? else w.cell? ⟨m id, q, none⟩ := by
              intro q
              unfold World.cell?
              simp only [r2, k1]
              have := putAll_get (a.eval x).cells.toList arr (j * sz + k) q (by omega)
              simpa using this
            by_cases hnj : n = j
            · subst hnj
              rw [List.getElem?_set_self hlt] at he'
              cases he'
              refine ⟨by rw [overT_length (by omega)]; exact helen, ?_⟩
              rw [Creps_iff]
              intro q y hy'
              rw [overT_get (by omega)] at hy'
              by_cases hq : k ≤ q ∧ q < k + xs.length
              · rw [if_pos hq] at hy'
                have hu : ((a.eval x).cells.toList)[q - k]? = some ((a.eval x).cells.toList[q - k]'(by omega)) := List.getElem?_eq_getElem _
                refine ⟨_, ?_, Trep.keep hsame (fun _ hb => hb) _ _ (p2 (q - k) y _ hy' hu)⟩
                rw [hcell, if_pos (by omega), show 0 + n * sz + q - (n * sz + k) = q - k by omega]
                exact hu
              · rw [if_neg hq] at hy'
                obtain ⟨u, g1, g2⟩ := (k5.get he).2.get hy'
                refine ⟨u, ?_, Trep.keep hsame (fun _ hb => hb) _ _ g2⟩
                rw [hcell, if_neg (by omega)]
                exact g1
            · rw [List.getElem?_set_ne (fun e => hnj e.symm)] at he'
              obtain ⟨q1, q2⟩ := k5.get he'
              refine ⟨q1, ?_⟩
              rw [Creps_iff]
              intro q y hy'
              obtain ⟨u, g1, g2⟩ := q2.get hy'
              have hq : q < sz := by have := (List.getElem?_eq_some_iff.1 hy').1; omega
              refine ⟨u, ?_, Trep.keep hsame (fun _ hb => hb) _ _ g2⟩
              rw [hcell, if_neg ?_]
              · exact g1
              · rcases Nat.lt_or_gt_of_ne hnj with hlt' | hlt'
                · have : n * sz + sz ≤ j * sz := by rw [← Nat.succ_mul]; exact Nat.mul_le_mul_right _ hlt'
                  omega
                · have : j * sz + sz ≤ n * sz := by rw [← Nat.succ_mul]; exact Nat.mul_le_mul_right _ hlt'
                  omega
          · cases hf
        · cases hf
      · cases hf
    · cases hf
  · cases hf

end Cal
