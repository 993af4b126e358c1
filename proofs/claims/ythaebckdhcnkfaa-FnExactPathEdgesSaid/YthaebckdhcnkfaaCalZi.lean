/- A calculus of our own, thirty-fourth part: functions that are handed structs of rows to be written. No program is named here. -/
import Derived.Test.YthaebckdhcnkfaaCalZh
set_option linter.unusedSimpArgs false
set_option linter.unusedVariables false
namespace Cal
open Go Go.RowKit

variable {P : Program} {w0 w : World} {S0 S : Nat → Prop} {own : List Nat} {N : Nat} {m cap : Id → Nat} {st : St} {a : Act}

theorem flatU_len : ∀ {sh : Shape} {us usF : List Value}, flatU sh us = some usF → us.length = sh.length
  | [], [], _, _ => rfl
  | [], _ :: _, _, h => by simp [flatU] at h
  | none :: _, [], _, h => by simp [flatU] at h
  | some _ :: _, [], _, h => by simp [flatU] at h
  | none :: sh, u :: us, usF, h => by
    simp only [flatU] at h
    cases hl : flatU sh us with
    | none => rw [hl] at h; cases h
    | some l => simp [flatU_len hl]
  | some n :: sh, u :: us, usF, h => by
    cases u with
    | agg cs =>
      simp only [flatU] at h
      split at h
      · cases hl : flatU sh us with
        | none => rw [hl] at h; cases h
        | some l => simp [flatU_len hl]
      · cases h
    | _ => simp [flatU] at h

theorem enterTm_rep {ob : Id → Option Ob} {as : List Arg} : ∀ {sh : Shape} {us usF : List Value} {k : Nat}, flatU sh us = some usF → (∀ j u, usF[j]? = some u → AVrep w S m cap ob (argTm as (k + j)) u) → ∀ t u, us[t]? = some u → AVrep w S m cap ob (enterTm as sh k t) u
  | [], [], _, _, _, _, t, u, h => by simp at h
  | [], _ :: _, _, _, h, _, _, _, _ => by simp [flatU] at h
  | none :: _, [], _, _, h, _, _, _, _ => by simp [flatU] at h
  | some _ :: _, [], _, _, h, _, _, _, _ => by simp [flatU] at h
  | none :: sh, u0 :: us, usF, k, h, hr, t, u, hu => by
    simp only [flatU] at h
    cases hl : flatU sh us with
    | none => rw [hl] at h; cases h
    | some l =>
      rw [hl] at h
      simp only [Option.map_some, Option.some.injEq] at h
      subst h
      cases t with
      | zero =>
        simp at hu
        subst hu
        exact hr 0 u0 rfl
      | succ t =>
        simp only [enterTm]
        exact enterTm_rep hl (fun j u' hj => by have := hr (j + 1) u' (by simpa using hj); rw [show k + 1 + j = k + (j + 1) by omega]; exact this) t u (by simpa using hu)
  | some n :: sh, u0 :: us, usF, k, h, hr, t, u, hu => by
    cases u0 with
    | agg cs =>
      simp only [flatU] at h
      split at h
      · rename_i hn
        cases hl : flatU sh us with
        | none => rw [hl] at h; cases h
        | some l =>
          rw [hl] at h
          simp only [Option.map_some, Option.some.injEq] at h
          subst h
          cases t with
          | zero =>
            simp at hu
            subst hu
            simp only [enterTm]
            unfold AVrep
            refine ⟨cs.toList, by simp, ?_⟩
            rw [AVreps_iff]
            refine ⟨by simp [hn], fun j v x hj hx => ?_⟩
            rw [List.getElem?_map] at hj
            have hxl := (List.getElem?_eq_some_iff.1 hx).1
            rw [List.getElem?_range (by simpa [hn] using hxl)] at hj
            simp at hj
            subst hj
            refine hr j x ?_
            rw [List.getElem?_append_left hxl]
            exact hx
          | succ t =>
            simp only [enterTm]
            refine enterTm_rep hl (fun j u' hj => ?_) t u (by simpa using hu)
            have := hr (n + j) u' (by
              rw [List.getElem?_append_right (by simp [hn])]
              simpa [hn] using hj)
            rw [show k + n + j = k + (n + j) by omega]
            exact this
      · cases h
    | _ => simp [flatU] at h

theorem enterTm_bad (as : List Arg) : ∀ {sh : Shape} {k t : Nat}, sh.length ≤ t → enterTm as sh k t = .bad
  | [], _, _, _ => rfl
  | none :: sh, k, 0, h => by simp at h
  | some _ :: sh, k, 0, h => by simp at h
  | none :: sh, k, t + 1, h => by
    simp only [enterTm]
    exact enterTm_bad as (by simpa using h)
  | some n :: sh, k, t + 1, h => by
    simp only [enterTm]
    exact enterTm_bad as (by simpa using h)

theorem enter_relS {sh : Shape} {as : List Arg} {us usF : List Value} {ab : List (Nat × Nat)} (hS : ∀ b, S b → b < w.heap.size) (hfl : flatU sh us = some usF) (h : ArgsRep w S as usF ab) (hn : (ab.map (·.1)).Nodup) (hlt : ∀ b ∈ ab.map (·.1), b < w.heap.size) (hN : sh.length ≤ N) :
    ∃ g, homes g 0 as = ab ∧ Rel w S (ab.map (·.1)) g N (St.enterS sh as) { tmps := us.toArray ++ Array.replicate (N - us.toArray.size) undef, defers := [] } w := by
  obtain ⟨g, hg, m, cap, S', hr, hH⟩ := enter_rel (N := as.length) hS h hn hlt (Nat.le_refl _)
  obtain ⟨_, g1, _, _⟩ := argsRep_at h
  have hul := flatU_len hfl
  have key := enterTm_rep (w := w) (S := S') (m := m) (cap := cap) (ob := (St.enter as).ob) (as := as) (k := 0) hfl (fun j u hj => by
    have hjl := (List.getElem?_eq_some_iff.1 hj).1
    have := hr.tm j (by omega)
    have hget : (usF.toArray ++ Array.replicate (as.length - usF.toArray.size) undef).getD j undef = u := by
      rw [Array.getD_eq_getD_getElem?, Array.getElem?_append_left (by simpa using hjl)]
      simp [hj]
    rw [hget] at this
    rw [Nat.zero_add]
    exact this)
  refine ⟨g, hg, m, cap, S', ⟨by simp; omega, rfl, hr.after, hr.stab, hr.base, hr.fresh, hr.obs, hr.mine, hr.inj, fun t ht => ?_, fun t ht => ?_⟩, hH⟩
  · show AVrep w S' m cap (St.enter as).ob (enterTm as sh 0 t) _
    by_cases htu : t < us.length
    · have hget : (us.toArray ++ Array.replicate (N - us.toArray.size) undef).getD t undef = us[t] := by
        rw [Array.getD_eq_getD_getElem?, Array.getElem?_append_left (by simpa using htu)]
        simp [htu]
      rw [hget]
      exact key t _ (List.getElem?_eq_getElem htu)
    · rw [enterTm_bad as (by omega)]
      unfold AVrep; trivial
  · show enterTm as sh 0 t = .bad
    exact enterTm_bad as (by omega)

/-- A contract of a function that is handed structs of rows. -/
theorem callsFS_of_wp2 {f : FuncId} {fn : Func} {c : Code} {k : Code1} (lo : Nat → List Nat) (hm : P.follows .mixedOrders = true) (hf : P.funcs[f]? = some fn) (hb : fn.body = some c) (hname : (fn.name == "runtime.NumGoroutine") = false) (hok : (decide (fn.ntmps ≤ base) && okCode fn.ntmps lo c) = true) (hc : comp lo c = some k) {rs : List ResultVar} (hrs : fn.results.toList = rs)
    {sh : Shape} {as : List Arg} {res : RV} {outs : List (Option Arg)} (hlen : sh.length ≤ fn.ntmps) (hlike : Arg.like as outs) (hwp : wp2 P k (Fin (Back P rs as res outs)) (St.enterS sh as)) : CallsFS P f sh as res outs := by
  subst hrs
  simp only [Bool.and_eq_true, decide_eq_true_eq] at hok
  refine ⟨⟨fn, hf, hname, by rw [hb]; rfl⟩, hlike, fun w S us usF ab hS hfl harg hn hlt => ?_⟩
  obtain ⟨g, rfl, hr⟩ := enter_relS hS hfl harg hn hlt hlen
  refine calls_of_wp hf hb (wp_mono (code2_sound hm hok.1 lo c hc hok.2 hr hwp) fun e a' w' he => ?_)
  cases e with
  | normal =>
    obtain ⟨st, h1, h2⟩ := he
    exact back_post h1 h2
  | ret =>
    obtain ⟨st, h1, h2⟩ := he
    exact back_post h1 h2
  | exit i =>
    obtain ⟨st, h1, h2⟩ := he
    exact h2.elim
  | goto l => exact he.elim
  | panic c => exact he.elim
  | outgrown => exact he.elim

end Cal
