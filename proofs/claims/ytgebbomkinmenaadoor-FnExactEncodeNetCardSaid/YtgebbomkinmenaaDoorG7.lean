/- A part of the proof: a calculus of our own over the model's code, and contracts of the program's functions. -/
import Derived.Shelf.Strconv.AppendIntPublic10
import Derived.Test.YtgebbomkinmenaaDoorG6
/- strconv.AppendInt to base ten, as the kit's shelf has it, with what a caller of ours needs beside: every block but the row's own stands, and the row that comes back is the old one or new. Turned from the kit's worked contracts of the same functions. -/
set_option linter.unusedSimpArgs false
set_option linter.unusedVariables false
namespace Go.Proofs
open Go.Shelf Go.RowKit Go.Sort Go.Lib

/-- What comes back is the old row or a new one. -/
def OwnAt (w : World) (v v' : Value) : Prop := ∀ k, v'.ownBlock = some k → some k = v.ownBlock ∨ w.heap.size ≤ k

/-- A row of bytes (whatever its cells' type), that the call owns. -/
def OwnsB (w : World) (v : Value) (n : Nat) (xs : List Value) : Prop :=
  xs.length = n ∧ ∃ g cap cur ty, v = .slice (some ⟨g, 0, none⟩) n cap ∧ w.heap[g]? = some (.cells cur ty (0, 0)) ∧ n ≤ cap ∧ cap ≤ maxLen ∧ cur.size = cap ∧ cur.toList.take n = xs
theorem OwnsB.kept {w w' : World} {v : Value} {n : Nat} {xs : List Value} (h : OwnsB w v n xs) (hk : ∀ k, v.ownBlock = some k → w'.heap[k]? = w.heap[k]?) : OwnsB w' v n xs := by
  obtain ⟨h1, g, cap, cur, ty, rfl, h2, h3⟩ := h
  exact ⟨h1, g, cap, cur, ty, rfl, (hk g rfl).trans h2, h3⟩
theorem OwnsB.lt {w : World} {v : Value} {n : Nat} {xs : List Value} (h : OwnsB w v n xs) : ∀ k, v.ownBlock = some k → k < w.heap.size := by
  obtain ⟨h1, g, cap, cur, ty, rfl, h2, h3⟩ := h
  intro k hk
  simp [Value.ownBlock] at hk
  subst hk
  exact (Array.getElem?_eq_some_iff.1 h2).1
theorem OwnsB.alloc {w : World} {v : Value} {n : Nat} {xs : List Value} (h : OwnsB w v n xs) (o : Obj) : OwnsB (w.alloc o) v n xs := h.kept fun k hk => Below.heap_alloc w o k (h.lt k hk)

section
variable {P : Program} (w : World)

/-- What the run of an append gives, the cells in hand. -/
theorem own_append {args : Array Value → Array Value} (ts : Array TypeId) (t ty e : TypeId) (i : TypeInfo) (z : Value) (hz : z.cells.size = 1)
    (y : Value) (v : Value) (n : Nat) (xs : List Value) (hown : OwnsB w v n xs) (m : Nat) (news : List Value) (hl : news.length = m) (hs : ∀ u ∈ news, Cal.Single u) (h63 : n + m ≤ maxLen)
    (room : ∀ g c cur tt, v = .slice (some ⟨g, 0, none⟩) n c → w.heap[g]? = some (.cells cur tt (0, 0)) → n + m ≤ c → c ≤ cur.size → ∃ w', (Builtin.append_ ts ty #[v, y]).run P w = .ok (.slice (some ⟨g, 0, none⟩) (n + m) c) w' ∧ w'.heap[g]? = some (.cells (Cal.putAll cur n news) tt (0, 0)) ∧ (∀ j, j ≠ g → w'.heap[j]? = w.heap[j]?) ∧ w'.os = w.os ∧ w'.tape = w.tape ∧ w'.output = w.output ∧ w'.heap.size = w.heap.size)
    (grow : ∀ g c, v = .slice (some ⟨g, 0, none⟩) n c → c < n + m → (∀ j u, xs[j]? = some u → w.cell? ((⟨g, 0, none⟩ : Addr).add j) = some u) → (Builtin.append_ ts ty #[v, y]).run P w = .ok (.slice (some ⟨w.heap.size, 0, none⟩) (n + m) (grownCap w (n + m) c e)) (w.drew.alloc (.cells (xs.toArray ++ news.toArray ++ Builtin.zeroCells z.cells (grownCap w (n + m) c e - (n + m))) e))) :
    ∃ v' w', (Builtin.append_ ts ty #[v, y]).run P w = .ok v' w' ∧ OwnsB w' v' (n + m) (xs ++ news) ∧ w.grownBy w' v.ownBlock ∧ OwnAt w v v' := by
  obtain ⟨h1, g, cap, cur, tt, hv, h2, h3, h4, h5, h6⟩ := hown
  have hlen : (xs ++ news).length = n + m := by rw [List.length_append, h1, hl]
  by_cases hroom : n + m ≤ cap
  · obtain ⟨w', r1, r2, r3, r4, r5, r6, r7⟩ := room g cap cur tt hv h2 hroom (by omega)
    refine ⟨_, w', r1, ⟨hlen, g, cap, _, tt, rfl, r2, hroom, h4, by rw [Cal.putAll_size]; exact h5, ?_⟩, ⟨r4, r5, r6, by omega, fun k hk hne => r3 k fun e => hne (by rw [hv, e]; rfl)⟩, fun k hk => .inl (by rw [hv]; exact hk.symm)⟩
    apply List.ext_getElem?
    intro j
    rw [List.getElem?_take]
    by_cases hj : j < n + m
    · rw [if_pos hj, Array.getElem?_toList, Cal.putAll_get _ _ _ _ (by omega)]
      by_cases hjn : j < n
      · rw [if_neg (by omega), List.getElem?_append_left (by omega), ← h6, List.getElem?_take, if_pos hjn, Array.getElem?_toList]
      · rw [if_pos (by omega), List.getElem?_append_right (by omega), h1]
    · rw [if_neg hj, List.getElem?_eq_none (by omega)]
  · have holds : ∀ j u, xs[j]? = some u → w.cell? ((⟨g, 0, none⟩ : Addr).add j) = some u := by
      intro j u hu
      rw [Cal.add_none, Nat.zero_add]
      unfold World.cell?
      simp only [h2]
      rw [← h6, List.getElem?_take] at hu
      split at hu
      · simpa using hu
      · cases hu
    have hr := grow g cap hv (by omega) holds
    have hge := grownCap_ge w (n + m) cap e
    have hcm : grownCap w (n + m) cap e ≤ maxLen := grownCap_le_maxLen w (n + m) cap e h63
    refine ⟨_, _, hr, ⟨hlen, w.heap.size, _, _, e, rfl, heap_alloc_new w.drew _, hge, hcm, ?_, ?_⟩, ⟨rfl, rfl, rfl, by simp, fun k hk _ => heap_alloc_old w.drew _ hk⟩, fun k hk => ?_⟩
    · simp only [Array.size_append, List.size_toArray, size_zeroCells, hz, h1, hl]
      omega
    · simp only [Array.toList_append, List.append_assoc]
      rw [← List.append_assoc, ← hlen]
      exact List.take_left
    · simp [Value.ownBlock] at hk
      exact .inr (by omega)

theorem wpList_append_own2 {ops : Array Oper} {rest : List Oper} {o : Oper} {a : Act} {Q : Exit → Act → World → Prop} (hgd : o.guard = none) (s x : Operand) (t : TypeId)
    (ho : o.op = .call { callee := .builtin .append, args := #[s, x], argTypes := #[t, t] })
    (e : TypeId) (i : TypeInfo) (z : Value) (ht : P.underlying t = some (.slice e)) (hi : P.info? e = some i) (hz : i.zero = some z)
    (hsize : i.size = 1) (hby : i.bytes = 1) (hzs : z.cells.size = 1)
    (v : Value) (n : Nat) (xs : List Value) (hs : a.eval s = v) (hown : OwnsB w v n xs)
    (b off m c : Nat) (news : List Value) (hx : a.eval x = .slice (some ⟨b, off, none⟩) m c) (hl : news.length = m) (hnews : Cal.Holds w b off news) (h1 : ∀ u ∈ news, Cal.Single u)
    (h63 : n + m ≤ maxLen) (hbytes : n + m ≤ 140737488355328)
    (h : ∀ v' w', OwnsB w' v' (n + m) (xs ++ news) → w.grownBy w' v.ownBlock → OwnAt w v v' → wpList P ops Q rest (a.put o.dst v') w') : wpList P ops Q (o :: rest) a w := by
  refine wpList_plain hgd fun K hK => ?_
  obtain ⟨v', w', hr, h2, h3, h4⟩ := own_append (P := P) (args := id) w #[t, t] t o.type e i z hzs (.slice (some ⟨b, off, none⟩) m c) v n xs hown m news hl h1 h63 (by
    rintro g cp cur tt rfl hg hroom hc
    obtain ⟨w', g1, g2⟩ := Cal.run_storeFrom (P := P) n news 0 w cur hg (by omega) h1
    refine ⟨w', ?_, by simpa using g2⟩
    have hfirst : (Builtin.firstCells 1 m (.slice (some ⟨b, off, none⟩) m c)).run P w = .ok news.toArray w := by
      have := Cal.run_loadFrom (P := P) b off news 0 #[] (by simpa using hnews)
      rw [hl] at this
      simpa [Builtin.firstCells, loadCells] using this
    simp [Builtin.append_, run_underlying ht, Go.sizeOf, typeInfo, hi, hsize, Builtin.lenOf, hroom, hfirst, Cal.add_none, g1]) (by
    rintro g cp rfl hc holds
    exact run_append_grow (P := P) w t o.type e i z ht hi hz ⟨g, 0, none⟩ n cp xs (by rw [hsize, hown.1, Nat.mul_one]) holds ⟨b, off, none⟩ m c news (by rw [hsize, hl, Nat.mul_one]) (fun j u hj => by rw [Cal.add_none]; exact hnews j u hj) hc (by unfold maxLen at h63; omega) (by rw [hby]; exact growslice_fits hc (by omega)))
  unfold Oper.wp execOp
  simp only [ho, resolve, invoke, builtin, Sem.run_bind, Sem.run_pure, Result.andThen_ok, List.map_toArray, List.map_cons, List.map_nil, hs, hx, hr]
  exact hK _ _ (h v' w' h2 h3 h4)

theorem wpList_append_own_string2 {ops : Array Oper} {rest : List Oper} {o : Oper} {a : Act} {Q : Exit → Act → World → Prop} (hgd : o.guard = none) (sl x : Operand) (t u : TypeId)
    (ho : o.op = .call { callee := .builtin .append, args := #[sl, x], argTypes := #[t, u] })
    (e : TypeId) (i : TypeInfo) (ht : P.underlying t = some (.slice e)) (hu : P.underlying u = some .string) (hi : P.info? e = some i) (hz : i.zero = some (.int .u8 0))
    (hsize : i.size = 1) (hby : i.bytes = 1)
    (v : Value) (n : Nat) (xs : List Value) (hs : a.eval sl = v) (hown : OwnsB w v n xs) (s : ByteArray) (hx : a.eval x = .string s)
    (h63 : n + s.size ≤ maxLen) (hbytes : n + s.size ≤ 140737488355328)
    (h : ∀ v' w', OwnsB w' v' (n + s.size) (xs ++ strCells s) → w.grownBy w' v.ownBlock → OwnAt w v v' → wpList P ops Q rest (a.put o.dst v') w') : wpList P ops Q (o :: rest) a w := by
  refine wpList_plain hgd fun K hK => ?_
  obtain ⟨v', w', hr, h2, h3, h4⟩ := own_append (P := P) (args := id) w #[t, u] t o.type e i (.int .u8 0) rfl (.string s) v n xs hown s.size (strCells s) (strCells_length s) (Cal.strCells_single s) h63 (by
    rintro g cp cur tt rfl hg hroom hc
    obtain ⟨w', g1, g2⟩ := Cal.run_storeFrom (P := P) n (strCells s) 0 w cur hg (by rw [strCells_length]; omega) (Cal.strCells_single s)
    refine ⟨w', ?_, by simpa using g2⟩
    have hf := run_firstCells_string (P := P) w 1 s
    simp [Builtin.append_, run_underlying ht, run_underlying hu, Go.sizeOf, typeInfo, hi, hsize, Builtin.lenOf, hroom, hf, Cal.add_none, g1]) (by
    rintro g cp rfl hc holds
    exact run_append_grow_string (P := P) w t u o.type e i (.int .u8 0) ht hu hi hz ⟨g, 0, none⟩ n cp xs (by rw [hsize, hown.1, Nat.mul_one]) holds s hc (by unfold maxLen at h63; omega) (by rw [hby]; exact growslice_fits hc (by omega)))
  unfold Oper.wp execOp
  simp only [ho, resolve, invoke, builtin, Sem.run_bind, Sem.run_pure, Result.andThen_ok, List.map_toArray, List.map_cons, List.map_nil, hs, hx, hr]
  exact hK _ _ (h v' w' h2 h3 h4)
end

theorem grown_trans {a b c : World} {v v' : Value} (h : a.grownBy b v.ownBlock) (k : b.grownBy c v'.ownBlock) (ho : OwnAt a v v') : a.grownBy c v.ownBlock :=
  ⟨k.os.trans h.os, k.tape.trans h.tape, k.output.trans h.output, Nat.le_trans h.size k.size, fun i hi hne => (k.block i (Nat.lt_of_lt_of_le hi h.size) (fun e => by
    rcases ho i e.symm with h1 | h1
    · exact hne h1
    · omega)).trans (h.block i hi hne)⟩
theorem OwnAt.trans {a b : World} {v v' v'' : Value} (h : OwnAt a v v') (hs : a.heap.size ≤ b.heap.size) (k : OwnAt b v' v'') : OwnAt a v v'' := fun i hi => by
  rcases k i hi with h1 | h1
  · exact h i h1.symm
  · exact .inr (Nat.le_trans hs h1)
theorem grown_alloc (w : World) (o : Obj) {b : World} {v : Value} (h : (w.alloc o).grownBy b v.ownBlock) : w.grownBy b v.ownBlock :=
  ⟨h.os, h.tape, h.output, Nat.le_trans (by simp) h.size, fun k hk hne => (h.block k (Nat.lt_of_lt_of_le hk (by simp)) hne).trans (Below.heap_alloc w o k hk)⟩
/-- The table reads so, whatever is done to the row. -/
def TabAside (P : Program) (row : Option Nat) (w : World) (name : String) (k : IntKind) (zs : List Int) : Prop := ∀ w', w.grownBy w' row → TabIs P w' name k zs
theorem TabAside.here {P : Program} {row : Option Nat} {w : World} {name : String} {k : IntKind} {zs : List Int} (h : TabAside P row w name k zs) : TabIs P w name k zs := h w ⟨rfl, rfl, rfl, Nat.le_refl _, fun _ _ _ => rfl⟩

variable {P : Program} {ρ : Ren}
set_option maxHeartbeats 6400000 in
set_option maxRecDepth 100000 in
theorem Any.appendUint_small (L : LaysM.n288 P ρ) (n u : Nat) (hu : u < 100) (sv : Value) (xs : List Value) (w : World) (hown : OwnsB w sv n xs) (hlim : n + 20 ≤ 140737488355328) :
    Calls P (ρ.f 288) #[sv, .int .u64 u, .int .i64 10] w fun e w' => ∃ v', e = .returned v' ∧ OwnsB w' v' (n + (Lib.decDigits u).length) (xs ++ Lib.byteCells (Lib.decDigits u)) ∧ w.grownBy w' sv.ownBlock ∧ OwnAt w sv v' := by
  have mixed := L.mixed
  have t5 := L.t5; have a5 := L.a5; have z5 := L.z5; have v5 := L.v5
  have t37 := L.t37; have u37 := run_underlying L.t37; have a37 := L.a37; have z37 := L.z37; have v37 := L.v37
  have t53 := L.t53; have a53 := L.a53; have z53 := L.z53; have v53 := L.v53
  have t3 := L.t3; have a3 := L.a3; have z3 := L.z3; have v3 := L.v3
  have t4 := L.t4; have a4 := L.a4; have z4 := L.z4; have v4 := L.v4
  have t9 := L.t9; have a9 := L.a9; have z9 := L.z9; have v9 := L.v9
  have t171 := L.t171; have a171 := L.a171; have z171 := L.z171; have v171 := L.v171
  have t0 := L.t0; have a0 := L.a0; have z0 := L.z0; have v0 := L.v0
  have t173 := L.t173; have a173 := L.a173; have z173 := L.z173; have v173 := L.v173
  have e283 : ∀ args w, (callFunc (ρ.f 283) args).run P w = .ok (.enter (ρ.f 283) args) w := enters_of L.f283 (by kernel_rfl) rfl
  obtain ⟨i0, hi, hz0, hz1, hz2⟩ := info_parts L.i5
  have hlen : (Lib.decDigits u).length ≤ 20 := by
    rw [Lib.decDigits_length]
    by_cases h10 : u < 10
    · rw [Lib.nDigits_small h10]; omega
    · rw [Lib.nDigits_big h10, Lib.nDigits_small (show u / 10 < 10 by omega)]; omega
  have hsz : (⟨(Lib.decDigits u).toArray⟩ : ByteArray).size = (Lib.decDigits u).length := by simp [ByteArray.size]
  go_enter L.f288, Body.n288_ntmps ρ
  go_wp2_with (first
    | (go_at_fn (ρ.f 283); refine (Any.internal_strconv_small { L with } u hu _).mono ?_; rintro e w' ⟨rfl, rfl⟩)
    | (at_builtin; refine wpList_append_own_string2 _ rfl _ _ (ρ.t 37) (ρ.t 9) rfl (ρ.t 5) i0 L.t37 L.t9 hi hz0 hz1 hz2 _ _ _ rfl hown ⟨(Lib.decDigits u).toArray⟩ rfl (by rw [hsz]; unfold maxLen; omega) (by rw [hsz]; omega) ?_))
  intro v' w1 hown' hgrow hat
  go_wp2
  go_ret
  refine ⟨v', rfl, ?_, hgrow, hat⟩
  first | exact hown' | (rw [hsz] at hown'; exact hown')

set_option maxHeartbeats 12800000 in
set_option maxRecDepth 100000 in
theorem Any.appendUint_big (L : LaysM.n288 P ρ) (n u : Nat) (hu : 100 ≤ u) (hu64 : u < 18446744073709551616) (sv : Value) (xs : List Value) (w : World) (hown : OwnsB w sv n xs) (hlim : n + 20 ≤ 140737488355328)
    (htab : Lib.TabIs P w "internal/strconv.uint64pow10" .u64 Lib.pow10Tab) :
    Calls P (ρ.f 288) #[sv, .int .u64 u, .int .i64 10] w fun e w' => ∃ v', e = .returned v' ∧ OwnsB w' v' (n + (Lib.decDigits u).length) (xs ++ Lib.byteCells (Lib.decDigits u)) ∧ w.grownBy w' sv.ownBlock ∧ OwnAt w sv v' := by
  have mixed := L.mixed
  have t5 := L.t5; have a5 := L.a5; have z5 := L.z5; have v5 := L.v5
  have t37 := L.t37; have u37 := run_underlying L.t37; have a37 := L.a37; have z37 := L.z37; have v37 := L.v37
  have t53 := L.t53; have a53 := L.a53; have z53 := L.z53; have v53 := L.v53
  have t3 := L.t3; have a3 := L.a3; have z3 := L.z3; have v3 := L.v3
  have t4 := L.t4; have a4 := L.a4; have z4 := L.z4; have v4 := L.v4
  have t9 := L.t9; have a9 := L.a9; have z9 := L.z9; have v9 := L.v9
  have t171 := L.t171; have a171 := L.a171; have z171 := L.z171; have v171 := L.v171
  have t0 := L.t0; have a0 := L.a0; have z0 := L.z0; have v0 := L.v0
  have t173 := L.t173; have a173 := L.a173; have z173 := L.z173; have v173 := L.v173
  have e284 : ∀ args w, (callFunc (ρ.f 284) args).run P w = .ok (.enter (ρ.f 284) args) w := enters_of L.f284 (by kernel_rfl) rfl
  have e285 : ∀ args w, (callFunc (ρ.f 285) args).run P w = .ok (.enter (ρ.f 285) args) w := enters_of L.f285 (by kernel_rfl) rfl
  obtain ⟨i0, hi, hz0, hz1, hz2⟩ := info_parts L.i5
  have hu1 : 1 ≤ u := by omega
  have hnd20 : Lib.nDigits u ≤ 20 := by have := Lib.numDigits_eq u hu1 hu64; split at this <;> omega
  have hal : P.arrayLen (ρ.t 171) = 24 := by simp [Program.arrayLen, L.t171]
  have hsl : ∀ W, (Instr.sliceAt (ρ.t 171) (.pointer (some ⟨w.heap.size, 0, none⟩)) none (some (.int .i64 (Lib.nDigits u : Int))) none).run P W = .ok (.slice (some ⟨w.heap.size, 0, none⟩) (Lib.nDigits u) 24) W := fun W => by
    rw [run_sliceAt_array_h W (ρ.t 171) ⟨w.heap.size, 0, none⟩ (by simp [Program.arrayLen, Program.elem, L.t171]) .i64 (Lib.nDigits u : Int) (by omega) (by rw [hal]; omega)]
    go_simp
  have hH0 := Lib.holds_zero0 w (ρ.t 171) (Lib.nDigits u) (by omega)
  have hfmt := Any.internal_strconv_formatBase10 { L with } w.heap.size 0 24 u (Array.replicate (Lib.nDigits u) 0) (w.alloc (.cells Lib.zeros24 (ρ.t 171))) hH0 (by rw [Array.size_replicate]; exact Lib.lt_pow_nDigits u) hu64 (by rw [Array.size_replicate]; omega)
  rw [Array.size_replicate] at hfmt
  have HH0 := Lib.hid hH0
  have iu : (100 : Int) ≤ (u : Int) := by omega
  clear hH0 hal
  go_enter L.f288, Body.n288_ntmps ρ
  go_wp2_with (first
    | (go_at_fn (ρ.f 284); refine (Any.internal_strconv_numDigits { L with } u hu1 hu64 _ (Lib.tabIs_alloc htab _)).mono ?_; rintro e w' ⟨rfl, rfl⟩))
  go_at_fn (ρ.f 285)
  refine hfmt.mono ?_
  rintro e w' ⟨rfl, k, v', dk, rfl, hF⟩
  have hcells : ∀ j u', (Lib.byteCells (Lib.decDigits u))[j]? = some u' → ((putRow (fun (b : UInt8) => Value.int .u8 (b.toNat : Int)) (w.alloc (.cells Lib.zeros24 (ρ.t 171))) w.heap.size 0 dk).drewN k).cell? ⟨w.heap.size, 0 + j, none⟩ = some u' := by
    intro j u' hj
    have hjl : j < (Lib.decDigits u).length := by
      have h5 := (List.getElem?_eq_some_iff.1 hj).1
      rwa [Lib.byteCells_length] at h5
    have e5 : (Lib.byteCells (Lib.decDigits u))[j]? = some (Value.int .u8 ((Lib.decDigits u)[j].toNat : Int)) := by simp [Lib.byteCells, hjl]
    rw [e5] at hj
    cases hj
    rw [Lib.row_is_numeral hF j hjl, World.cell?_drewN]
    exact cell?_putRow (fun (b : UInt8) => Value.int .u8 (b.toNat : Int)) _ w.heap.size 0 _ dk HH0.out (by rw [hF.size, Array.size_replicate]) j (by rw [hF.size]; rw [Lib.decDigits_length] at hjl; exact hjl)
  obtain ⟨os, eo⟩ := Lib.fin_at w (.cells Lib.zeros24 (ρ.t 171)) dk k 0
  have hown2 : OwnsB ((putRow (fun (b : UInt8) => Value.int .u8 (b.toNat : Int)) (w.alloc (.cells Lib.zeros24 (ρ.t 171))) w.heap.size 0 dk).drewN k) sv n xs := by rw [eo]; exact hown.kept fun q hq => Lib.heap_grow_old w k os q (hown.lt q hq)
  have hnx2 : Below w.heap.size w ((putRow (fun (b : UInt8) => Value.int .u8 (b.toNat : Int)) (w.alloc (.cells Lib.zeros24 (ρ.t 171))) w.heap.size 0 dk).drewN k) := by rw [eo]; exact Lib.below_grow w.heap.size w (Nat.le_refl _) k os
  generalize (putRow (fun (b : UInt8) => Value.int .u8 (b.toNat : Int)) (w.alloc (.cells Lib.zeros24 (ρ.t 171))) w.heap.size 0 dk).drewN k = W2 at hcells hown2 hnx2 ⊢
  clear eo HH0 hfmt
  go_wp2_with (at_builtin; refine wpList_append_own2 _ rfl _ _ (ρ.t 37) rfl (ρ.t 5) i0 (.int .u8 0) L.t37 hi hz0 hz1 hz2 rfl _ _ _ rfl hown2 w.heap.size 0 (Lib.nDigits u) 24 (Lib.byteCells (Lib.decDigits u)) rfl ?c0 hcells ?c2 ?c3 ?c4 ?_)
  case c0 => rw [Lib.byteCells_length, Lib.decDigits_length]
  case c2 => intro u' hu'; simp only [Lib.byteCells, List.mem_map] at hu'; obtain ⟨b, _, rfl⟩ := hu'; exact ⟨(fun _ h => nomatch h), (fun _ h => nomatch h)⟩
  case c3 => unfold maxLen; omega
  case c4 => omega
  intro v2 w3 hown' hgrow hat
  go_wp2
  go_ret
  refine ⟨v2, rfl, ?_, ?_, ?_⟩
  · rw [Lib.decDigits_length]
    exact hown'
  · exact ⟨hgrow.os.trans hnx2.os, hgrow.tape.trans hnx2.tape, hgrow.output.trans hnx2.output, Nat.le_trans hnx2.size hgrow.size, fun k hk hne => (hgrow.block k (Nat.lt_of_lt_of_le hk hnx2.size) hne).trans (hnx2.block k hk)⟩
  · exact fun k hk => (hat k hk).imp id fun h => Nat.le_trans hnx2.size h

theorem Any.appendUint (L : LaysM.n288 P ρ) (n u : Nat) (hu64 : u < 18446744073709551616) (sv : Value) (xs : List Value) (w : World) (hown : OwnsB w sv n xs) (hlim : n + 20 ≤ 140737488355328)
    (htab : Lib.TabIs P w "internal/strconv.uint64pow10" .u64 Lib.pow10Tab) :
    Calls P (ρ.f 288) #[sv, .int .u64 u, .int .i64 10] w fun e w' => ∃ v', e = .returned v' ∧ OwnsB w' v' (n + (Lib.decDigits u).length) (xs ++ Lib.byteCells (Lib.decDigits u)) ∧ w.grownBy w' sv.ownBlock ∧ OwnAt w sv v' := by
  by_cases h : u < 100
  · exact Any.appendUint_small { L with } n u h sv xs w hown hlim
  · exact Any.appendUint_big { L with } n u (by omega) hu64 sv xs w hown hlim htab

set_option maxHeartbeats 6400000 in
set_option maxRecDepth 100000 in
theorem Any.appendInt_in (L : LaysM.n249 P ρ) (n : Nat) (i : Int) (h0 : -9223372036854775808 ≤ i) (h1 : i ≤ 9223372036854775807) (sv : Value) (xs : List Value) (w : World) (hown : OwnsB w sv n xs) (hlim : n + 21 ≤ 140737488355328)
    (htab : TabAside P sv.ownBlock w "internal/strconv.uint64pow10" .u64 Lib.pow10Tab) :
    Calls P (ρ.f 249) #[sv, .int .i64 i, .int .i64 10] w fun e w' => ∃ v', e = .returned v' ∧ OwnsB w' v' (n + (Lib.itoa i).length) (xs ++ Lib.byteCells (Lib.itoa i)) ∧ w.grownBy w' sv.ownBlock ∧ OwnAt w sv v' := by
  have mixed := L.mixed
  have t5 := L.t5; have a5 := L.a5; have z5 := L.z5; have v5 := L.v5
  have t37 := L.t37; have u37 := run_underlying L.t37; have a37 := L.a37; have z37 := L.z37; have v37 := L.v37
  have t2 := L.t2; have a2 := L.a2; have z2 := L.z2; have v2 := L.v2
  have t3 := L.t3; have a3 := L.a3; have z3 := L.z3; have v3 := L.v3
  have t53 := L.t53; have a53 := L.a53; have z53 := L.z53; have v53 := L.v53
  have t4 := L.t4; have a4 := L.a4; have z4 := L.z4; have v4 := L.v4
  have e288 : ∀ args w, (callFunc (ρ.f 288) args).run P w = .ok (.enter (ρ.f 288) args) w := enters_of L.f288 (by kernel_rfl) rfl
  obtain ⟨i0, hi, hz0, hz1, hz2⟩ := info_parts L.i5
  by_cases hneg : i < 0
  · obtain ⟨u, rfl⟩ : ∃ u : Nat, i = -(u : Int) := ⟨i.natAbs, by omega⟩
    have hu1 : 1 ≤ u := by omega
    have hu64 : u < 18446744073709551616 := by omega
    have hwr : IntKind.u64.wrap (-IntKind.u64.wrap (-(u : Int))) = (u : Int) := by rw [IntKind.wrap_u64, IntKind.wrap_u64]; omega
    rw [Lib.itoa_neg u hu1]
    go_enter L.f249, Body.n249_ntmps ρ
    go_wp2_with (at_builtin; refine wpList_append_own2 _ rfl _ _ (ρ.t 37) rfl (ρ.t 5) i0 (.int .u8 0) L.t37 hi hz0 hz1 hz2 rfl _ _ _ rfl (hown.alloc _) w.heap.size 0 1 1 [Value.int .u8 45] rfl rfl (by intro j u' hj; match j, hj with | 0, hj => simp at hj; subst hj; simp) (by intro u' hu'; simp at hu'; subst hu'; exact ⟨(fun _ h => nomatch h), (fun _ h => nomatch h)⟩) (by unfold maxLen; omega) (by omega) ?_)
    intro v1 w1 hown1 hgrow hat1
    have hgr1 := grown_alloc _ _ hgrow
    have hat1' : OwnAt w sv v1 := fun k hk => (hat1 k hk).imp id fun h => Nat.le_trans (by simp) h
    have htab1 : Lib.TabIs P w1 "internal/strconv.uint64pow10" .u64 Lib.pow10Tab := htab w1 hgr1
    go_wp2_with (go_at_fn (ρ.f 288); refine (Any.appendUint { L with } (n + 1) u hu64 v1 _ w1 hown1 (by omega) htab1).mono ?_; rintro e w2 ⟨v2, rfl, hown2, hgr2, hat2⟩)
    go_wp2
    go_ret
    refine ⟨v2, rfl, ?_, grown_trans hgr1 hgr2 hat1', hat1'.trans hgr1.size hat2⟩
    have e1 : n + ((Lib.decDigits u).length + 1) = n + 1 + (Lib.decDigits u).length := by omega
    have e2 : xs ++ Lib.byteCells (45 :: Lib.decDigits u) = xs ++ [Value.int .u8 45] ++ Lib.byteCells (Lib.decDigits u) := by simp [Lib.byteCells]
    rw [e1, e2]
    exact hown2
  · obtain ⟨u, rfl⟩ : ∃ u : Nat, i = u := ⟨i.toNat, by omega⟩
    have hu64 : u < 18446744073709551616 := by omega
    rw [Lib.itoa_nonneg]
    go_enter L.f249, Body.n249_ntmps ρ
    go_wp2_with (go_at_fn (ρ.f 288); refine (Any.appendUint { L with } n u hu64 sv xs w hown (by omega) htab.here).mono ?_; rintro e w2 ⟨v2, rfl, hown2, hgr2, hat2⟩)
    go_wp2
    first | go_ret | go_ret2
    exact ⟨v2, rfl, hown2, hgr2, hat2⟩

set_option maxRecDepth 100000 in
/-- strconv.AppendInt to base ten: the row with the numeral behind it; all blocks but the row's stand. -/
theorem Any.appendInt (L : LaysM.n176 P ρ) (n : Nat) (i : Int) (h0 : -9223372036854775808 ≤ i) (h1 : i ≤ 9223372036854775807) (sv : Value) (xs : List Value) (w : World) (hown : OwnsB w sv n xs) (hlim : n + 21 ≤ 140737488355328)
    (htab : TabAside P sv.ownBlock w "internal/strconv.uint64pow10" .u64 Lib.pow10Tab) :
    Calls P (ρ.f 176) #[sv, .int .i64 i, .int .i64 10] w fun e w' => ∃ v', e = .returned v' ∧ OwnsB w' v' (n + (Lib.itoa i).length) (xs ++ Lib.byteCells (Lib.itoa i)) ∧ w.grownBy w' sv.ownBlock ∧ OwnAt w sv v' := by
  have mixed := L.mixed
  have t5 := L.t5; have a5 := L.a5; have z5 := L.z5; have v5 := L.v5
  have t37 := L.t37; have u37 := run_underlying L.t37; have a37 := L.a37; have z37 := L.z37; have v37 := L.v37
  have t2 := L.t2; have a2 := L.a2; have z2 := L.z2; have v2 := L.v2
  have t3 := L.t3; have a3 := L.a3; have z3 := L.z3; have v3 := L.v3
  have e249 : ∀ args w, (callFunc (ρ.f 249) args).run P w = .ok (.enter (ρ.f 249) args) w := enters_of L.f249 (by kernel_rfl) rfl
  go_enter L.f176, Body.n176_ntmps ρ
  go_wp2_with (go_at_fn (ρ.f 249); refine (Any.appendInt_in { L with } n i h0 h1 sv xs w hown hlim htab).mono ?_; rintro e w2 ⟨v2, rfl, hown2, hgr2, hat2⟩)
  go_wp2
  go_ret
  exact ⟨v2, rfl, hown2, hgr2, hat2⟩
end Go.Proofs
