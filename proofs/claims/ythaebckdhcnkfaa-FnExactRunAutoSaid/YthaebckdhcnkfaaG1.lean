/- A part of the proof: a calculus of our own over the model's code, and contracts of the program's functions. -/
/-  Plain law: longest suffixes that are words (no program in sight).  -/
namespace AC
variable {α : Type}

/-- The longest suffix of a list that p takes; [] if none does. -/
def LS (p : List α → Bool) : List α → List α
  | [] => []
  | a :: l => if p (a :: l) then a :: l else LS p l

theorem LS_suffix (p : List α → Bool) : ∀ l, LS p l <:+ l
  | [] => List.suffix_refl _
  | a :: l => by
    unfold LS
    split
    · exact List.suffix_refl _
    · exact (LS_suffix p l).trans (List.suffix_cons a l)

theorem LS_p {p : List α → Bool} (h : p [] = true) : ∀ l, p (LS p l) = true
  | [] => h
  | a :: l => by
    unfold LS
    split
    · assumption
    · exact LS_p h l

theorem LS_max {p : List α → Bool} : ∀ {l s : List α}, s <:+ l → p s = true → s <:+ LS p l
  | [], s, h, _ => by
    have : s = [] := by simpa using h
    subst this; exact List.suffix_refl _
  | a :: l, s, h, hp => by
    unfold LS
    split
    · exact h
    · rename_i hn
      rcases List.suffix_cons_iff.1 h with rfl | h
      · exact absurd hp hn
      · exact LS_max h hp

theorem suffix_antisymm {a b : List α} (h : a <:+ b) (h' : b <:+ a) : a = b :=
  h.eq_of_length (Nat.le_antisymm h.length_le h'.length_le)

theorem LS_unique {p : List α → Bool} (h0 : p [] = true) {l r : List α} (h : r <:+ l) (hp : p r = true) (hm : ∀ s, s <:+ l → p s = true → s <:+ r) : LS p l = r :=
  suffix_antisymm (hm _ (LS_suffix p l) (LS_p h0 l)) (LS_max h hp)

theorem LS_self {p : List α → Bool} {l : List α} (hp : p l = true) : LS p l = l := by
  cases l with
  | nil => rfl
  | cons a l => unfold LS; rw [if_pos hp]

theorem suffix_snoc {s x : List α} {e : α} (h : s <:+ x ++ [e]) : s = [] ∨ ∃ u, s = u ++ [e] ∧ u <:+ x := by
  rcases List.eq_nil_or_concat s with rfl | ⟨u, b, rfl⟩
  · exact .inl rfl
  · right
    obtain ⟨t, ht⟩ := h
    rw [List.concat_eq_append, ← List.append_assoc] at ht
    have := List.append_inj' ht rfl
    obtain ⟨h1, h2⟩ := this
    refine ⟨u, ?_, ⟨t, h1⟩⟩
    simpa using h2

theorem snoc_suffix {u x : List α} (e : α) (h : u <:+ x) : u ++ [e] <:+ x ++ [e] := by
  obtain ⟨t, rfl⟩ := h
  exact ⟨t, by simp⟩

/-- p is closed under taking the last letter off. -/
def Closed (p : List α → Bool) : Prop := p [] = true ∧ ∀ u e, p (u ++ [e]) = true → p u = true

theorem LS_LS {p : List α → Bool} (hc : Closed p) (x : List α) (e : α) : LS p (x ++ [e]) = LS p (LS p x ++ [e]) := by
  refine LS_unique hc.1 ((LS_suffix p _).trans (snoc_suffix e (LS_suffix p x))) (LS_p hc.1 _) fun s hs hp => ?_
  refine LS_max ?_ hp
  rcases suffix_snoc hs with rfl | ⟨u, rfl, hu⟩
  · exact List.nil_suffix
  · exact snoc_suffix e (LS_max hu (hc.2 u e hp))

/-- One link of the chain: w is a word; if w e is none, go on behind the longest proper suffix of w. -/
theorem LS_link {p : List α → Bool} (hc : Closed p) {a : α} {w : List α} {e : α} (hn : p (a :: w ++ [e]) = false) :
    LS p ((a :: w) ++ [e]) = LS p (LS p w ++ [e]) := by
  rw [← LS_LS hc]
  show LS p (a :: (w ++ [e])) = _
  unfold LS
  rw [if_neg (by simpa using hn)]
  cases h : w ++ [e] with
  | nil => simp at h
  | cons b t => rfl

end AC

/-  Plain law: the order of words (shorter first, then by the first difference).  -/
namespace Short

/-- Smaller at the first difference (of two lists of one length). -/
def lex : List Int → List Int → Bool
  | a :: ys, b :: bs => if a = b then lex ys bs else decide (a < b)
  | _, _ => false

def before (a b : List Int) : Bool := if a.length = b.length then lex a b else decide (a.length < b.length)

theorem lex_irrefl : ∀ a, lex a a = false
  | [] => rfl
  | a :: ys => by simp [lex, lex_irrefl ys]

theorem lex_trans : ∀ {a b c : List Int}, lex a b = true → lex b c = true → lex a c = true
  | a :: ys, b :: bs, c :: cs, h1, h2 => by
    unfold lex at h1 h2 ⊢
    split at h1 <;> split at h2 <;> split <;> simp_all
    · exact lex_trans h1 h2
    · omega
    · omega
  | [], _, _, h1, _ => by simp [lex] at h1
  | _ :: _, [], _, h1, _ => by simp [lex] at h1
  | _ :: _, _ :: _, [], _, h2 => by simp [lex] at h2

theorem lex_total : ∀ {a b : List Int}, a.length = b.length → lex a b = false → lex b a = false → a = b
  | [], [], _, _, _ => rfl
  | a :: ys, b :: bs, hl, h1, h2 => by
    unfold lex at h1 h2
    by_cases hab : a = b
    · subst hab
      simp at h1 h2
      rw [lex_total (by simpa using hl) h1 h2]
    · have hba : ¬ b = a := fun h => hab h.symm
      simp [hab, hba] at h1 h2
      omega
  | [], _ :: _, hl, _, _ => by simp at hl
  | _ :: _, [], hl, _, _ => by simp at hl

theorem lex_snoc : ∀ {u v : List Int} {a b : Int}, u.length = v.length → lex (u ++ [a]) (v ++ [b]) = (lex u v || (decide (u = v) && decide (a < b)))
  | [], [], a, b, _ => by
    by_cases h : a = b
    · subst h; simp [lex]
    · simp [lex, h]
  | x :: u, y :: v, a, b, hl => by
    have hl' : u.length = v.length := by simpa using hl
    by_cases h : x = y
    · subst h; simp [lex, lex_snoc hl']
    · simp [lex, h]
  | [], _ :: _, _, _, hl => by simp at hl
  | _ :: _, [], _, _, hl => by simp at hl

theorem before_irrefl (a : List Int) : before a a = false := by simp [before, lex_irrefl]

theorem before_trans {a b c : List Int} (h1 : before a b = true) (h2 : before b c = true) : before a c = true := by
  unfold before at *
  split at h1 <;> split at h2 <;> split <;> simp_all
  · exact lex_trans h1 h2
  · omega
  · omega

theorem before_asymm {a b : List Int} (h : before a b = true) : before b a = false := by
  cases h' : before b a with
  | false => rfl
  | true => exact absurd (before_trans h h') (by simp [before_irrefl])

theorem before_total {a b : List Int} (h1 : before a b = false) (h2 : before b a = false) : a = b := by
  unfold before at *
  by_cases hl : a.length = b.length
  · rw [if_pos hl] at h1; rw [if_pos hl.symm] at h2
    exact lex_total hl h1 h2
  · rw [if_neg hl] at h1; rw [if_neg (fun h => hl h.symm)] at h2
    simp at h1 h2; omega

theorem before_snoc {u v : List Int} {a b : Int} : before (u ++ [a]) (v ++ [b]) = (before u v || (decide (u = v) && decide (a < b))) := by
  unfold before
  by_cases hl : u.length = v.length
  · simp [hl, lex_snoc hl]
  · have : u ≠ v := fun h => hl (by rw [h])
    simp [hl, this]

theorem before_nil (a : List Int) (x : Int) : before [] (a ++ [x]) = true := by
  simp [before]

/-- A strictly rising list of words. -/
def Rising (ws : List (List Int)) : Prop := ws.Pairwise fun a b => before a b = true

theorem Rising.lt {ws : List (List Int)} (h : Rising ws) {i j : Nat} (hij : i < j) (hj : j < ws.length) : before (ws[i]'(Nat.lt_trans hij hj)) ws[j] = true :=
  List.pairwise_iff_getElem.1 h i j (Nat.lt_trans hij hj) hj hij

theorem Rising.iff {ws : List (List Int)} (h : Rising ws) {i j : Nat} (hi : i < ws.length) (hj : j < ws.length) : before ws[i] ws[j] = true ↔ i < j := by
  constructor
  · intro hb
    rcases Nat.lt_trichotomy i j with h1 | h1 | h1
    · exact h1
    · subst h1; simp [before_irrefl] at hb
    · have := before_asymm (h.lt h1 hi)
      rw [hb] at this; cases this
  · intro h1; exact h.lt h1 hj

theorem Rising.inj {ws : List (List Int)} (h : Rising ws) {i j : Nat} (hi : i < ws.length) (hj : j < ws.length) (he : ws[i] = ws[j]) : i = j := by
  rcases Nat.lt_trichotomy i j with h1 | h1 | h1
  · have := h.lt h1 hj; rw [he, before_irrefl] at this; cases this
  · exact h1
  · have := h.lt h1 hi; rw [he, before_irrefl] at this; cases this

end Short

/-  Plain law: the failure links of an automaton whose states stand for rising words.  -/
set_option autoImplicit false
namespace Auto
open AC Short

def rdi (xs : List Int) (i : Int) : Int := xs.getD i.toNat 0

/-- The words of the states: parents stand ahead, the words rise. -/
structure Trie (ws : List (List Int)) (parent last : List Int) : Prop where
  pos : 0 < ws.length
  lp : parent.length = ws.length
  ll : last.length = ws.length
  root : ws[0]? = some []
  par : ∀ s, 1 ≤ s → s < ws.length → 0 ≤ parent.getD s 0 ∧ (parent.getD s 0).toNat < s
  word : ∀ s, 1 ≤ s → s < ws.length → ws.getD s [] = ws.getD (parent.getD s 0).toNat [] ++ [last.getD s 0]
  rise : Rising ws

/-- The state that an edge leads to from a state, among the first s states. -/
def arr (parent last : List Int) : Nat → Int → Int → Option Int
  | 0, _, _ => none
  | s + 1, p, e => if s ≠ 0 ∧ parent.getD s 0 = p ∧ last.getD s 0 = e then some s else arr parent last s p e

variable {ws : List (List Int)} {parent last : List Int}

theorem Trie.inj (T : Trie ws parent last) {i j : Nat} (hi : i < ws.length) (hj : j < ws.length) (he : ws.getD i [] = ws.getD j []) : i = j := by
  refine T.rise.inj hi hj ?_
  rw [List.getD_eq_getElem?_getD, List.getD_eq_getElem?_getD] at he
  simpa [hi, hj] using he

theorem arr_some (parent last : List Int) : ∀ {n : Nat} {p e t : Int}, arr parent last n p e = some t → ∃ s : Nat, t = s ∧ s < n ∧ s ≠ 0 ∧ parent.getD s 0 = p ∧ last.getD s 0 = e
  | 0, _, _, _, h => by simp [arr] at h
  | n + 1, p, e, t, h => by
    unfold arr at h
    split at h
    · rename_i hc
      exact ⟨n, by simpa using h.symm, by omega, hc.1, hc.2.1, hc.2.2⟩
    · obtain ⟨s, h1, h2, h3⟩ := arr_some parent last h
      exact ⟨s, h1, by omega, h3⟩

theorem arr_none (parent last : List Int) : ∀ {n : Nat} {p e : Int}, arr parent last n p e = none → ∀ s, s < n → s ≠ 0 → parent.getD s 0 = p → last.getD s 0 ≠ e
  | 0, _, _, _, s, hs, _, _ => by omega
  | n + 1, p, e, h, s, hs, h0, hp => by
    unfold arr at h
    split at h
    · cases h
    · rename_i hc
      by_cases hsn : s = n
      · subst hsn
        intro he
        exact hc ⟨h0, hp, he⟩
      · exact arr_none parent last h s (by omega) h0 hp

/-- Among all states: where the edge leads is the state of the longer word. -/
theorem Trie.arr_word (T : Trie ws parent last) {p : Nat} {e t : Int} (h : arr parent last ws.length p e = some t) :
    ∃ s : Nat, t = s ∧ s < ws.length ∧ p < s ∧ ws.getD s [] = ws.getD p [] ++ [e] := by
  obtain ⟨s, h1, h2, h3, h4, h5⟩ := arr_some parent last h
  have hw := T.word s (by omega) h2
  have hpar := T.par s (by omega) h2
  rw [h4] at hpar hw
  exact ⟨s, h1, h2, by simpa using hpar.2, by rw [hw, h5]; simp⟩

theorem Trie.arr_not (T : Trie ws parent last) {p : Nat} (hp : p < ws.length) {e : Int} (h : arr parent last ws.length p e = none) : ws.getD p [] ++ [e] ∉ ws := by
  intro hm
  obtain ⟨s, hs, he⟩ := List.mem_iff_getElem.1 hm
  have h0 : s ≠ 0 := by
    rintro rfl
    have := T.root
    rw [List.getElem?_eq_getElem hs, he] at this
    simp at this
  have hw := T.word s (by omega) hs
  have hg : ws.getD s [] = ws.getD p [] ++ [e] := by rw [List.getD_eq_getElem?_getD]; simp [hs, he]
  rw [hg] at hw
  have ha := List.append_inj' hw rfl
  have hpar := T.par s (by omega) hs
  have hpp : p = (parent.getD s 0).toNat := T.inj hp (by omega) ha.1
  refine arr_none parent last h s hs h0 (by omega) ?_
  simpa using ha.2.symm

def isWord (ws : List (List Int)) (l : List Int) : Bool := ws.contains l

theorem isWord_iff {l : List Int} : isWord ws l = true ↔ l ∈ ws := by simp [isWord]

theorem mem_getD {s : Nat} (hs : s < ws.length) : ws.getD s [] ∈ ws := by
  rw [List.getD_eq_getElem?_getD]; simp [hs]

theorem Trie.closed (T : Trie ws parent last) : Closed (isWord ws) := by
  constructor
  · rw [isWord_iff]
    exact List.mem_of_getElem? T.root
  · intro u e h
    rw [isWord_iff] at h ⊢
    obtain ⟨s, hs, he⟩ := List.mem_iff_getElem.1 h
    have h0 : s ≠ 0 := by
      rintro rfl
      have := T.root
      rw [List.getElem?_eq_getElem hs, he] at this
      simp at this
    have hw := T.word s (by omega) hs
    have hg : ws.getD s [] = u ++ [e] := by rw [List.getD_eq_getElem?_getD]; simp [hs, he]
    rw [hg] at hw
    have ha := (List.append_inj' hw rfl).1
    have hpar := T.par s (by omega) hs
    rw [ha]
    exact mem_getD (by omega)

/-- What failure links are right up to state n: the state of the longest proper suffix. -/
def FailsTo (ws : List (List Int)) (out : List Int) (n : Nat) : Prop :=
  ∀ s, 1 ≤ s → s < n → ∃ f : Nat, out.getD s 0 = f ∧ f < s ∧ ws.getD f [] = LS (isWord ws) (ws.getD s []).tail

/-- Along the links from f till an edge e leads on. -/
def chain (parent last out : List Int) (e : Int) : Nat → Int → Option Int
  | 0, _ => none
  | k + 1, f => match arr parent last parent.length f e with
    | some t => some t
    | none => if f = 0 then some 0 else chain parent last out e k (out.getD f.toNat 0)

theorem Trie.ne_nil (T : Trie ws parent last) {s : Nat} (h0 : s ≠ 0) (hs : s < ws.length) : ws.getD s [] ≠ [] := by
  rw [T.word s (by omega) hs]; simp

theorem Trie.chain_ok (T : Trie ws parent last) {out : List Int} {n : Nat} (hF : FailsTo ws out n) (hn : n ≤ ws.length) (e : Int) :
    ∀ (k : Nat) (f : Nat), f < n → f < k → ∃ t : Nat, chain parent last out e k f = some (t : Int) ∧ t < ws.length ∧ ws.getD t [] = LS (isWord ws) (ws.getD f [] ++ [e])
  | 0, f, _, hk => by omega
  | k + 1, f, hf, hk => by
    unfold chain
    rw [T.lp]
    cases ha : arr parent last ws.length f e with
    | some t =>
      obtain ⟨s, rfl, hs, hlt, hw⟩ := T.arr_word ha
      refine ⟨s, rfl, hs, ?_⟩
      rw [hw, LS_self]
      rw [isWord_iff, ← hw]
      exact mem_getD hs
    | none =>
      have hnot := T.arr_not (p := f) (by omega) ha
      dsimp only
      by_cases h0 : f = 0
      · subst h0
        rw [if_pos (by rfl)]
        refine ⟨0, rfl, T.pos, ?_⟩
        have hr : ws.getD 0 [] = [] := by rw [List.getD_eq_getElem?_getD, T.root]; rfl
        rw [hr] at hnot ⊢
        have : isWord ws [e] = false := by
          cases hi : isWord ws [e] with
          | false => rfl
          | true => exact absurd (isWord_iff.1 hi) hnot
        simp [LS, this]
      · rw [if_neg (by omega)]
        obtain ⟨g, hg, hgf, hw⟩ := hF f (by omega) hf
        have e1 : (f : Int).toNat = f := by simp
        rw [e1, hg]
        obtain ⟨t, h1, h2, h3⟩ := T.chain_ok hF hn e k g (by omega) (by omega)
        refine ⟨t, h1, h2, ?_⟩
        rw [h3, hw]
        obtain ⟨a, l, hal⟩ := List.exists_cons_of_ne_nil (T.ne_nil h0 (by omega))
        rw [hal] at hnot ⊢
        show LS (isWord ws) (LS (isWord ws) l ++ [e]) = _
        refine (LS_link T.closed ?_).symm
        cases hi : isWord ws (a :: l ++ [e]) with
        | false => rfl
        | true => exact absurd (isWord_iff.1 hi) hnot

/-- The failure links of the states from s on. -/
def failsGo (parent last : List Int) : Nat → Nat → List Int → Option (List Int)
  | 0, _, out => some out
  | k + 1, s, out =>
    if parent.getD s 0 = 0 then failsGo parent last k (s + 1) (out ++ [0])
    else (chain parent last out (last.getD s 0) (s + 1) (out.getD (parent.getD s 0).toNat 0)).bind fun t => failsGo parent last k (s + 1) (out ++ [t])

def fails (parent last : List Int) : Option (List Int) := failsGo parent last (parent.length - 1) 1 [-1]

theorem getD_snoc_lt {xs : List Int} {x : Int} {s : Nat} (h : s < xs.length) : (xs ++ [x]).getD s 0 = xs.getD s 0 := by
  simp [List.getD_eq_getElem?_getD, List.getElem?_append_left h]

theorem getD_snoc_eq {xs : List Int} {x : Int} {s : Nat} (h : s = xs.length) : (xs ++ [x]).getD s 0 = x := by
  subst h; simp [List.getD_eq_getElem?_getD]

theorem FailsTo.snoc {out : List Int} {s : Nat} (hl : out.length = s) (hF : FailsTo ws out s) {t : Nat} (ht : t < s) (hw : ws.getD t [] = LS (isWord ws) (ws.getD s []).tail) : FailsTo ws (out ++ [(t : Int)]) (s + 1) := by
  intro i h1 h2
  by_cases h : i < s
  · obtain ⟨f, hf, r⟩ := hF i h1 h
    exact ⟨f, by rw [getD_snoc_lt (by omega), hf], r⟩
  · obtain rfl : i = s := by omega
    exact ⟨t, by rw [getD_snoc_eq (by omega)], ht, hw⟩

theorem LS_length (p : List Int → Bool) (l : List Int) : (LS p l).length ≤ l.length := (LS_suffix p l).length_le

theorem before_shorter {a b : List Int} (h : a.length < b.length) : before a b = true := by
  unfold before; rw [if_neg (by omega)]; simpa using h

theorem Trie.shorter (T : Trie ws parent last) {i j : Nat} (hi : i < ws.length) (hj : j < ws.length) (h : (ws.getD i []).length < (ws.getD j []).length) : i < j := by
  refine (T.rise.iff hi hj).1 (before_shorter ?_)
  rw [List.getD_eq_getElem?_getD, List.getD_eq_getElem?_getD] at h
  simpa [hi, hj] using h

theorem Trie.failsGo_ok (T : Trie ws parent last) : ∀ (k s : Nat) (out : List Int), 1 ≤ s → s + k = ws.length → out.length = s → FailsTo ws out s →
    ∃ r, failsGo parent last k s out = some r ∧ r.length = ws.length ∧ FailsTo ws r ws.length ∧ r.getD 0 0 = out.getD 0 0
  | 0, s, out, _, hk, hl, hF => ⟨out, rfl, by omega, by rw [← hk]; exact hF, rfl⟩
  | k + 1, s, out, h1, hk, hl, hF => by
    unfold failsGo
    have hpar := T.par s h1 (by omega)
    have hw := T.word s h1 (by omega)
    have tail0 : ∀ t : Nat, t < ws.length → ws.getD t [] = LS (isWord ws) (ws.getD s []).tail → t < s := fun t ht htw => by
      refine T.shorter ht (by omega) ?_
      rw [htw]
      have := LS_length (isWord ws) (ws.getD s []).tail
      have h2 : (ws.getD s []).length ≠ 0 := by rw [hw, List.length_append, List.length_singleton]; omega
      rw [List.length_tail] at this
      omega
    have done : ∀ t : Nat, t < ws.length → ws.getD t [] = LS (isWord ws) (ws.getD s []).tail →
        ∃ r, failsGo parent last k (s + 1) (out ++ [(t : Int)]) = some r ∧ r.length = ws.length ∧ FailsTo ws r ws.length ∧ r.getD 0 0 = out.getD 0 0 := fun t ht htw => by
      obtain ⟨r, a1, a2, a3, a4⟩ := T.failsGo_ok k (s + 1) (out ++ [(t : Int)]) (by omega) (by omega) (by simp [hl]) (hF.snoc hl (tail0 t ht htw) htw)
      exact ⟨r, a1, a2, a3, by rw [a4, getD_snoc_lt (by omega)]⟩
    by_cases h0 : parent.getD s 0 = 0
    · rw [if_pos h0]
      refine done 0 T.pos ?_
      have hr : ws.getD 0 [] = [] := by rw [List.getD_eq_getElem?_getD, T.root]; rfl
      rw [hw, h0]
      show ws.getD 0 [] = LS (isWord ws) (ws.getD 0 [] ++ [last.getD s 0]).tail
      rw [hr]; rfl
    · rw [if_neg h0]
      obtain ⟨f, hf, hlt, hfw⟩ := hF (parent.getD s 0).toNat (by omega) hpar.2
      rw [hf]
      obtain ⟨t, c1, c2, c3⟩ := T.chain_ok hF (by omega) (last.getD s 0) (s + 1) f (by omega) (by omega)
      rw [c1]
      refine done t c2 ?_
      rw [c3, hfw, hw, ← LS_LS T.closed]
      obtain ⟨a, l, hal⟩ := List.exists_cons_of_ne_nil (T.ne_nil (s := (parent.getD s 0).toNat) (by omega) (by omega))
      rw [hal]; rfl

theorem Trie.fails_ok (T : Trie ws parent last) : ∃ r, fails parent last = some r ∧ r.length = ws.length ∧ FailsTo ws r ws.length ∧ r.getD 0 0 = -1 := by
  have := T.failsGo_ok (parent.length - 1) 1 [-1] (Nat.le_refl _) (by have := T.pos; have := T.lp; omega) rfl (fun s h1 h2 => by omega)
  simpa [fails] using this

/-- The links are what they ought to be just if they say so, state by state. -/
theorem Trie.fails_eq (T : Trie ws parent last) {r out : List Int} (hr : r.length = ws.length) (hF : FailsTo ws r ws.length) (h0 : r.getD 0 0 = -1) (hl : out.length = ws.length) :
    r = out ↔ out.getD 0 0 = -1 ∧ ∀ s, 1 ≤ s → s < ws.length → ∃ f : Nat, out.getD s 0 = f ∧ f < ws.length ∧ ws.getD f [] = LS (isWord ws) (ws.getD s []).tail := by
  constructor
  · rintro rfl
    exact ⟨h0, fun s h1 h2 => by obtain ⟨f, a, b, c⟩ := hF s h1 h2; exact ⟨f, a, by omega, c⟩⟩
  · rintro ⟨g0, hG⟩
    apply List.ext_getElem (by omega)
    intro i hi hj
    have e1 : r[i] = r.getD i 0 := by rw [List.getD_eq_getElem?_getD]; simp [hi]
    have e2 : out[i] = out.getD i 0 := by rw [List.getD_eq_getElem?_getD]; simp [hj]
    rw [e1, e2]
    by_cases h : i = 0
    · subst h; rw [h0, g0]
    · obtain ⟨f, a, b, c⟩ := hF i (by omega) (by omega)
      obtain ⟨f', a', b', c'⟩ := hG i (by omega) (by omega)
      rw [a, a', T.inj (by omega) b' (c.trans c'.symm)]

end Auto
