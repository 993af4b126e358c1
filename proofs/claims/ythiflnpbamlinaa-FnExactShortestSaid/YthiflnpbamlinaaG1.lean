/- A part of the proof: a calculus of our own over the model's code, and contracts of the program's functions. -/
/-  Plain law: longest suffixes that are words (no program in sight).  -/
namespace AC
variable {α : Type}

/-- The longest suffix of a list that p takes; [] if none does. -/
def LS (p : List α → Bool) : List α → List α
  | [] => []
  | a :: l => if p (a :: l) then a :: l else LS p l

theorem LS_suffix (p : List α → Bool) : ∀ l, LS p l <:+ l
  | [] => List.suffix_refl _
  | a :: l => by
    unfold LS
    split
    · exact List.suffix_refl _
    · exact (LS_suffix p l).trans (List.suffix_cons a l)

theorem LS_p {p : List α → Bool} (h : p [] = true) : ∀ l, p (LS p l) = true
  | [] => h
  | a :: l => by
    unfold LS
    split
    · assumption
    · exact LS_p h l

theorem LS_max {p : List α → Bool} : ∀ {l s : List α}, s <:+ l → p s = true → s <:+ LS p l
  | [], s, h, _ => by
    have : s = [] := by simpa using h
    subst this; exact List.suffix_refl _
  | a :: l, s, h, hp => by
    unfold LS
    split
    · exact h
    · rename_i hn
      rcases List.suffix_cons_iff.1 h with rfl | h
      · exact absurd hp hn
      · exact LS_max h hp

theorem suffix_antisymm {a b : List α} (h : a <:+ b) (h' : b <:+ a) : a = b :=
  h.eq_of_length (Nat.le_antisymm h.length_le h'.length_le)

theorem LS_unique {p : List α → Bool} (h0 : p [] = true) {l r : List α} (h : r <:+ l) (hp : p r = true) (hm : ∀ s, s <:+ l → p s = true → s <:+ r) : LS p l = r :=
  suffix_antisymm (hm _ (LS_suffix p l) (LS_p h0 l)) (LS_max h hp)

theorem suffix_snoc {s x : List α} {e : α} (h : s <:+ x ++ [e]) : s = [] ∨ ∃ u, s = u ++ [e] ∧ u <:+ x := by
  rcases List.eq_nil_or_concat s with rfl | ⟨u, b, rfl⟩
  · exact .inl rfl
  · right
    obtain ⟨t, ht⟩ := h
    rw [List.concat_eq_append, ← List.append_assoc] at ht
    have := List.append_inj' ht rfl
    obtain ⟨h1, h2⟩ := this
    refine ⟨u, ?_, ⟨t, h1⟩⟩
    simpa using h2

theorem snoc_suffix {u x : List α} (e : α) (h : u <:+ x) : u ++ [e] <:+ x ++ [e] := by
  obtain ⟨t, rfl⟩ := h
  exact ⟨t, by simp⟩

/-- p is closed under taking the last letter off. -/
def Closed (p : List α → Bool) : Prop := p [] = true ∧ ∀ u e, p (u ++ [e]) = true → p u = true

theorem LS_LS {p : List α → Bool} (hc : Closed p) (x : List α) (e : α) : LS p (x ++ [e]) = LS p (LS p x ++ [e]) := by
  refine LS_unique hc.1 ((LS_suffix p _).trans (snoc_suffix e (LS_suffix p x))) (LS_p hc.1 _) fun s hs hp => ?_
  refine LS_max ?_ hp
  rcases suffix_snoc hs with rfl | ⟨u, rfl, hu⟩
  · exact List.nil_suffix
  · exact snoc_suffix e (LS_max hu (hc.2 u e hp))

end AC

/-  Plain law: the order of words (shorter first, then by the first difference).  -/
namespace Short

/-- Smaller at the first difference (of two lists of one length). -/
def lex : List Int → List Int → Bool
  | a :: ys, b :: bs => if a = b then lex ys bs else decide (a < b)
  | _, _ => false

def before (a b : List Int) : Bool := if a.length = b.length then lex a b else decide (a.length < b.length)

theorem lex_irrefl : ∀ a, lex a a = false
  | [] => rfl
  | a :: ys => by simp [lex, lex_irrefl ys]

theorem lex_trans : ∀ {a b c : List Int}, lex a b = true → lex b c = true → lex a c = true
  | a :: ys, b :: bs, c :: cs, h1, h2 => by
    unfold lex at h1 h2 ⊢
    split at h1 <;> split at h2 <;> split <;> simp_all
    · exact lex_trans h1 h2
    · omega
    · omega
  | [], _, _, h1, _ => by simp [lex] at h1
  | _ :: _, [], _, h1, _ => by simp [lex] at h1
  | _ :: _, _ :: _, [], _, h2 => by simp [lex] at h2

theorem lex_total : ∀ {a b : List Int}, a.length = b.length → lex a b = false → lex b a = false → a = b
  | [], [], _, _, _ => rfl
  | a :: ys, b :: bs, hl, h1, h2 => by
    unfold lex at h1 h2
    by_cases hab : a = b
    · subst hab
      simp at h1 h2
      rw [lex_total (by simpa using hl) h1 h2]
    · have hba : ¬ b = a := fun h => hab h.symm
      simp [hab, hba] at h1 h2
      omega
  | [], _ :: _, hl, _, _ => by simp at hl
  | _ :: _, [], hl, _, _ => by simp at hl

theorem lex_snoc : ∀ {u v : List Int} {a b : Int}, u.length = v.length → lex (u ++ [a]) (v ++ [b]) = (lex u v || (decide (u = v) && decide (a < b)))
  | [], [], a, b, _ => by
    by_cases h : a = b
    · subst h; simp [lex]
    · simp [lex, h]
  | x :: u, y :: v, a, b, hl => by
    have hl' : u.length = v.length := by simpa using hl
    by_cases h : x = y
    · subst h; simp [lex, lex_snoc hl']
    · simp [lex, h]
  | [], _ :: _, _, _, hl => by simp at hl
  | _ :: _, [], _, _, hl => by simp at hl

theorem before_irrefl (a : List Int) : before a a = false := by simp [before, lex_irrefl]

theorem before_trans {a b c : List Int} (h1 : before a b = true) (h2 : before b c = true) : before a c = true := by
  unfold before at *
  split at h1 <;> split at h2 <;> split <;> simp_all
  · exact lex_trans h1 h2
  · omega
  · omega

theorem before_asymm {a b : List Int} (h : before a b = true) : before b a = false := by
  cases h' : before b a with
  | false => rfl
  | true => exact absurd (before_trans h h') (by simp [before_irrefl])

theorem before_total {a b : List Int} (h1 : before a b = false) (h2 : before b a = false) : a = b := by
  unfold before at *
  by_cases hl : a.length = b.length
  · rw [if_pos hl] at h1; rw [if_pos hl.symm] at h2
    exact lex_total hl h1 h2
  · rw [if_neg hl] at h1; rw [if_neg (fun h => hl h.symm)] at h2
    simp at h1 h2; omega

theorem before_snoc {u v : List Int} {a b : Int} : before (u ++ [a]) (v ++ [b]) = (before u v || (decide (u = v) && decide (a < b))) := by
  unfold before
  by_cases hl : u.length = v.length
  · simp [hl, lex_snoc hl]
  · have : u ≠ v := fun h => hl (by rw [h])
    simp [hl, this]

/-- A strictly rising list of words. -/
def Rising (ws : List (List Int)) : Prop := ws.Pairwise fun a b => before a b = true

theorem Rising.lt {ws : List (List Int)} (h : Rising ws) {i j : Nat} (hij : i < j) (hj : j < ws.length) : before (ws[i]'(Nat.lt_trans hij hj)) ws[j] = true :=
  List.pairwise_iff_getElem.1 h i j (Nat.lt_trans hij hj) hj hij

theorem Rising.inj {ws : List (List Int)} (h : Rising ws) {i j : Nat} (hi : i < ws.length) (hj : j < ws.length) (he : ws[i] = ws[j]) : i = j := by
  rcases Nat.lt_trichotomy i j with h1 | h1 | h1
  · have := h.lt h1 hj; rw [he, before_irrefl] at this; cases this
  · exact h1
  · have := h.lt h1 hi; rw [he, before_irrefl] at this; cases this

end Short

/-  Plain law: the failure links of an automaton whose states stand for rising words.  -/
set_option autoImplicit false
namespace Auto
open AC Short

/-- The words of the states: parents stand ahead, the words rise. -/
structure Trie (ws : List (List Int)) (parent last : List Int) : Prop where
  pos : 0 < ws.length
  lp : parent.length = ws.length
  ll : last.length = ws.length
  root : ws[0]? = some []
  par : ∀ s, 1 ≤ s → s < ws.length → 0 ≤ parent.getD s 0 ∧ (parent.getD s 0).toNat < s
  word : ∀ s, 1 ≤ s → s < ws.length → ws.getD s [] = ws.getD (parent.getD s 0).toNat [] ++ [last.getD s 0]
  rise : Rising ws

/-- The state that an edge leads to from a state, among the first s states. -/
def arr (parent last : List Int) : Nat → Int → Int → Option Int
  | 0, _, _ => none
  | s + 1, p, e => if s ≠ 0 ∧ parent.getD s 0 = p ∧ last.getD s 0 = e then some s else arr parent last s p e

variable {ws : List (List Int)} {parent last : List Int}

theorem Trie.inj (T : Trie ws parent last) {i j : Nat} (hi : i < ws.length) (hj : j < ws.length) (he : ws.getD i [] = ws.getD j []) : i = j := by
  refine T.rise.inj hi hj ?_
  rw [List.getD_eq_getElem?_getD, List.getD_eq_getElem?_getD] at he
  simpa [hi, hj] using he

def isWord (ws : List (List Int)) (l : List Int) : Bool := ws.contains l

theorem isWord_iff {l : List Int} : isWord ws l = true ↔ l ∈ ws := by simp [isWord]

theorem mem_getD {s : Nat} (hs : s < ws.length) : ws.getD s [] ∈ ws := by
  rw [List.getD_eq_getElem?_getD]; simp [hs]

theorem Trie.closed (T : Trie ws parent last) : Closed (isWord ws) := by
  constructor
  · rw [isWord_iff]
    exact List.mem_of_getElem? T.root
  · intro u e h
    rw [isWord_iff] at h ⊢
    obtain ⟨s, hs, he⟩ := List.mem_iff_getElem.1 h
    have h0 : s ≠ 0 := by
      rintro rfl
      have := T.root
      rw [List.getElem?_eq_getElem hs, he] at this
      simp at this
    have hw := T.word s (by omega) hs
    have hg : ws.getD s [] = u ++ [e] := by rw [List.getD_eq_getElem?_getD]; simp [hs, he]
    rw [hg] at hw
    have ha := (List.append_inj' hw rfl).1
    have hpar := T.par s (by omega) hs
    rw [ha]
    exact mem_getD (by omega)

/-- What failure links are right up to state n: the state of the longest proper suffix. -/
def FailsTo (ws : List (List Int)) (out : List Int) (n : Nat) : Prop :=
  ∀ s, 1 ≤ s → s < n → ∃ f : Nat, out.getD s 0 = f ∧ f < s ∧ ws.getD f [] = LS (isWord ws) (ws.getD s []).tail

theorem Trie.ne_nil (T : Trie ws parent last) {s : Nat} (h0 : s ≠ 0) (hs : s < ws.length) : ws.getD s [] ≠ [] := by
  rw [T.word s (by omega) hs]; simp

theorem getD_snoc_lt {xs : List Int} {x : Int} {s : Nat} (h : s < xs.length) : (xs ++ [x]).getD s 0 = xs.getD s 0 := by
  simp [List.getD_eq_getElem?_getD, List.getElem?_append_left h]

theorem getD_snoc_eq {xs : List Int} {x : Int} {s : Nat} (h : s = xs.length) : (xs ++ [x]).getD s 0 = x := by
  subst h; simp [List.getD_eq_getElem?_getD]

theorem FailsTo.snoc {out : List Int} {s : Nat} (hl : out.length = s) (hF : FailsTo ws out s) {t : Nat} (ht : t < s) (hw : ws.getD t [] = LS (isWord ws) (ws.getD s []).tail) : FailsTo ws (out ++ [(t : Int)]) (s + 1) := by
  intro i h1 h2
  by_cases h : i < s
  · obtain ⟨f, hf, r⟩ := hF i h1 h
    exact ⟨f, by rw [getD_snoc_lt (by omega), hf], r⟩
  · obtain rfl : i = s := by omega
    exact ⟨t, by rw [getD_snoc_eq (by omega)], ht, hw⟩

end Auto
