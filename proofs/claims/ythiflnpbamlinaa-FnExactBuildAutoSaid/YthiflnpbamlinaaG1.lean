/- A part of the proof: a calculus of our own over the model's code, and contracts of the program's functions. -/
/-  Plain law: longest suffixes that are words (no program in sight).  -/
namespace AC
variable {α : Type}

/-- The longest suffix of a list that p takes; [] if none does. -/
def LS (p : List α → Bool) : List α → List α
  | [] => []
  | a :: l => if p (a :: l) then a :: l else LS p l

theorem LS_suffix (p : List α → Bool) : ∀ l, LS p l <:+ l
  | [] => List.suffix_refl _
  | a :: l => by
    unfold LS
    split
    · exact List.suffix_refl _
    · exact (LS_suffix p l).trans (List.suffix_cons a l)

theorem LS_p {p : List α → Bool} (h : p [] = true) : ∀ l, p (LS p l) = true
  | [] => h
  | a :: l => by
    unfold LS
    split
    · assumption
    · exact LS_p h l

theorem LS_max {p : List α → Bool} : ∀ {l s : List α}, s <:+ l → p s = true → s <:+ LS p l
  | [], s, h, _ => by
    have : s = [] := by simpa using h
    subst this; exact List.suffix_refl _
  | a :: l, s, h, hp => by
    unfold LS
    split
    · exact h
    · rename_i hn
      rcases List.suffix_cons_iff.1 h with rfl | h
      · exact absurd hp hn
      · exact LS_max h hp

theorem suffix_antisymm {a b : List α} (h : a <:+ b) (h' : b <:+ a) : a = b :=
  h.eq_of_length (Nat.le_antisymm h.length_le h'.length_le)

theorem LS_unique {p : List α → Bool} (h0 : p [] = true) {l r : List α} (h : r <:+ l) (hp : p r = true) (hm : ∀ s, s <:+ l → p s = true → s <:+ r) : LS p l = r :=
  suffix_antisymm (hm _ (LS_suffix p l) (LS_p h0 l)) (LS_max h hp)

theorem LS_self {p : List α → Bool} {l : List α} (hp : p l = true) : LS p l = l := by
  cases l with
  | nil => rfl
  | cons a l => unfold LS; rw [if_pos hp]

theorem suffix_snoc {s x : List α} {e : α} (h : s <:+ x ++ [e]) : s = [] ∨ ∃ u, s = u ++ [e] ∧ u <:+ x := by
  rcases List.eq_nil_or_concat s with rfl | ⟨u, b, rfl⟩
  · exact .inl rfl
  · right
    obtain ⟨t, ht⟩ := h
    rw [List.concat_eq_append, ← List.append_assoc] at ht
    have := List.append_inj' ht rfl
    obtain ⟨h1, h2⟩ := this
    refine ⟨u, ?_, ⟨t, h1⟩⟩
    simpa using h2

theorem snoc_suffix {u x : List α} (e : α) (h : u <:+ x) : u ++ [e] <:+ x ++ [e] := by
  obtain ⟨t, rfl⟩ := h
  exact ⟨t, by simp⟩

/-- p is closed under taking the last letter off. -/
def Closed (p : List α → Bool) : Prop := p [] = true ∧ ∀ u e, p (u ++ [e]) = true → p u = true

theorem LS_LS {p : List α → Bool} (hc : Closed p) (x : List α) (e : α) : LS p (x ++ [e]) = LS p (LS p x ++ [e]) := by
  refine LS_unique hc.1 ((LS_suffix p _).trans (snoc_suffix e (LS_suffix p x))) (LS_p hc.1 _) fun s hs hp => ?_
  refine LS_max ?_ hp
  rcases suffix_snoc hs with rfl | ⟨u, rfl, hu⟩
  · exact List.nil_suffix
  · exact snoc_suffix e (LS_max hu (hc.2 u e hp))

/-- One link of the chain: w is a word; if w e is none, go on behind the longest proper suffix of w. -/
theorem LS_link {p : List α → Bool} (hc : Closed p) {a : α} {w : List α} {e : α} (hn : p (a :: w ++ [e]) = false) :
    LS p ((a :: w) ++ [e]) = LS p (LS p w ++ [e]) := by
  rw [← LS_LS hc]
  show LS p (a :: (w ++ [e])) = _
  unfold LS
  rw [if_neg (by simpa using hn)]
  cases h : w ++ [e] with
  | nil => simp at h
  | cons b t => rfl

end AC

/-  Plain law: the order of words (shorter first, then by the first difference).  -/
namespace Short

/-- Smaller at the first difference (of two lists of one length). -/
def lex : List Int → List Int → Bool
  | a :: ys, b :: bs => if a = b then lex ys bs else decide (a < b)
  | _, _ => false

def before (a b : List Int) : Bool := if a.length = b.length then lex a b else decide (a.length < b.length)

theorem lex_irrefl : ∀ a, lex a a = false
  | [] => rfl
  | a :: ys => by simp [lex, lex_irrefl ys]

theorem lex_trans : ∀ {a b c : List Int}, lex a b = true → lex b c = true → lex a c = true
  | a :: ys, b :: bs, c :: cs, h1, h2 => by
    unfold lex at h1 h2 ⊢
    split at h1 <;> split at h2 <;> split <;> simp_all
    · exact lex_trans h1 h2
    · omega
    · omega
  | [], _, _, h1, _ => by simp [lex] at h1
  | _ :: _, [], _, h1, _ => by simp [lex] at h1
  | _ :: _, _ :: _, [], _, h2 => by simp [lex] at h2

theorem lex_total : ∀ {a b : List Int}, a.length = b.length → lex a b = false → lex b a = false → a = b
  | [], [], _, _, _ => rfl
  | a :: ys, b :: bs, hl, h1, h2 => by
    unfold lex at h1 h2
    by_cases hab : a = b
    · subst hab
      simp at h1 h2
      rw [lex_total (by simpa using hl) h1 h2]
    · have hba : ¬ b = a := fun h => hab h.symm
      simp [hab, hba] at h1 h2
      omega
  | [], _ :: _, hl, _, _ => by simp at hl
  | _ :: _, [], hl, _, _ => by simp at hl

theorem lex_snoc : ∀ {u v : List Int} {a b : Int}, u.length = v.length → lex (u ++ [a]) (v ++ [b]) = (lex u v || (decide (u = v) && decide (a < b)))
  | [], [], a, b, _ => by
    by_cases h : a = b
    · subst h; simp [lex]
    · simp [lex, h]
  | x :: u, y :: v, a, b, hl => by
    have hl' : u.length = v.length := by simpa using hl
    by_cases h : x = y
    · subst h; simp [lex, lex_snoc hl']
    · simp [lex, h]
  | [], _ :: _, _, _, hl => by simp at hl
  | _ :: _, [], _, _, hl => by simp at hl

theorem before_irrefl (a : List Int) : before a a = false := by simp [before, lex_irrefl]

theorem before_trans {a b c : List Int} (h1 : before a b = true) (h2 : before b c = true) : before a c = true := by
  unfold before at *
  split at h1 <;> split at h2 <;> split <;> simp_all
  · exact lex_trans h1 h2
  · omega
  · omega

theorem before_asymm {a b : List Int} (h : before a b = true) : before b a = false := by
  cases h' : before b a with
  | false => rfl
  | true => exact absurd (before_trans h h') (by simp [before_irrefl])

theorem before_total {a b : List Int} (h1 : before a b = false) (h2 : before b a = false) : a = b := by
  unfold before at *
  by_cases hl : a.length = b.length
  · rw [if_pos hl] at h1; rw [if_pos hl.symm] at h2
    exact lex_total hl h1 h2
  · rw [if_neg hl] at h1; rw [if_neg (fun h => hl h.symm)] at h2
    simp at h1 h2; omega

theorem before_snoc {u v : List Int} {a b : Int} : before (u ++ [a]) (v ++ [b]) = (before u v || (decide (u = v) && decide (a < b))) := by
  unfold before
  by_cases hl : u.length = v.length
  · simp [hl, lex_snoc hl]
  · have : u ≠ v := fun h => hl (by rw [h])
    simp [hl, this]

theorem before_nil (a : List Int) (x : Int) : before [] (a ++ [x]) = true := by
  simp [before]

/-- A strictly rising list of words. -/
def Rising (ws : List (List Int)) : Prop := ws.Pairwise fun a b => before a b = true

theorem Rising.lt {ws : List (List Int)} (h : Rising ws) {i j : Nat} (hij : i < j) (hj : j < ws.length) : before (ws[i]'(Nat.lt_trans hij hj)) ws[j] = true :=
  List.pairwise_iff_getElem.1 h i j (Nat.lt_trans hij hj) hj hij

theorem Rising.iff {ws : List (List Int)} (h : Rising ws) {i j : Nat} (hi : i < ws.length) (hj : j < ws.length) : before ws[i] ws[j] = true ↔ i < j := by
  constructor
  · intro hb
    rcases Nat.lt_trichotomy i j with h1 | h1 | h1
    · exact h1
    · subst h1; simp [before_irrefl] at hb
    · have := before_asymm (h.lt h1 hi)
      rw [hb] at this; cases this
  · intro h1; exact h.lt h1 hj

theorem Rising.inj {ws : List (List Int)} (h : Rising ws) {i j : Nat} (hi : i < ws.length) (hj : j < ws.length) (he : ws[i] = ws[j]) : i = j := by
  rcases Nat.lt_trichotomy i j with h1 | h1 | h1
  · have := h.lt h1 hj; rw [he, before_irrefl] at this; cases this
  · exact h1
  · have := h.lt h1 hi; rw [he, before_irrefl] at this; cases this

end Short

/-  Plain law: the failure links of an automaton whose states stand for rising words.  -/
set_option autoImplicit false
namespace Auto
open AC Short

/-- The words of the states: parents stand ahead, the words rise. -/
structure Trie (ws : List (List Int)) (parent last : List Int) : Prop where
  pos : 0 < ws.length
  lp : parent.length = ws.length
  ll : last.length = ws.length
  root : ws[0]? = some []
  par : ∀ s, 1 ≤ s → s < ws.length → 0 ≤ parent.getD s 0 ∧ (parent.getD s 0).toNat < s
  word : ∀ s, 1 ≤ s → s < ws.length → ws.getD s [] = ws.getD (parent.getD s 0).toNat [] ++ [last.getD s 0]
  rise : Rising ws

/-- The state that an edge leads to from a state, among the first s states. -/
def arr (parent last : List Int) : Nat → Int → Int → Option Int
  | 0, _, _ => none
  | s + 1, p, e => if s ≠ 0 ∧ parent.getD s 0 = p ∧ last.getD s 0 = e then some s else arr parent last s p e

variable {ws : List (List Int)} {parent last : List Int}

theorem Trie.inj (T : Trie ws parent last) {i j : Nat} (hi : i < ws.length) (hj : j < ws.length) (he : ws.getD i [] = ws.getD j []) : i = j := by
  refine T.rise.inj hi hj ?_
  rw [List.getD_eq_getElem?_getD, List.getD_eq_getElem?_getD] at he
  simpa [hi, hj] using he

theorem arr_some (parent last : List Int) : ∀ {n : Nat} {p e t : Int}, arr parent last n p e = some t → ∃ s : Nat, t = s ∧ s < n ∧ s ≠ 0 ∧ parent.getD s 0 = p ∧ last.getD s 0 = e
  | 0, _, _, _, h => by simp [arr] at h
  | n + 1, p, e, t, h => by
    unfold arr at h
    split at h
    · rename_i hc
      exact ⟨n, by simpa using h.symm, by omega, hc.1, hc.2.1, hc.2.2⟩
    · obtain ⟨s, h1, h2, h3⟩ := arr_some parent last h
      exact ⟨s, h1, by omega, h3⟩

theorem arr_none (parent last : List Int) : ∀ {n : Nat} {p e : Int}, arr parent last n p e = none → ∀ s, s < n → s ≠ 0 → parent.getD s 0 = p → last.getD s 0 ≠ e
  | 0, _, _, _, s, hs, _, _ => by omega
  | n + 1, p, e, h, s, hs, h0, hp => by
    unfold arr at h
    split at h
    · cases h
    · rename_i hc
      by_cases hsn : s = n
      · subst hsn
        intro he
        exact hc ⟨h0, hp, he⟩
      · exact arr_none parent last h s (by omega) h0 hp

/-- Among all states: where the edge leads is the state of the longer word. -/
theorem Trie.arr_word (T : Trie ws parent last) {p : Nat} {e t : Int} (h : arr parent last ws.length p e = some t) :
    ∃ s : Nat, t = s ∧ s < ws.length ∧ p < s ∧ ws.getD s [] = ws.getD p [] ++ [e] := by
  obtain ⟨s, h1, h2, h3, h4, h5⟩ := arr_some parent last h
  have hw := T.word s (by omega) h2
  have hpar := T.par s (by omega) h2
  rw [h4] at hpar hw
  exact ⟨s, h1, h2, by simpa using hpar.2, by rw [hw, h5]; simp⟩

theorem Trie.arr_not (T : Trie ws parent last) {p : Nat} (hp : p < ws.length) {e : Int} (h : arr parent last ws.length p e = none) : ws.getD p [] ++ [e] ∉ ws := by
  intro hm
  obtain ⟨s, hs, he⟩ := List.mem_iff_getElem.1 hm
  have h0 : s ≠ 0 := by
    rintro rfl
    have := T.root
    rw [List.getElem?_eq_getElem hs, he] at this
    simp at this
  have hw := T.word s (by omega) hs
  have hg : ws.getD s [] = ws.getD p [] ++ [e] := by rw [List.getD_eq_getElem?_getD]; simp [hs, he]
  rw [hg] at hw
  have ha := List.append_inj' hw rfl
  have hpar := T.par s (by omega) hs
  have hpp : p = (parent.getD s 0).toNat := T.inj hp (by omega) ha.1
  refine arr_none parent last h s hs h0 (by omega) ?_
  simpa using ha.2.symm

def isWord (ws : List (List Int)) (l : List Int) : Bool := ws.contains l

theorem isWord_iff {l : List Int} : isWord ws l = true ↔ l ∈ ws := by simp [isWord]

theorem mem_getD {s : Nat} (hs : s < ws.length) : ws.getD s [] ∈ ws := by
  rw [List.getD_eq_getElem?_getD]; simp [hs]

theorem Trie.closed (T : Trie ws parent last) : Closed (isWord ws) := by
  constructor
  · rw [isWord_iff]
    exact List.mem_of_getElem? T.root
  · intro u e h
    rw [isWord_iff] at h ⊢
    obtain ⟨s, hs, he⟩ := List.mem_iff_getElem.1 h
    have h0 : s ≠ 0 := by
      rintro rfl
      have := T.root
      rw [List.getElem?_eq_getElem hs, he] at this
      simp at this
    have hw := T.word s (by omega) hs
    have hg : ws.getD s [] = u ++ [e] := by rw [List.getD_eq_getElem?_getD]; simp [hs, he]
    rw [hg] at hw
    have ha := (List.append_inj' hw rfl).1
    have hpar := T.par s (by omega) hs
    rw [ha]
    exact mem_getD (by omega)

/-- What failure links are right up to state n: the state of the longest proper suffix. -/
def FailsTo (ws : List (List Int)) (out : List Int) (n : Nat) : Prop :=
  ∀ s, 1 ≤ s → s < n → ∃ f : Nat, out.getD s 0 = f ∧ f < s ∧ ws.getD f [] = LS (isWord ws) (ws.getD s []).tail

theorem Trie.ne_nil (T : Trie ws parent last) {s : Nat} (h0 : s ≠ 0) (hs : s < ws.length) : ws.getD s [] ≠ [] := by
  rw [T.word s (by omega) hs]; simp

theorem LS_length (p : List Int → Bool) (l : List Int) : (LS p l).length ≤ l.length := (LS_suffix p l).length_le

end Auto

/- Plain law: words in rising order are what a search in breadth gives. No program is named here. -/
namespace Cal
open Short
def parR (w : List Int) : List Int := w.take (w.length - 1)
def PC (ws : List (List Int)) : Prop := [] ∈ ws ∧ ∀ w ∈ ws, w.take (w.length - 1) ∈ ws
theorem snoc_parR {w : List Int} (h : w ≠ []) : ∃ a, w = parR w ++ [a] := by
  refine ⟨w.getLast h, ?_⟩
  have := List.dropLast_concat_getLast h
  rw [List.dropLast_eq_take] at this
  exact this.symm
theorem parR_snoc (w : List Int) (a : Int) : parR (w ++ [a]) = w := by simp [parR]
theorem rising_ext : ∀ {a b : List (List Int)}, Rising a → Rising b → (∀ x, x ∈ a ↔ x ∈ b) → a = b
  | [], [], _, _, _ => rfl
  | [], y :: b, _, _, h => by have := (h y).2 (by simp); cases this
  | x :: a, [], _, _, h => by have := (h x).1 (by simp); cases this
  | x :: a, y :: b, ha, hb, h => by
    unfold Rising at ha hb
    rw [List.pairwise_cons] at ha hb
    have e : x = y := by
      rcases List.mem_cons.1 ((h x).1 (by simp)) with e | hx
      · exact e
      · rcases List.mem_cons.1 ((h y).2 (by simp)) with e | hy
        · exact e.symm
        · have h1 := hb.1 x hx
          have h2 := ha.1 y hy
          have := before_asymm h1
          rw [h2] at this
          cases this
    subst e
    congr 1
    refine rising_ext ha.2 hb.2 fun z => ?_
    constructor
    · intro hz
      rcases List.mem_cons.1 ((h z).1 (List.mem_cons_of_mem _ hz)) with rfl | hz'
      · have := ha.1 z hz
        rw [before_irrefl] at this
        cases this
      · exact hz'
    · intro hz
      rcases List.mem_cons.1 ((h z).2 (List.mem_cons_of_mem _ hz)) with rfl | hz'
      · have := hb.1 z hz
        rw [before_irrefl] at this
        cases this
      · exact hz'
def kidW (ws : List (List Int)) (w : List Int) : List (List Int) := ws.filter fun x => decide (x ≠ [] ∧ parR x = w)
theorem mem_kidW {ws : List (List Int)} {w x : List Int} : x ∈ kidW ws w ↔ x ∈ ws ∧ x ≠ [] ∧ parR x = w := by
  unfold kidW
  rw [List.mem_filter]
  simp
def bfs (ws : List (List Int)) : Nat → List (List Int)
  | 0 => [[]]
  | i + 1 => bfs ws i ++ kidW ws (ws.getD i [])
theorem mem_bfs {ws : List (List Int)} {x : List Int} : ∀ {i : Nat}, x ∈ bfs ws i ↔ x = [] ∨ (x ∈ ws ∧ x ≠ [] ∧ ∃ k, k < i ∧ ws.getD k [] = parR x)
  | 0 => by simp [bfs]
  | i + 1 => by
    unfold bfs
    rw [List.mem_append, mem_bfs (i := i), mem_kidW]
    constructor
    · rintro ((h | ⟨h1, h2, k, h3, h4⟩) | ⟨h1, h2, h3⟩)
      · exact .inl h
      · exact .inr ⟨h1, h2, k, by omega, h4⟩
      · exact .inr ⟨h1, h2, i, by omega, h3.symm⟩
    · rintro (h | ⟨h1, h2, k, h3, h4⟩)
      · exact .inl (.inl h)
      · by_cases e : k = i
        · subst e
          exact .inr ⟨h1, h2, h4.symm⟩
        · exact .inl (.inr ⟨h1, h2, k, by omega, h4⟩)
theorem before_kids {u v x y : List Int} (hx : x ≠ []) (hy : y ≠ []) (ex : parR x = u) (ey : parR y = v) (h : before u v = true) : before x y = true := by
  obtain ⟨a, ea⟩ := snoc_parR hx
  obtain ⟨b, eb⟩ := snoc_parR hy
  rw [ea, eb, before_snoc, ex, ey, h]
  rfl
theorem bfs_rise {ws : List (List Int)} (hr : Rising ws) : ∀ {i : Nat}, i ≤ ws.length → Rising (bfs ws i)
  | 0, _ => by simp [bfs, Rising]
  | i + 1, hi => by
    have ih := bfs_rise hr (i := i) (by omega)
    unfold bfs Rising
    rw [List.pairwise_append]
    refine ⟨ih, List.Pairwise.filter _ hr, fun x hx y hy => ?_⟩
    obtain ⟨h1, h2, h3⟩ := mem_kidW.1 hy
    rcases mem_bfs.1 hx with rfl | ⟨g1, g2, k, g3, g4⟩
    · obtain ⟨b, eb⟩ := snoc_parR h2
      rw [eb]
      exact before_nil _ _
    · refine before_kids g2 h2 g4.symm h3 ?_
      rw [List.getD_eq_getElem?_getD, List.getD_eq_getElem?_getD, List.getElem?_eq_getElem (by omega), List.getElem?_eq_getElem (by omega)]
      exact hr.lt g3 (by omega)
theorem bfs_full {ws : List (List Int)} (hr : Rising ws) (hp : PC ws) : bfs ws ws.length = ws := by
  refine rising_ext (bfs_rise hr (Nat.le_refl _)) hr fun x => ?_
  rw [mem_bfs]
  constructor
  · rintro (rfl | h)
    · exact hp.1
    · exact h.1
  · intro hx
    by_cases h0 : x = []
    · exact .inl h0
    · refine .inr ⟨hx, h0, ?_⟩
      obtain ⟨k, hk, e⟩ := List.mem_iff_getElem.1 (hp.2 x hx)
      refine ⟨k, hk, ?_⟩
      rw [List.getD_eq_getElem?_getD, List.getElem?_eq_getElem hk]
      exact e
theorem bfs_pre {ws : List (List Int)} (i : Nat) : ∀ j, bfs ws i <+: bfs ws (i + j)
  | 0 => List.prefix_refl _
  | j + 1 => (bfs_pre i j).trans (List.prefix_append _ _)
theorem bfs_pre' {ws : List (List Int)} (hr : Rising ws) (hp : PC ws) {i : Nat} (hi : i ≤ ws.length) : bfs ws i <+: ws := by
  have := bfs_pre (ws := ws) i (ws.length - i)
  rw [show i + (ws.length - i) = ws.length by omega, bfs_full hr hp] at this
  exact this
theorem bfs_take {ws : List (List Int)} (hr : Rising ws) (hp : PC ws) {i : Nat} (hi : i ≤ ws.length) : bfs ws i = ws.take (bfs ws i).length := List.prefix_iff_eq_take.1 (bfs_pre' hr hp hi)
theorem bfs_le {ws : List (List Int)} (hr : Rising ws) (hp : PC ws) {i : Nat} (hi : i ≤ ws.length) : (bfs ws i).length ≤ ws.length := (bfs_pre' hr hp hi).length_le
theorem bfs_lt {ws : List (List Int)} (hr : Rising ws) (hp : PC ws) {i : Nat} (hi : i < ws.length) : i < (bfs ws i).length := by
  have hm : ws[i] ∈ bfs ws i := by
    rw [mem_bfs]
    by_cases h0 : ws[i] = []
    · exact .inl h0
    · refine .inr ⟨List.getElem_mem _, h0, ?_⟩
      obtain ⟨k, hk, e⟩ := List.mem_iff_getElem.1 (hp.2 ws[i] (List.getElem_mem _))
      refine ⟨k, ?_, by rw [List.getD_eq_getElem?_getD, List.getElem?_eq_getElem hk]; exact e⟩
      apply (hr.iff hk hi).1
      rw [e]
      unfold before
      have hl : ws[i].length ≠ 0 := fun e => h0 (List.eq_nil_of_length_eq_zero e)
      rw [List.length_take, if_neg (by omega)]
      simp
      omega
  rw [bfs_take hr hp (by omega)] at hm
  obtain ⟨k, hk, e⟩ := List.mem_iff_getElem.1 hm
  rw [List.length_take] at hk
  rw [List.getElem_take] at e
  have := hr.inj (by omega) hi e
  omega
theorem bfs_get {ws : List (List Int)} (hr : Rising ws) (hp : PC ws) {i k : Nat} (hi : i ≤ ws.length) (hk : k < (bfs ws i).length) : (bfs ws i).getD k [] = ws.getD k [] := by
  rw [List.getD_eq_getElem?_getD, List.getD_eq_getElem?_getD, bfs_take hr hp hi, List.getElem?_take, if_pos hk]
end Cal

/- Plain law: the nodes of a trie, by their words, in the order in which they were made. No program is named here. -/
namespace Cal
open Short
def lastL (w : List Int) : Int := w.getD (w.length - 1) 0
theorem lastL_snoc (w : List Int) (a : Int) : lastL (w ++ [a]) = a := by
  unfold lastL
  rw [List.length_append, List.length_singleton, Nat.add_sub_cancel, List.getD_eq_getElem?_getD, List.getElem?_append_right (Nat.le_refl _), Nat.sub_self]
  rfl
theorem snoc_lastL {w : List Int} (h : w ≠ []) : w = parR w ++ [lastL w] := by
  obtain ⟨a, e⟩ := snoc_parR h
  have : lastL w = a := by rw [e, lastL_snoc]
  rw [this]
  exact e
def gw (us : List (List Int)) (j : Nat) : List Int := us.getD j []
theorem gw_get {us : List (List Int)} {j : Nat} (h : j < us.length) : gw us j = us[j] := by
  unfold gw
  rw [List.getD_eq_getElem?_getD, List.getElem?_eq_getElem h]
  rfl
theorem gw_mem {us : List (List Int)} {j : Nat} (h : j < us.length) : gw us j ∈ us := by rw [gw_get h]; exact List.getElem_mem h
theorem gw_old {us : List (List Int)} {w : List Int} {j : Nat} (h : j < us.length) : gw (us ++ [w]) j = gw us j := by
  unfold gw
  rw [List.getD_eq_getElem?_getD, List.getD_eq_getElem?_getD, List.getElem?_append_left h]
theorem gw_new (us : List (List Int)) (w : List Int) : gw (us ++ [w]) us.length = w := by
  unfold gw
  rw [List.getD_eq_getElem?_getD, List.getElem?_append_right (Nat.le_refl _), Nat.sub_self]
  rfl
/-- At which place a word stands. -/
def ix : List (List Int) → List Int → Nat
  | [], _ => 0
  | x :: us, w => if x = w then 0 else ix us w + 1
theorem ix_lt : ∀ {us : List (List Int)} {w : List Int}, w ∈ us → ix us w < us.length ∧ gw us (ix us w) = w
  | [], w, h => by cases h
  | x :: us, w, h => by
    unfold ix
    by_cases e : x = w
    · subst e
      simp [gw]
    · rw [if_neg e]
      have := ix_lt (us := us) (w := w) (by rcases List.mem_cons.1 h with h | h; exact absurd h.symm e; exact h)
      unfold gw at *
      simp only [List.length_cons, List.getD_cons_succ]
      exact ⟨by omega, this.2⟩
theorem ix_app : ∀ {us : List (List Int)} {w : List Int} (vs : List (List Int)), w ∈ us → ix (us ++ vs) w = ix us w
  | [], w, _, h => by cases h
  | x :: us, w, vs, h => by
    rw [List.cons_append]
    unfold ix
    by_cases e : x = w
    · rw [if_pos e, if_pos e]
    · rw [if_neg e, if_neg e, ix_app vs (by rcases List.mem_cons.1 h with h | h; exact absurd h.symm e; exact h)]
theorem gw_inj {us : List (List Int)} (hn : us.Nodup) {i j : Nat} (hi : i < us.length) (hj : j < us.length) (e : gw us i = gw us j) : i = j := by
  rw [gw_get hi, gw_get hj] at e
  have hp := List.pairwise_iff_getElem.1 hn
  rcases Nat.lt_trichotomy i j with h | h | h
  · exact absurd e (hp i j hi hj h)
  · exact h
  · exact absurd e.symm (hp j i hj hi h)
theorem ix_gw {us : List (List Int)} (hn : us.Nodup) {i : Nat} (hi : i < us.length) : ix us (gw us i) = i := by
  obtain ⟨h1, h2⟩ := ix_lt (gw_mem hi)
  exact gw_inj hn h1 hi h2
theorem ix_new {us : List (List Int)} {w : List Int} (h : w ∉ us) : ix (us ++ [w]) w = us.length := by
  induction us with
  | nil => simp [ix]
  | cons x us ih =>
    rw [List.cons_append]
    unfold ix
    rw [if_neg (fun e => h (by simp [e])), ih (fun hm => h (by simp [hm]))]
    rfl
/-- The kids of a node: their edges and numbers, in the order in which they were made. -/
def kidN (us : List (List Int)) (w : List Int) : List (Int × Nat) := (List.range us.length).filterMap fun j => if gw us j ≠ [] ∧ parR (gw us j) = w then some (lastL (gw us j), j) else none
theorem mem_kidN {us : List (List Int)} (hn : us.Nodup) {w : List Int} {e : Int} {j : Nat} : (e, j) ∈ kidN us w ↔ w ++ [e] ∈ us ∧ j = ix us (w ++ [e]) := by
  unfold kidN
  rw [List.mem_filterMap]
  constructor
  · rintro ⟨k, hk, h⟩
    rw [List.mem_range] at hk
    split at h
    · rename_i hc
      cases h
      have := snoc_lastL hc.1
      rw [hc.2] at this
      rw [← this]
      exact ⟨gw_mem hk, (ix_gw hn hk).symm⟩
    · cases h
  · rintro ⟨h1, rfl⟩
    obtain ⟨h2, h3⟩ := ix_lt h1
    refine ⟨ix us (w ++ [e]), List.mem_range.2 h2, ?_⟩
    rw [h3, if_pos ⟨by simp, parR_snoc _ _⟩, lastL_snoc]
theorem kidN_keys {us : List (List Int)} (hn : us.Nodup) (w : List Int) : ((kidN us w).map (·.1)).Nodup := by
  unfold kidN List.Nodup
  rw [List.pairwise_map, List.pairwise_filterMap]
  refine List.Pairwise.imp_of_mem ?_ (List.pairwise_lt_range (n := us.length))
  intro a b ha hb hab x hx y hy e
  rw [List.mem_range] at ha hb
  split at hx
  · rename_i h1
    split at hy
    · rename_i h2
      cases hx
      cases hy
      simp only at e
      have e1 := snoc_lastL h1.1
      have e2 := snoc_lastL h2.1
      rw [h1.2, e] at e1
      rw [h2.2] at e2
      have := gw_inj hn ha hb (e1.trans e2.symm)
      omega
    · cases hy
  · cases hx
theorem filterMap_eq {α β : Type} {f g : α → Option β} : ∀ {l : List α}, (∀ x ∈ l, f x = g x) → l.filterMap f = l.filterMap g
  | [], _ => rfl
  | x :: l, h => by
    rw [List.filterMap_cons, List.filterMap_cons, h x (by simp), filterMap_eq fun y hy => h y (by simp [hy])]
theorem kidN_add {us : List (List Int)} {v : List Int} (e : Int) {w : List Int} : kidN (us ++ [v ++ [e]]) w = kidN us w ++ (if v = w then [(e, us.length)] else []) := by
  unfold kidN
  rw [List.length_append, List.length_singleton, List.range_succ, List.filterMap_append]
  congr 1
  · refine filterMap_eq fun j hj => ?_
    rw [List.mem_range] at hj
    rw [gw_old hj]
  · rw [List.filterMap_cons, gw_new, List.filterMap_nil, parR_snoc, lastL_snoc]
    by_cases h : v = w
    · simp [h]
    · simp [h]
theorem kidN_leaf {us : List (List Int)} (hp : PC us) {w : List Int} (hw : w ∉ us) : kidN us w = [] := by
  unfold kidN
  rw [List.filterMap_eq_nil_iff]
  intro j hj
  rw [List.mem_range] at hj
  rw [if_neg]
  rintro ⟨h1, h2⟩
  apply hw
  rw [← h2]
  exact hp.2 _ (gw_mem hj)
/-- The same words. -/
def SameW (us ws : List (List Int)) : Prop := us.Nodup ∧ ∀ w, w ∈ us ↔ w ∈ ws
theorem rising_nodup {ws : List (List Int)} (h : Rising ws) : ws.Nodup := by
  refine List.Pairwise.imp (fun {a b} hab => ?_) h
  rintro rfl
  rw [before_irrefl] at hab
  cases hab
theorem SameW.len {us ws : List (List Int)} (h : SameW us ws) (hr : Rising ws) : us.length = ws.length := ((List.perm_ext_iff_of_nodup h.1 (rising_nodup hr)).2 h.2).length_eq
/-- The kids in rising order. -/
theorem sorted_ext : ∀ {a b : List Int}, a.Pairwise (fun x y => x < y) → b.Pairwise (fun x y => x < y) → (∀ x, x ∈ a ↔ x ∈ b) → a = b
  | [], [], _, _, _ => rfl
  | [], y :: b, _, _, h => by have := (h y).2 (by simp); cases this
  | x :: a, [], _, _, h => by have := (h x).1 (by simp); cases this
  | x :: a, y :: b, ha, hb, h => by
    rw [List.pairwise_cons] at ha hb
    have e : x = y := by
      rcases List.mem_cons.1 ((h x).1 (by simp)) with e | hx
      · exact e
      · rcases List.mem_cons.1 ((h y).2 (by simp)) with e | hy
        · exact e.symm
        · have h1 := hb.1 x hx
          have h2 := ha.1 y hy
          omega
    subst e
    congr 1
    refine sorted_ext ha.2 hb.2 fun z => ?_
    constructor
    · intro hz
      rcases List.mem_cons.1 ((h z).1 (List.mem_cons_of_mem _ hz)) with rfl | hz'
      · have := ha.1 z hz
        omega
      · exact hz'
    · intro hz
      rcases List.mem_cons.1 ((h z).2 (List.mem_cons_of_mem _ hz)) with rfl | hz'
      · have := hb.1 z hz
        omega
      · exact hz'
theorem sort_keys {us ws : List (List Int)} (h : SameW us ws) (hr : Rising ws) {w : List Int} {es : List Int} (hp : es.Perm ((kidN us w).map (·.1))) : es.mergeSort (fun x y => decide (x ≤ y)) = (kidW ws w).map lastL := by
  have hs : (es.mergeSort (fun x y => decide (x ≤ y))).Pairwise fun x y => (decide (x ≤ y)) = true := List.pairwise_mergeSort (fun a b c h1 h2 => by simp at *; omega) (fun a b => by simp; omega) es
  have hq : (es.mergeSort (fun x y => decide (x ≤ y))).Perm ((kidN us w).map (·.1)) := (List.mergeSort_perm es _).trans hp
  have hn : (es.mergeSort (fun x y => decide (x ≤ y))).Nodup := hq.nodup_iff.2 (kidN_keys h.1 w)
  refine sorted_ext ?_ ?_ fun x => ?_
  · refine List.Pairwise.imp₂ (fun {a b} h1 h2 => ?_) hs hn
    simp at h1
    omega
  · rw [List.pairwise_map]
    unfold kidW
    refine List.Pairwise.imp_of_mem ?_ (List.Pairwise.filter _ hr)
    intro a b ha hb hab
    rw [List.mem_filter] at ha hb
    simp only [decide_eq_true_eq] at ha hb
    have e1 := snoc_lastL ha.2.1
    have e2 := snoc_lastL hb.2.1
    rw [ha.2.2] at e1
    rw [hb.2.2] at e2
    rw [e1, e2, before_snoc, before_irrefl] at hab
    simpa using hab
  · rw [hq.mem_iff, List.mem_map, List.mem_map]
    constructor
    · rintro ⟨⟨e, j⟩, hm, rfl⟩
      obtain ⟨h1, h2⟩ := (mem_kidN h.1).1 hm
      exact ⟨w ++ [e], mem_kidW.2 ⟨(h.2 _).1 h1, by simp, parR_snoc _ _⟩, lastL_snoc _ _⟩
    · rintro ⟨y, hy, rfl⟩
      obtain ⟨h1, h2, h3⟩ := mem_kidW.1 hy
      have := snoc_lastL h2
      rw [h3] at this
      exact ⟨(lastL y, ix us (w ++ [lastL y])), (mem_kidN h.1).2 ⟨by rw [← this]; exact (h.2 _).2 h1, rfl⟩, rfl⟩
end Cal
