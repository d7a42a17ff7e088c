/- The stable sort gives the order of the law's three loops: plain lists. -/
import Derived.Test.YtajkmlejklgbbaaAdj
namespace Go.Proofs.Ytajkmlejklgbbaa

/-- the order: by Last, then by First downwards -/
def lt (x y : Lst) : Prop := x.l < y.l ∨ (x.l = y.l ∧ y.f < x.f)
theorem cmpL_lt (x y : Lst) : cmpL x y < 0 ↔ lt x y := by
  unfold cmpL or2 cmpI lt
  split <;> split <;> (try split) <;> (try split) <;> omega
instance (x y : Lst) : Decidable (lt x y) := by unfold lt; exact inferInstance
def ins (P : List Lst) (x : Lst) : List Lst := P.filter (fun y => ¬ lt x y) ++ x :: P.filter (fun y => lt x y)
def Srtd (P : List Lst) : Prop := P.Pairwise fun a b => ¬ lt b a

theorem filter_none {P : List Lst} {p : Lst → Bool} (h : ∀ y ∈ P, p y = false) : P.filter p = [] := by
  rw [List.filter_eq_nil_iff]; intro y hy; simp [h y hy]
theorem filter_all {P : List Lst} {p : Lst → Bool} (h : ∀ y ∈ P, p y = true) : P.filter p = P := List.filter_eq_self.2 h

theorem bub_ins (n : Nat) : ∀ (P : List Lst) (x : Lst) (R : List Lst), P.length = n → Srtd P → bub P.length (P ++ x :: R) = ins P x ++ R := by
  induction n with
  | zero =>
    intro P x R h _
    obtain rfl := List.eq_nil_of_length_eq_zero h
    simp [bub, ins]
  | succ n ih =>
    intro P x R h hs
    obtain ⟨P', y, rfl⟩ : ∃ P' y, P = P' ++ [y] := ⟨P.dropLast, P.getLast (by intro e; simp [e] at h), (List.dropLast_concat_getLast _).symm⟩
    have hl : P'.length = n := by simpa using h
    have hs' : Srtd P' := (List.pairwise_append.1 hs).1
    have hle : ∀ z ∈ P', ¬ lt y z := fun z hz => (List.pairwise_append.1 hs).2.2 z hz y (by simp)
    have hx : (P' ++ [y] ++ x :: R)[n + 1]? = some x := by rw [← hl]; simp
    have hy : (P' ++ [y] ++ x :: R)[n]? = some y := by rw [← hl]; simp
    rw [h]
    by_cases hc : lt x y
    · rw [bub_yes hx hy ((cmpL_lt x y).2 hc)]
      have e : ((P' ++ [y] ++ x :: R).set (n + 1) y).set n x = P' ++ x :: (y :: R) := by
        rw [← hl]
        simp
      rw [e, ← hl, ih P' x (y :: R) hl hs']
      simp [ins, List.filter_append, hc]
    · rw [bub_no hx hy (fun h => hc ((cmpL_lt x y).1 h))]
      have h1 : ∀ z ∈ P' ++ [y], ¬ lt x z := by
        intro z hz
        rcases List.mem_append.1 hz with hz | hz
        · have := hle z hz
          unfold lt at *
          omega
        · simp at hz; subst hz; exact hc
      rw [ins, filter_all (fun z hz => by simp [h1 z hz]), filter_none (fun z hz => by simp [h1 z hz])]
      simp

theorem ins_srtd {P : List Lst} (h : Srtd P) (x : Lst) : Srtd (ins P x) := by
  unfold Srtd ins
  rw [List.pairwise_append]
  refine ⟨h.filter _, ?_, ?_⟩
  · rw [List.pairwise_cons]
    refine ⟨fun y hy => ?_, h.filter _⟩
    simp at hy
    have := hy.2
    unfold lt at *
    omega
  · intro a ha b hb
    simp at ha
    rcases List.mem_cons.1 hb with rfl | hb
    · exact ha.2
    · simp at hb
      have h1 := ha.2
      have h2 := hb.2
      unfold lt at *
      omega
theorem ins_length (P : List Lst) (x : Lst) : (ins P x).length = P.length + 1 := by
  have : (P.filter (fun y => ¬ lt x y)).length + (P.filter (fun y => lt x y)).length = P.length := by
    induction P with
    | nil => rfl
    | cons y P ih =>
      by_cases h : lt x y <;> simp [h] at * <;> omega
  simp only [ins, List.length_append, List.length_cons]
  omega

theorem srtN_ins (R : List Lst) : ∀ (P : List Lst), Srtd P → srtN R.length P.length (P ++ R) = R.foldl ins P := by
  induction R with
  | nil => intro P _; simp [srtN]
  | cons x R ih =>
    intro P h
    rw [List.length_cons, srtN, bub_ins _ P x R rfl h]
    have := ih (ins P x) (ins_srtd h x)
    rw [ins_length] at this
    rw [this, List.foldl_cons]
theorem srt_fold (L : List Lst) : srt L = L.foldl ins [] := by
  cases L with
  | nil => rfl
  | cons x R =>
    have := srtN_ins R [x] (by simp [Srtd])
    simpa [srt, ins] using this

def keyEq (a : Lst) (b : Lst) : Bool := a.l == b.l && a.f == b.f
theorem ins_key (P : List Lst) (x a : Lst) : (ins P x).filter (keyEq a) = P.filter (keyEq a) ++ [x].filter (keyEq a) := by
  unfold ins
  rw [List.filter_append, List.filter_cons]
  by_cases hk : keyEq a x = true
  · have e1 : (P.filter fun y => decide ¬ lt x y).filter (keyEq a) = P.filter (keyEq a) := by
      rw [List.filter_filter]
      refine List.filter_congr fun y _ => ?_
      simp only [keyEq, Bool.and_eq_true, beq_iff_eq] at hk
      by_cases hy : keyEq a y = true
      · rw [hy]
        simp only [keyEq, Bool.and_eq_true, beq_iff_eq] at hy
        have : ¬ lt x y := by unfold lt; omega
        simp [this]
      · simp [Bool.not_eq_true _ ▸ hy]
    have e2 : (P.filter fun y => decide (lt x y)).filter (keyEq a) = [] := by
      rw [List.filter_filter]
      refine filter_none fun y _ => ?_
      simp only [keyEq, Bool.and_eq_true, beq_iff_eq] at hk
      by_cases hy : keyEq a y = true
      · simp only [keyEq, Bool.and_eq_true, beq_iff_eq] at hy
        have : ¬ lt x y := by unfold lt; omega
        simp [this]
      · simp [hy]
    rw [e1, e2]
    simp [hk]
  · rw [if_neg hk]
    have e : ∀ y, (keyEq a y && decide (¬ lt x y)) = (keyEq a y && !decide (lt x y)) := fun y => by simp
    rw [List.filter_filter, List.filter_filter]
    simp only [e]
    have hk' : [x].filter (keyEq a) = [] := by simp [hk]
    rw [hk', List.append_nil]
    -- all elements of one key lie on one side of x
    simp only [keyEq, Bool.and_eq_true, beq_iff_eq] at hk
    by_cases hs : lt x a
    · rw [filter_none (p := fun y => keyEq a y && !decide (lt x y)), List.nil_append]
      · refine List.filter_congr fun y _ => ?_
        by_cases hy : keyEq a y = true
        · simp only [keyEq, Bool.and_eq_true, beq_iff_eq] at hy
          have : lt x y := by unfold lt at *; omega
          simp [this]
        · simp [hy]
      · intro y _
        by_cases hy : keyEq a y = true
        · simp only [keyEq, Bool.and_eq_true, beq_iff_eq] at hy
          have : lt x y := by unfold lt at *; omega
          simp [this]
        · simp [hy]
    · rw [filter_none (p := fun y => keyEq a y && decide (lt x y)), List.append_nil]
      · refine List.filter_congr fun y _ => ?_
        by_cases hy : keyEq a y = true
        · simp only [keyEq, Bool.and_eq_true, beq_iff_eq] at hy
          have : ¬ lt x y := by unfold lt at *; omega
          simp [this]
        · simp [hy]
      · intro y _
        by_cases hy : keyEq a y = true
        · simp only [keyEq, Bool.and_eq_true, beq_iff_eq] at hy
          have : ¬ lt x y := by unfold lt at *; omega
          simp [this]
        · simp [hy]
theorem fold_key (R : List Lst) (a : Lst) : ∀ P, (R.foldl ins P).filter (keyEq a) = P.filter (keyEq a) ++ R.filter (keyEq a) := by
  induction R with
  | nil => simp
  | cons x R ih => intro P; rw [List.foldl_cons, ih, ins_key, List.append_assoc, ← List.filter_append]; rfl
theorem fold_srtd (R : List Lst) : ∀ P, Srtd P → Srtd (R.foldl ins P) := by
  induction R with
  | nil => exact fun P h => h
  | cons x R ih => exact fun P h => ih _ (ins_srtd h x)

/-- sorted lists with the same elements of each key in the same order are equal -/
theorem srtd_unique : ∀ (A B : List Lst), Srtd A → Srtd B → (∀ a, A.filter (keyEq a) = B.filter (keyEq a)) → A = B := by
  intro A
  induction A with
  | nil =>
    intro B _ _ h
    cases B with
    | nil => rfl
    | cons b B =>
      have := h b
      simp [keyEq] at this
  | cons a A ih =>
    intro B hA hB h
    cases B with
    | nil =>
      have := h a
      simp [keyEq] at this
    | cons b B =>
      have hAc := List.pairwise_cons.1 hA
      have hBc := List.pairwise_cons.1 hB
      have hab : keyEq a b = true := by
        have hb : b ∈ a :: A := by
          have : b ∈ (b :: B).filter (keyEq b) := by simp [keyEq]
          rw [← h b] at this
          exact (List.mem_filter.1 this).1
        have ha : a ∈ b :: B := by
          have : a ∈ (a :: A).filter (keyEq a) := by simp [keyEq]
          rw [h a] at this
          exact (List.mem_filter.1 this).1
        have h1 : ¬ lt b a := by
          rcases List.mem_cons.1 hb with rfl | hb
          · unfold lt; omega
          · exact hAc.1 b hb
        have h2 : ¬ lt a b := by
          rcases List.mem_cons.1 ha with rfl | ha
          · unfold lt; omega
          · exact hBc.1 a ha
        unfold lt at h1 h2
        simp only [keyEq, Bool.and_eq_true, beq_iff_eq]
        omega
      have haa : keyEq a a = true := by simp [keyEq]
      have e := h a
      rw [List.filter_cons, List.filter_cons, if_pos haa, if_pos hab] at e
      injection e with e1 e2
      subst e1
      rw [ih B hAc.2 hBc.2 fun c => ?_]
      have hc := h c
      rw [List.filter_cons, List.filter_cons] at hc
      split at hc
      · injection hc
      · exact hc
theorem srt_unique {L B : List Lst} (hB : Srtd B) (h : ∀ a, B.filter (keyEq a) = L.filter (keyEq a)) : srt L = B := by
  rw [srt_fold]
  refine srtd_unique _ _ (fold_srtd L [] (by simp [Srtd])) hB fun a => ?_
  rw [fold_key, h a]
  rfl
/-- those of one First and one Last, in the list's order -/
def bkF (L : List Lst) (last first : Int) : List Lst := L.filter fun y => y.f == first && y.l == last
/-- those of one Last, the first j values of First, downwards from last - 1 -/
def bkL (L : List Lst) (last j : Nat) : List Lst := (List.range j).flatMap fun i : Nat => bkF L last ((last : Int) - 1 - (i : Int))
/-- all with Last below n -/
def bk (L : List Lst) (n : Nat) : List Lst := (List.range n).flatMap fun last => bkL L last last

theorem flatMap_range_one {α : Type} (g : Nat → List α) (k : Nat) : ∀ n, k < n → (∀ i, i < n → i ≠ k → g i = []) → (List.range n).flatMap g = g k := by
  intro n
  induction n with
  | zero => omega
  | succ n ih =>
    intro hk h
    rw [List.range_succ, List.flatMap_append]
    by_cases hkn : k = n
    · subst hkn
      have : (List.range k).flatMap g = [] := by
        rw [List.flatMap_eq_nil_iff]
        intro i hi
        have := List.mem_range.1 hi
        exact h i (by omega) (by omega)
      simp [this]
    · rw [ih (by omega) fun i hi hne => h i (by omega) hne]
      have := h n (by omega) (by omega)
      simp [this]
theorem flatMap_range_none {α : Type} (g : Nat → List α) (n : Nat) (h : ∀ i, i < n → g i = []) : (List.range n).flatMap g = [] := by
  rw [List.flatMap_eq_nil_iff]
  intro i hi
  exact h i (List.mem_range.1 hi)

theorem bkF_mem {L : List Lst} {last first : Int} {x : Lst} (h : x ∈ bkF L last first) : x ∈ L ∧ x.f = first ∧ x.l = last := by
  simp only [bkF, List.mem_filter, Bool.and_eq_true, beq_iff_eq] at h
  exact ⟨h.1, h.2.1, h.2.2⟩
theorem bkL_mem {L : List Lst} {last j : Nat} {x : Lst} (h : x ∈ bkL L last j) : x ∈ L ∧ x.l = last ∧ (last : Int) - j ≤ x.f ∧ x.f ≤ (last : Int) - 1 := by
  simp only [bkL, List.mem_flatMap, List.mem_range] at h
  obtain ⟨i, hi, hx⟩ := h
  have := bkF_mem hx
  exact ⟨this.1, this.2.2, by omega, by omega⟩
theorem bkL_srtd (L : List Lst) (last j : Nat) : Srtd (bkL L last j) := by
  unfold Srtd bkL
  rw [List.pairwise_flatMap]
  refine ⟨fun i _ => ?_, ?_⟩
  · refine List.Pairwise.imp_of_mem (R := fun _ _ => True) ?_ (List.pairwise_of_forall fun _ _ => trivial)
    intro a b ha hb _
    have h1 := bkF_mem ha
    have h2 := bkF_mem hb
    unfold lt
    omega
  · refine List.Pairwise.imp ?_ (List.pairwise_lt_range)
    intro i k hik a ha b hb
    have h1 := bkF_mem ha
    have h2 := bkF_mem hb
    unfold lt
    omega
theorem bk_srtd (L : List Lst) (n : Nat) : Srtd (bk L n) := by
  unfold Srtd bk
  rw [List.pairwise_flatMap]
  refine ⟨fun i _ => bkL_srtd L i i, ?_⟩
  refine List.Pairwise.imp ?_ (List.pairwise_lt_range)
  intro i k hik a ha b hb
  have h1 := bkL_mem ha
  have h2 := bkL_mem hb
  unfold lt
  omega
theorem bk_key (L : List Lst) (n : Nat) (hL : ∀ x ∈ L, 0 ≤ x.f ∧ x.f < x.l ∧ x.l < n) (a : Lst) : (bk L n).filter (keyEq a) = L.filter (keyEq a) := by
  by_cases hex : ∃ x ∈ L, keyEq a x = true
  · obtain ⟨x, hx, hk⟩ := hex
    simp only [keyEq, Bool.and_eq_true, beq_iff_eq] at hk
    obtain ⟨h0, h1, h2⟩ := hL x hx
    have hal : a.l.toNat < n := by omega
    unfold bk
    rw [List.filter_flatMap, flatMap_range_one _ a.l.toNat n hal]
    · unfold bkL
      rw [List.filter_flatMap, flatMap_range_one _ (a.l - 1 - a.f).toNat a.l.toNat (by omega)]
      · unfold bkF
        rw [List.filter_filter]
        refine List.filter_congr fun y _ => ?_
        simp only [keyEq]
        rw [Bool.eq_iff_iff]
        simp only [Bool.and_eq_true, beq_iff_eq]
        omega
      · intro i hi hne
        refine filter_none fun y hy => ?_
        have := bkF_mem hy
        simp only [keyEq, Bool.and_eq_false_iff, beq_eq_false_iff_ne]
        omega
    · intro i hi hne
      refine filter_none fun y hy => ?_
      have := bkL_mem hy
      simp only [keyEq, Bool.and_eq_false_iff, beq_eq_false_iff_ne]
      omega
  · have e1 : L.filter (keyEq a) = [] := filter_none fun y hy => by
      by_cases h : keyEq a y = true
      · exact absurd ⟨y, hy, h⟩ hex
      · simpa using h
    rw [e1]
    refine filter_none fun y hy => ?_
    by_cases h : keyEq a y = true
    · simp only [bk, List.mem_flatMap, List.mem_range] at hy
      obtain ⟨i, _, hy⟩ := hy
      exact absurd ⟨y, (bkL_mem hy).1, h⟩ hex
    · simpa using h
theorem srt_bk (L : List Lst) (n : Nat) (hL : ∀ x ∈ L, 0 ≤ x.f ∧ x.f < x.l ∧ x.l < n) : srt L = bk L n := srt_unique (bk_srtd L n) (bk_key L n hL)

theorem adjs_append (M M' : List Lst) (out : List Spr) : adjs (M ++ M') out = adjs M' (adjs M out) := List.foldl_append
theorem adj_same {out : List Spr} {x : Lst} {y : Spr} (hy : out[x.l.toNat - 1]? = some y) (h : x.d ≤ sumM ((out.drop x.f.toNat).take (x.l.toNat - x.f.toNat))) : adj out x = out := by
  unfold adj
  rw [hy]
  have hm : y.m + max 0 (x.d - sumM ((out.drop x.f.toNat).take (x.l.toNat - x.f.toNat))) = y.m := by omega
  simp only [hm]
  exact List.ext_getElem? fun i => by
    rw [List.getElem?_set]
    split
    · rename_i h; subst h
      split
      · rw [hy]
      · rename_i h; rw [List.getElem?_eq_none (by omega)] at hy; cases hy
    · rfl

end Go.Proofs.Ytajkmlejklgbbaa
