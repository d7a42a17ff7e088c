/- SpacingPlaces, the plain law: the springs keep each least distance, and so do the lengths that fill a width. -/
import Derived.Test.YtajkmlejklgbbaaPlace
import Derived.Test.YtajkmlejklgbbaaSprLaw
namespace Go.Proofs.Ytajkmlejklgbbaa
open Go.RowKit

/-- the same springs, none of them shorter -/
structure Sub (a b : List Spr) : Prop where
  len : a.length = b.length
  le : ∀ (i : Nat) (s : Spr), a[i]? = some s → ∃ t, b[i]? = some t ∧ s.m ≤ t.m
theorem Sub.rfl_ (a : List Spr) : Sub a a := ⟨rfl, fun _ s h => ⟨s, h, Int.le_refl _⟩⟩
theorem Sub.trans {a b c : List Spr} (h : Sub a b) (k : Sub b c) : Sub a c :=
  ⟨h.len.trans k.len, fun i s hs => by
    obtain ⟨t, ht, h1⟩ := h.le i s hs
    obtain ⟨u, hu, h2⟩ := k.le i t ht
    exact ⟨u, hu, Int.le_trans h1 h2⟩⟩
theorem Sub.take {a b : List Spr} (h : Sub a b) (k : Nat) : Sub (a.take k) (b.take k) :=
  ⟨by rw [List.length_take, List.length_take, h.len], fun i s hs => by
    rw [List.getElem?_take] at hs ⊢
    split at hs
    · rename_i hi; rw [if_pos hi]; exact h.le i s hs
    · cases hs⟩
theorem Sub.drop {a b : List Spr} (h : Sub a b) (k : Nat) : Sub (a.drop k) (b.drop k) :=
  ⟨by rw [List.length_drop, List.length_drop, h.len], fun i s hs => by
    rw [List.getElem?_drop] at hs ⊢
    exact h.le _ s hs⟩
theorem Sub.sum : ∀ {a b : List Spr}, Sub a b → sumM a ≤ sumM b
  | [], [], _ => Int.le_refl _
  | [], _ :: _, h => by have := h.len; simp at this
  | _ :: _, [], h => by have := h.len; simp at this
  | x :: a, y :: b, h => by
    have h0 : x.m ≤ y.m := by
      obtain ⟨t, ht, h1⟩ := h.le 0 x rfl
      cases ht; exact h1
    have h1 : Sub a b := ⟨by have := h.len; simpa using this, fun i s hs => h.le (i + 1) s hs⟩
    rw [sumM_cons, sumM_cons]
    have := h1.sum
    omega
theorem adj_sub (out : List Spr) (x : Lst) : Sub out (adj out x) := by
  refine ⟨(adj_length out x).symm, fun i s hs => ?_⟩
  unfold adj
  split
  · rename_i u hu
    rw [List.getElem?_set]
    split
    · rename_i e
      rw [e] at hu
      rw [hu] at hs
      cases hs
      have hi : i < out.length := (List.getElem?_eq_some_iff.1 hu).1
      rw [if_pos (by omega)]
      exact ⟨_, rfl, by dsimp only; omega⟩
    · exact ⟨s, hs, Int.le_refl _⟩
  · exact ⟨s, hs, Int.le_refl _⟩
theorem adjs_sub (M : List Lst) (out : List Spr) : Sub out (adjs M out) := by
  unfold adjs
  induction M generalizing out with
  | nil => exact Sub.rfl_ _
  | cons x M ih => exact (adj_sub out x).trans (ih _)
theorem sumM_set : ∀ (l : List Spr) (i : Nat) (s t : Spr), l[i]? = some s → sumM (l.set i t) = sumM l + (t.m - s.m)
  | [], i, s, t, h => by simp at h
  | x :: l, 0, s, t, h => by
    cases h
    rw [List.set_cons_zero, sumM_cons, sumM_cons]; omega
  | x :: l, i + 1, s, t, h => by
    rw [List.set_cons_succ, sumM_cons, sumM_cons, sumM_set l i s t h]; omega
theorem adj_keeps {out : List Spr} {x : Lst} (hx : x.ok (out.length + 1)) : x.d ≤ sumM (((adj out x).drop x.f.toNat).take (x.l.toNat - x.f.toNat)) := by
  obtain ⟨h0, h1, h2, h3, h4⟩ := Lst.ok_of hx
  obtain ⟨s, hs⟩ : ∃ s, out[x.l.toNat - 1]? = some s := ⟨_, List.getElem?_eq_getElem (by omega)⟩
  unfold adj
  rw [hs]
  simp only
  rw [List.drop_set, if_neg (by omega), List.take_set, sumM_set (s := s)]
  · dsimp only; omega
  · rw [List.getElem?_take, if_pos (by omega), List.getElem?_drop, show x.f.toNat + (x.l.toNat - 1 - x.f.toNat) = x.l.toNat - 1 by omega]
    exact hs
theorem adjs_keeps : ∀ {M : List Lst} {out : List Spr} {y : Lst}, y ∈ M → (∀ x ∈ M, x.ok (out.length + 1)) → y.d ≤ sumM (((adjs M out).drop y.f.toNat).take (y.l.toNat - y.f.toNat))
  | [], _, _, h, _ => by cases h
  | x :: M, out, y, h, hM => by
    rcases List.mem_cons.1 h with rfl | h
    · exact Int.le_trans (adj_keeps (hM y (List.mem_cons_self ..))) (((adjs_sub M (adj out y)).drop _).take _).sum
    · exact adjs_keeps (M := M) (out := adj out x) h fun z hz => by rw [adj_length]; exact hM z (List.mem_cons_of_mem _ hz)
theorem srt_all {L : List Lst} {n : Nat} (hL : ∀ x ∈ L, x.ok n) {y : Lst} (hy : y ∈ L) : y ∈ srt L := by
  have hL' : ∀ x ∈ L, 0 ≤ x.f ∧ x.f < x.l ∧ x.l < n := fun x hx => by
    obtain ⟨h0, h1, h2, _, _⟩ := Lst.ok_of (hL x hx)
    exact ⟨h0, h1, h2⟩
  rw [srt_bk L n hL']
  have h1 : y ∈ L.filter (keyEq y) := List.mem_filter.2 ⟨hy, by simp [keyEq]⟩
  rw [← bk_key L n hL'] at h1
  exact (List.mem_filter.1 h1).1

/-- each length is at least the spring's minimal length -/
theorem solve_low {l : List Spr} (hn : ∀ s ∈ l, 0 ≤ s.n ∧ 0 ≤ s.m) {width : Int} {x : List Int} (hx : SolveOut l width x) (hw : mins l ≤ width) {i : Nat} {s : Spr} {v : Int} (hs : l[i]? = some s) (hv : x[i]? = some v) : s.m ≤ v := by
  by_cases hp : ∃ s ∈ l, 0 < s.n
  · exact ((hx.bal hp).low i s v hs hv).1
  · have hz : ∀ s ∈ l, s.n = 0 := fun s hs => by
      have := (hn s hs).1
      rcases (show s.n = 0 ∨ 0 < s.n by omega) with h | h
      · exact h
      · exact absurd ⟨s, hs, h⟩ hp
    rw [hx.even hz, evenF_get l _ hs] at hv
    cases hv
    have : 0 ≤ (width - mins l) / (l.length : Int) := Int.ediv_nonneg (by omega) (by omega)
    split <;> omega
theorem solve_one {l : List Spr} {width : Int} {x y : List Int} (hn : ∀ s ∈ l, 0 ≤ s.n) (hx : SolveOut l width x) (hy : SolveOut l width y) : x = y := by
  by_cases hp : ∃ s ∈ l, 0 < s.n
  · exact (hx.bal hp).unique hn (hy.bal hp)
  · have hz : ∀ s ∈ l, s.n = 0 := fun s hs => by
      have := hn s hs
      rcases (show s.n = 0 ∨ 0 < s.n by omega) with h | h
      · exact h
      · exact absurd ⟨s, hs, h⟩ hp
    rw [hx.even hz, hy.even hz]

theorem sum_ge : ∀ {a : List Spr} {x : List Int}, a.length = x.length → (∀ (i : Nat) (s : Spr) (v : Int), a[i]? = some s → x[i]? = some v → s.m ≤ v) → sumM a ≤ x.sum
  | [], [], _, _ => Int.le_refl _
  | [], _ :: _, h, _ => by simp at h
  | _ :: _, [], h, _ => by simp at h
  | s :: a, v :: x, h, k => by
    rw [sumM_cons, List.sum_cons]
    have h0 := k 0 s v rfl rfl
    have h1 := sum_ge (a := a) (x := x) (by simpa using h) fun i s v hs hv => k (i + 1) s v hs hv
    omega

/-- what the law asks of places, in numbers -/
theorem place_far {s : List Spr} {x : List Int} (hlen : x.length = s.length) (hlow : ∀ (i : Nat) (t : Spr) (v : Int), s[i]? = some t → x[i]? = some v → t.m ≤ v) {f l : Nat} (hfl : f ≤ l) {d : Int}
    (hd : d ≤ sumM ((s.drop f).take (l - f))) : d ≤ (x.take l).sum - (x.take f).sum := by
  have e : x.take l = x.take f ++ (x.drop f).take (l - f) := by
    rw [← List.take_append_drop f (x.take l), List.take_take, List.drop_take, show min f l = f by omega]
  rw [e, List.sum_append]
  have := sum_ge (a := (s.drop f).take (l - f)) (x := (x.drop f).take (l - f)) (by simp [hlen]) fun i t v ht hv => by
    rw [List.getElem?_take] at ht hv
    split at ht
    · rename_i hi
      rw [if_pos hi] at hv
      rw [List.getElem?_drop] at ht hv
      exact hlow _ t v ht hv
    · cases ht
  omega

end Go.Proofs.Ytajkmlejklgbbaa
