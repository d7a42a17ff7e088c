/- Lengths that fill a width as evenly as can be: the plain law of spring.Solve. -/
import Derived.Test.YtajkmlejklgbbaaSpSum
namespace Go.Proofs.Ytajkmlejklgbbaa
open Go.RowKit

theorem fl_lt (a q : Int) (hq : 1 ≤ q) : a < (a / q + 1) * q := by
  have h1 := Int.emod_lt_of_pos a (show 0 < q by omega)
  have h2 := Int.mul_ediv_add_emod a q
  have h3 : q * (a / q) = a / q * q := Int.mul_comm _ _
  rw [Int.add_mul]
  omega
theorem fl_le (a q : Int) (hq : 1 ≤ q) : a / q * q ≤ a := Int.ediv_mul_le a (by omega)
theorem fl_ge {a q k : Int} (hq : 1 ≤ q) (h : k * q ≤ a) : k ≤ a / q := (Int.le_ediv_iff_mul_le (by omega)).2 h
theorem fl_lt' {a q k : Int} (hq : 1 ≤ q) (h : a < k * q) : a / q < k := Int.ediv_lt_of_lt_mul (by omega) h
theorem lt_fl {a q k : Int} (hq : 1 ≤ q) (h : a / q < k) : a < k * q := by
  rcases Int.lt_or_le a (k * q) with h1 | h1
  · exact h1
  · have := fl_ge hq h1; omega
theorem cancel_le {a b c : Int} (hc : 1 ≤ c) (h : a * c ≤ b * c) : a ≤ b := Int.le_of_mul_le_mul_right h (by omega)
theorem cancel_lt {a b c : Int} (hc : 1 ≤ c) (h : a * c < b * c) : a < b := Int.lt_of_mul_lt_mul_right h (by omega)

theorem lenF_mono {s : Spr} {a b c d : Int} (hn : 0 ≤ s.n) (hb : 1 ≤ b) (hd : 1 ≤ d) (h : a * d ≤ c * b) : lenF s a b ≤ lenF s c d := by
  have h1 : s.n * a / b ≤ s.n * c / d := by
    apply fl_ge hd
    apply cancel_le hb
    have h2 := fl_le (s.n * a) b hb
    have h3 : s.n * a / b * b * d ≤ s.n * a * d := Int.mul_le_mul_of_nonneg_right h2 (by omega)
    have h4 : s.n * (a * d) ≤ s.n * (c * b) := Int.mul_le_mul_of_nonneg_left h hn
    have h5 : s.n * a / b * b * d = s.n * a / b * d * b := by rw [Int.mul_assoc, Int.mul_comm b d, ← Int.mul_assoc]
    rw [← Int.mul_assoc, ← Int.mul_assoc] at h4
    omega
  unfold lenF
  omega
theorem lens_cons (s : Spr) (l : List Spr) (a b : Int) : lens (s :: l) a b = lenF s a b + lens l a b := by simp [lens]
theorem lens_mono {l : List Spr} {a b c d : Int} (hn : ∀ s ∈ l, 0 ≤ s.n) (hb : 1 ≤ b) (hd : 1 ≤ d) (h : a * d ≤ c * b) : lens l a b ≤ lens l c d := by
  induction l with
  | nil => simp [lens]
  | cons s l ih =>
    have h1 := lenF_mono (hn s (by simp)) hb hd h
    have h2 := ih fun x hx => hn x (by simp [hx])
    rw [lens_cons, lens_cons]
    omega
theorem lens_ge {l : List Spr} {s : Spr} {a b : Int} (h0 : ∀ t ∈ l, 0 ≤ t.m) (hs : s ∈ l) : lenF s a b ≤ lens l a b := by
  induction l with
  | nil => cases hs
  | cons t l ih =>
    have hp : 0 ≤ lens l a b := by
      have : ∀ l : List Spr, (∀ t ∈ l, 0 ≤ t.m) → 0 ≤ lens l a b := by
        intro l
        induction l with
        | nil => intro _; simp [lens]
        | cons u l ih =>
          intro hh
          have := hh u (by simp)
          have h2 := ih fun x hx => hh x (by simp [hx])
          rw [lens_cons]
          unfold lenF
          omega
      exact this l fun x hx => h0 x (by simp [hx])
    rw [lens_cons]
    rcases List.mem_cons.1 hs with rfl | hs
    · omega
    · have := ih (fun x hx => h0 x (by simp [hx])) hs
      have h1 := h0 t (by simp)
      have : 0 ≤ lenF t a b := by unfold lenF; omega
      omega
/-- a spring at a step of its own is as long as the step -/
theorem lenF_own {s : Spr} (hn : 0 < s.n) (k : Int) : k ≤ lenF s k s.n := by
  have : k ≤ s.n * k / s.n := fl_ge (by omega) (by rw [Int.mul_comm]; exact Int.le_refl _)
  unfold lenF
  omega

/-- the greatest step that fits into a width, of the springs whose natural length is among ns -/
structure BestOf (l : List Spr) (width : Int) (P : Int → Prop) (p q : Int) : Prop where
  p0 : 0 ≤ p
  pw : p ≤ width
  q1 : 1 ≤ q
  qm : q ≤ 1048576
  fit : lens l p q ≤ width
  step : p = 0 ∨ ∃ s ∈ l, 0 < s.n ∧ q = s.n
  max : ∀ n, P n → 0 < n → ∀ k, 0 ≤ k → lens l k n ≤ width → k * q ≤ p * n

structure Next (l : List Spr) (p q gn gd : Int) : Prop where
  d1 : 1 ≤ gd
  gt : p * gd < gn * q
  step : ∃ s ∈ l, 0 < s.n ∧ gd = s.n
  min : ∀ s ∈ l, 0 < s.n → ∀ k, p * s.n < k * q → gn * s.n ≤ k * gd

def growF (p q gn gd : Int) : List Spr → Int → List Int
  | [], _ => []
  | s :: l, left => if 0 < left ∧ lenF s p q < lenF s gn gd then (lenF s p q + 1) :: growF p q gn gd l (left - 1) else lenF s p q :: growF p q gn gd l left

theorem grow_one {l : List Spr} {p q gn gd : Int} (hq : 1 ≤ q) (hN : Next l p q gn gd) {s : Spr} (hs : s ∈ l) (hn : 0 ≤ s.n) : lenF s p q ≤ lenF s gn gd ∧ lenF s gn gd ≤ lenF s p q + 1 := by
  refine ⟨lenF_mono hn hq hN.d1 (Int.le_of_lt hN.gt), ?_⟩
  rcases (show s.n = 0 ∨ 0 < s.n by omega) with h0 | h0
  · unfold lenF
    rw [h0, Int.zero_mul, Int.zero_mul, Int.zero_ediv, Int.zero_ediv]
    omega
  · have h1 := fl_lt (s.n * p) q hq
    have h2 := hN.min s hs h0 (s.n * p / q + 1) (by rw [Int.mul_comm p]; exact h1)
    have h3 : s.n * gn / gd ≤ s.n * p / q + 1 := by
      apply cancel_le hN.d1
      have := fl_le (s.n * gn) gd hN.d1
      rw [Int.mul_comm gn] at h2
      omega
    unfold lenF
    omega

def cntG (p q gn gd : Int) (l : List Spr) : Int := lens l gn gd - lens l p q

theorem grow_split {l : List Spr} {p q gn gd : Int} (h1 : ∀ s ∈ l, lenF s p q ≤ lenF s gn gd ∧ lenF s gn gd ≤ lenF s p q + 1) : ∀ left : Int, 0 ≤ left → left < cntG p q gn gd l →
    ∃ l1 s l2, l = l1 ++ s :: l2 ∧ lenF s gn gd = lenF s p q + 1 ∧ growF p q gn gd l left = l1.map (fun t => lenF t gn gd) ++ (s :: l2).map (fun t => lenF t p q) := by
  induction l with
  | nil => intro left h0 h2; simp [cntG, lens] at h2; omega
  | cons s l ih =>
    intro left h0 hlt
    have hs := h1 s (by simp)
    have hz : ∀ l : List Spr, growF p q gn gd l 0 = l.map (fun t => lenF t p q) := by
      intro l
      induction l with
      | nil => rfl
      | cons t l ih => rw [growF, if_neg (by omega), ih]; rfl
    unfold cntG at hlt ih
    rw [lens_cons, lens_cons] at hlt
    rw [growF]
    by_cases hg : lenF s p q < lenF s gn gd
    · by_cases hl : 0 < left
      · rw [if_pos ⟨hl, hg⟩]
        obtain ⟨l1, t, l2, rfl, ht, he⟩ := ih (fun x hx => h1 x (by simp [hx])) (left - 1) (by omega) (by omega)
        exact ⟨s :: l1, t, l2, rfl, ht, by rw [he, show lenF s p q + 1 = lenF s gn gd by omega]; rfl⟩
      · rw [if_neg (by omega)]
        obtain rfl : left = 0 := by omega
        exact ⟨[], s, l, rfl, by omega, by rw [hz]; rfl⟩
    · rw [if_neg (by omega)]
      obtain ⟨l1, t, l2, rfl, ht, he⟩ := ih (fun x hx => h1 x (by simp [hx])) left h0 (by omega)
      exact ⟨s :: l1, t, l2, rfl, ht, by rw [he, show lenF s p q = lenF s gn gd by omega]; rfl⟩

theorem grow_sum {l : List Spr} {p q gn gd : Int} (h1 : ∀ s ∈ l, lenF s p q ≤ lenF s gn gd ∧ lenF s gn gd ≤ lenF s p q + 1) : ∀ left : Int, 0 ≤ left → left ≤ cntG p q gn gd l →
    (growF p q gn gd l left).sum = lens l p q + left := by
  induction l with
  | nil => intro left h0 h2; simp [cntG, lens] at h2; simp [growF, lens]; omega
  | cons s l ih =>
    intro left h0 hlt
    have hs := h1 s (by simp)
    unfold cntG at hlt ih
    rw [lens_cons, lens_cons] at hlt
    rw [growF]
    have hp : 0 ≤ lens l gn gd - lens l p q := by
      have : ∀ l : List Spr, (∀ s ∈ l, lenF s p q ≤ lenF s gn gd ∧ lenF s gn gd ≤ lenF s p q + 1) → 0 ≤ lens l gn gd - lens l p q := by
        intro l
        induction l with
        | nil => intro _; simp [lens]
        | cons t l ih =>
          intro hh
          have a := hh t (by simp)
          have b := ih fun x hx => hh x (by simp [hx])
          rw [lens_cons, lens_cons]
          omega
      exact this l fun x hx => h1 x (by simp [hx])
    by_cases hg : lenF s p q < lenF s gn gd
    · by_cases hl : 0 < left
      · rw [if_pos ⟨hl, hg⟩, List.sum_cons, ih (fun x hx => h1 x (by simp [hx])) (left - 1) (by omega) (by omega), lens_cons]
        omega
      · rw [if_neg (by omega), List.sum_cons, ih (fun x hx => h1 x (by simp [hx])) left (by omega) (by omega), lens_cons]
        omega
    · rw [if_neg (by omega), List.sum_cons, ih (fun x hx => h1 x (by simp [hx])) left (by omega) (by omega), lens_cons]
      omega

/-- lengths that fill a width, as even as can be -/
structure Bal (l : List Spr) (x : List Int) (width : Int) : Prop where
  len : x.length = l.length
  sum : x.sum = width
  low : ∀ (i : Nat) (s : Spr) (v : Int), l[i]? = some s → x[i]? = some v → s.m ≤ v ∧ (s.n = 0 → v = s.m)
  bal : ∀ (i j : Nat) (s t : Spr) (v u : Int), l[i]? = some s → l[j]? = some t → x[i]? = some v → x[j]? = some u → 0 < s.n → 0 < t.n → s.m < v → v * t.n < (u + 1) * s.n ∨ (v * t.n = (u + 1) * s.n ∧ i ≤ j)

theorem sum_eq_of_le : ∀ {x y : List Int}, x.length = y.length → x.sum = y.sum → (∀ (i : Nat) (v u : Int), x[i]? = some v → y[i]? = some u → v ≤ u) → x = y := by
  have key : ∀ {x y : List Int}, x.length = y.length → (∀ (i : Nat) (v u : Int), x[i]? = some v → y[i]? = some u → v ≤ u) → x.sum ≤ y.sum ∧ (x.sum = y.sum → x = y) := by
    intro x
    induction x with
    | nil => intro y hl _; cases y with
      | nil => simp
      | cons b y => simp at hl
    | cons a x ih =>
      intro y hl h
      cases y with
      | nil => simp at hl
      | cons b y =>
        have h0 := h 0 a b rfl rfl
        obtain ⟨h1, h2⟩ := ih (y := y) (by simpa using hl) fun i v u hv hu => h (i + 1) v u (by simpa using hv) (by simpa using hu)
        simp only [List.sum_cons]
        refine ⟨by omega, fun he => ?_⟩
        obtain rfl : a = b := by omega
        rw [h2 (by omega)]
  intro x y hl hs h
  exact (key hl h).2 hs

theorem Bal.unique {l : List Spr} {x y : List Int} {width : Int} (hn : ∀ s ∈ l, 0 ≤ s.n) (hx : Bal l x width) (hy : Bal l y width) : x = y := by
  have hlen : x.length = y.length := hx.len.trans hy.len.symm
  by_cases h1 : ∀ (i : Nat) (v u : Int), x[i]? = some v → y[i]? = some u → v ≤ u
  · exact sum_eq_of_le hlen (hx.sum.trans hy.sum.symm) h1
  by_cases h2 : ∀ (j : Nat) (u v : Int), y[j]? = some u → x[j]? = some v → u ≤ v
  · exact (sum_eq_of_le hlen.symm (hy.sum.trans hx.sum.symm) h2).symm
  exfalso
  simp only [Classical.not_forall] at h1 h2
  obtain ⟨i, v, v', hv, hv', hi⟩ := h1
  obtain ⟨j, u', u, hu', hu, hj⟩ := h2
  have li : i < l.length := by rw [← hx.len]; exact (List.getElem?_eq_some_iff.1 hv).1
  have lj : j < l.length := by rw [← hx.len]; exact (List.getElem?_eq_some_iff.1 hu).1
  obtain ⟨s, hs⟩ : ∃ s, l[i]? = some s := ⟨_, List.getElem?_eq_getElem li⟩
  obtain ⟨t, ht⟩ : ∃ t, l[j]? = some t := ⟨_, List.getElem?_eq_getElem lj⟩
  have a1 := hx.low i s v hs hv
  have a2 := hy.low i s v' hs hv'
  have a3 := hx.low j t u ht hu
  have a4 := hy.low j t u' ht hu'
  have s0 := hn s (List.mem_of_getElem? hs)
  have t0 := hn t (List.mem_of_getElem? ht)
  have sn : 0 < s.n := by
    rcases (show s.n = 0 ∨ 0 < s.n by omega) with h | h
    · have := a1.2 h; omega
    · exact h
  have tn : 0 < t.n := by
    rcases (show t.n = 0 ∨ 0 < t.n by omega) with h | h
    · have := a4.2 h; omega
    · exact h
  have b1 := hx.bal i j s t v u hs ht hv hu sn tn (by omega)
  have b2 := hy.bal j i t s u' v' ht hs hu' hv' tn sn (by omega)
  have c1 : (u + 1) * s.n ≤ u' * s.n := Int.mul_le_mul_of_nonneg_right (by omega) s0
  have c2 : (v' + 1) * t.n ≤ v * t.n := Int.mul_le_mul_of_nonneg_right (by omega) t0
  have hij : i = j := by omega
  subst hij
  rw [hu] at hv
  rw [hu'] at hv'
  cases hv
  cases hv'
  omega

theorem lenF_zero {s : Spr} (h : s.n = 0) (hm : 0 ≤ s.m) (p q : Int) : lenF s p q = s.m := by
  unfold lenF
  rw [h, Int.zero_mul, Int.zero_ediv]
  omega
theorem lenF_low (s : Spr) (p q : Int) : s.m ≤ lenF s p q := by unfold lenF; omega
theorem lenF_over {s : Spr} {p q : Int} (hq : 1 ≤ q) (h : s.m < lenF s p q) : lenF s p q * q ≤ p * s.n := by
  have e : lenF s p q = s.n * p / q := by unfold lenF at h ⊢; omega
  rw [e, Int.mul_comm p]
  exact fl_le _ _ hq
theorem lenF_under {s : Spr} {p q : Int} (hq : 1 ≤ q) : p * s.n < (lenF s p q + 1) * q := by
  have h1 := fl_lt (s.n * p) q hq
  have h2 : s.n * p / q ≤ lenF s p q := by unfold lenF; omega
  have h3 : (s.n * p / q + 1) * q ≤ (lenF s p q + 1) * q := Int.mul_le_mul_of_nonneg_right (by omega) (by omega)
  rw [Int.mul_comm p]
  omega

/-- the lengths at one step are even -/
theorem Bal.atStep {l : List Spr} (hn : ∀ s ∈ l, 0 ≤ s.n ∧ 0 ≤ s.m) {p q : Int} (hq : 1 ≤ q) : Bal l (l.map fun t => lenF t p q) (lens l p q) := by
  refine ⟨by simp, rfl, fun i s v hs hv => ?_, fun i j s t v u hs ht hv hu sn tn hlt => ?_⟩
  · rw [List.getElem?_map, hs] at hv
    cases hv
    exact ⟨lenF_low _ _ _, fun h => lenF_zero h (hn s (List.mem_of_getElem? hs)).2 _ _⟩
  · rw [List.getElem?_map, hs] at hv
    rw [List.getElem?_map, ht] at hu
    cases hv
    cases hu
    refine .inl ?_
    have h1 := lenF_over hq hlt
    have h2 := lenF_under (s := t) (p := p) hq
    apply cancel_lt hq
    have h3 : lenF s p q * q * t.n ≤ p * s.n * t.n := Int.mul_le_mul_of_nonneg_right h1 (by omega)
    have h4 : p * t.n * s.n < (lenF t p q + 1) * q * s.n := Int.mul_lt_mul_of_pos_right h2 sn
    have e1 : lenF s p q * t.n * q = lenF s p q * q * t.n := by rw [Int.mul_assoc, Int.mul_comm t.n, ← Int.mul_assoc]
    have e2 : (lenF t p q + 1) * s.n * q = (lenF t p q + 1) * q * s.n := by rw [Int.mul_assoc, Int.mul_comm s.n, ← Int.mul_assoc]
    have e3 : p * s.n * t.n = p * t.n * s.n := by rw [Int.mul_assoc, Int.mul_comm s.n, ← Int.mul_assoc]
    dsimp only
    omega

/-- what Solve makes is even -/
theorem Bal.ofGrow {l : List Spr} (hn : ∀ s ∈ l, 0 ≤ s.n ∧ 0 ≤ s.m) {p q gn gd width : Int} (hq : 1 ≤ q) (hN : Next l p q gn gd) (hf : lens l p q ≤ width) (hg : width < lens l gn gd) :
    Bal l (growF p q gn gd l (width - lens l p q)) width := by
  have h1 : ∀ s ∈ l, lenF s p q ≤ lenF s gn gd ∧ lenF s gn gd ≤ lenF s p q + 1 := fun s hs => grow_one hq hN hs (hn s hs).1
  obtain ⟨l1, s0, l2, hl, hs0, he⟩ := grow_split h1 (width - lens l p q) (by omega) (by unfold cntG; omega)
  have hsum := grow_sum h1 (width - lens l p q) (by omega) (by unfold cntG; omega)
  have hget : ∀ (i : Nat) (s : Spr) (v : Int), l[i]? = some s → (growF p q gn gd l (width - lens l p q))[i]? = some v → (i < l1.length ∧ v = lenF s gn gd) ∨ (l1.length ≤ i ∧ v = lenF s p q) := by
    intro i s v hs hv
    rw [he] at hv
    rw [hl] at hs
    by_cases hi : i < l1.length
    · rw [List.getElem?_append_left (by simpa using hi), List.getElem?_map] at hv
      rw [List.getElem?_append_left hi] at hs
      rw [hs] at hv
      cases hv
      exact .inl ⟨hi, rfl⟩
    · rw [List.getElem?_append_right (by simpa using hi), List.getElem?_map, List.length_map] at hv
      rw [List.getElem?_append_right (by omega)] at hs
      rw [hs] at hv
      cases hv
      exact .inr ⟨by omega, rfl⟩
  refine ⟨?_, by rw [hsum]; omega, fun i s v hs hv => ?_, fun i j s t v u hs ht hv hu sn tn hlt => ?_⟩
  · rw [he, hl]; simp
  · have h3 := (hn s (List.mem_of_getElem? hs)).2
    rcases hget i s v hs hv with ⟨_, rfl⟩ | ⟨_, rfl⟩
    · exact ⟨lenF_low _ _ _, fun h => lenF_zero h h3 _ _⟩
    · exact ⟨lenF_low _ _ _, fun h => lenF_zero h h3 _ _⟩
  · -- in terms of g: v * gd ≤ gn * s.n (strictly on the right), (u + 1) * gd ≥ gn * t.n (strictly on the left)
    have hv2 : v * gd ≤ gn * s.n ∧ (l1.length ≤ i → v * gd < gn * s.n) := by
      rcases hget i s v hs hv with ⟨hi, rfl⟩ | ⟨hi, rfl⟩
      · exact ⟨lenF_over hN.d1 hlt, fun h => absurd h (by omega)⟩
      · have h3 := lenF_over hq hlt
        have h4 : lenF s p q * gd < gn * s.n := by
          apply cancel_lt hq
          have a : lenF s p q * q * gd ≤ p * s.n * gd := Int.mul_le_mul_of_nonneg_right h3 (by have := hN.d1; omega)
          have b : p * gd * s.n < gn * q * s.n := Int.mul_lt_mul_of_pos_right hN.gt sn
          have e1 : lenF s p q * gd * q = lenF s p q * q * gd := by rw [Int.mul_assoc, Int.mul_comm gd, ← Int.mul_assoc]
          have e2 : p * s.n * gd = p * gd * s.n := by rw [Int.mul_assoc, Int.mul_comm s.n, ← Int.mul_assoc]
          have e3 : gn * s.n * q = gn * q * s.n := by rw [Int.mul_assoc, Int.mul_comm s.n, ← Int.mul_assoc]
          omega
        exact ⟨Int.le_of_lt h4, fun _ => h4⟩
    have hu2 : gn * t.n ≤ (u + 1) * gd ∧ (j < l1.length → gn * t.n < (u + 1) * gd) := by
      rcases hget j t u ht hu with ⟨hj, rfl⟩ | ⟨hj, rfl⟩
      · have := lenF_under (s := t) (p := gn) hN.d1
        exact ⟨Int.le_of_lt this, fun _ => this⟩
      · refine ⟨hN.min t (List.mem_of_getElem? ht) tn _ (lenF_under hq), fun h => absurd h (by omega)⟩
    have hd := hN.d1
    have a1 : v * gd * t.n ≤ gn * s.n * t.n := Int.mul_le_mul_of_nonneg_right hv2.1 (by omega)
    have a2 : gn * t.n * s.n ≤ (u + 1) * gd * s.n := Int.mul_le_mul_of_nonneg_right hu2.1 (by omega)
    have e1 : v * t.n * gd = v * gd * t.n := by rw [Int.mul_assoc, Int.mul_comm t.n, ← Int.mul_assoc]
    have e2 : (u + 1) * s.n * gd = (u + 1) * gd * s.n := by rw [Int.mul_assoc, Int.mul_comm s.n, ← Int.mul_assoc]
    have e3 : gn * s.n * t.n = gn * t.n * s.n := by rw [Int.mul_assoc, Int.mul_comm s.n, ← Int.mul_assoc]
    by_cases hi : l1.length ≤ i
    · have a3 : v * gd * t.n < gn * s.n * t.n := Int.mul_lt_mul_of_pos_right (hv2.2 hi) tn
      exact .inl (cancel_lt hd (by omega))
    · by_cases hj : j < l1.length
      · have a3 : gn * t.n * s.n < (u + 1) * gd * s.n := Int.mul_lt_mul_of_pos_right (hu2.2 hj) sn
        exact .inl (cancel_lt hd (by omega))
      · have := cancel_le hd (a := v * t.n) (b := (u + 1) * s.n) (by omega)
        rcases (show v * t.n < (u + 1) * s.n ∨ v * t.n = (u + 1) * s.n by omega) with h | h
        · exact .inl h
        · exact .inr ⟨h, by omega⟩

theorem BestOf.next {l : List Spr} {width : Int} {P : Int → Prop} {p q gn gd : Int} (h : BestOf l width P p q) (hP : ∀ s ∈ l, P s.n) (hN : Next l p q gn gd) : width < lens l gn gd := by
  obtain ⟨s, hs, sn, rfl⟩ := hN.step
  rcases Int.lt_or_le width (lens l gn s.n) with h1 | h1
  · exact h1
  · have h2 : 0 ≤ p * s.n := Int.mul_nonneg h.p0 (by omega)
    have h3 : 0 < gn * q := by have := hN.gt; omega
    have h4 : 0 ≤ gn := by
      rcases Int.lt_or_le gn 0 with h5 | h5
      · have := Int.mul_nonneg (show 0 ≤ -gn by omega) (show 0 ≤ q by have := h.q1; omega)
        rw [Int.neg_mul] at this
        omega
      · exact h5
    have := h.max s.n (hP s hs) sn gn h4 h1
    have := hN.gt
    omega

/-- the spring that grows next -/
structure Pick (l : List Spr) (x : List Int) (i : Nat) (s : Spr) (v : Int) : Prop where
  gs : l[i]? = some s
  gv : x[i]? = some v
  pos : 0 < s.n
  least : ∀ (j : Nat) (t : Spr) (u : Int), l[j]? = some t → x[j]? = some u → 0 < t.n → (v + 1) * t.n < (u + 1) * s.n ∨ ((v + 1) * t.n = (u + 1) * s.n ∧ i ≤ j)

theorem sum_set : ∀ {x : List Int} {i : Nat} {v u : Int}, x[i]? = some v → (x.set i u).sum = x.sum - v + u := by
  intro x
  induction x with
  | nil => intro i v u h; simp at h
  | cons a x ih =>
    intro i v u h
    cases i with
    | zero =>
      simp only [List.getElem?_cons_zero, Option.some.injEq] at h
      subst h
      simp only [List.set_cons_zero, List.sum_cons]
      omega
    | succ i =>
      simp only [List.set_cons_succ, List.sum_cons]
      rw [ih (by simpa using h)]
      omega

theorem Bal.grow {l : List Spr} {x : List Int} {width : Int} {i : Nat} {s : Spr} {v : Int} (h : Bal l x width) (hp : Pick l x i s v) : Bal l (x.set i (v + 1)) (width + 1) := by
  have hi : i < x.length := (List.getElem?_eq_some_iff.1 hp.gv).1
  have hget : ∀ (j : Nat) (u : Int), (x.set i (v + 1))[j]? = some u → (j = i ∧ u = v + 1) ∨ (j ≠ i ∧ x[j]? = some u) := by
    intro j u hu
    rw [List.getElem?_set] at hu
    by_cases e : i = j
    · subst e
      rw [if_pos rfl, if_pos hi] at hu
      cases hu
      exact .inl ⟨rfl, rfl⟩
    · rw [if_neg e] at hu
      exact .inr ⟨Ne.symm e, hu⟩
  refine ⟨by rw [List.length_set]; exact h.len, by rw [sum_set hp.gv, h.sum]; omega, fun j t u ht hu => ?_, fun a b t r u z ht hr hu hz tn rn hlt => ?_⟩
  · rcases hget j u hu with ⟨rfl, rfl⟩ | ⟨_, hu'⟩
    · have e := hp.gs
      rw [ht] at e
      cases e
      have := h.low j _ v ht hp.gv
      have := hp.pos
      exact ⟨by omega, fun e => by omega⟩
    · exact h.low j t u ht hu'
  · rcases hget a u hu with ⟨rfl, rfl⟩ | ⟨ha, hu'⟩
    · have e := hp.gs
      rw [ht] at e
      cases e
      rcases hget b z hz with ⟨rfl, rfl⟩ | ⟨hb, hz'⟩
      · rw [ht] at hr
        cases hr
        exact .inl (Int.mul_lt_mul_of_pos_right (by omega) tn)
      · exact hp.least b r z hr hz' rn
    · rcases hget b z hz with ⟨rfl, rfl⟩ | ⟨hb, hz'⟩
      · have e := hp.gs
        rw [hr] at e
        cases e
        have hb := h.bal a b t _ u v ht hr hu' hp.gv tn rn hlt
        have : (v + 1) * t.n < (v + 1 + 1) * t.n := Int.mul_lt_mul_of_pos_right (by omega) tn
        exact .inl (by omega)
      · exact h.bal a b t r u z ht hr hu' hz' tn rn hlt

theorem Bal.mins {l : List Spr} : Bal l (l.map Spr.m) (mins l) := by
  refine ⟨by simp, rfl, fun i s v hs hv => ?_, fun i j s t v u hs ht hv hu sn tn hlt => ?_⟩
  · rw [List.getElem?_map, hs] at hv
    cases hv
    exact ⟨Int.le_refl _, fun _ => rfl⟩
  · rw [List.getElem?_map, hs] at hv
    cases hv
    omega

theorem pick_ex {l : List Spr} {x : List Int} (hl : x.length = l.length) (hp : ∃ s ∈ l, 0 < s.n) : ∃ i s v, Pick l x i s v := by
  have key : ∀ k, k ≤ l.length → (∀ j t, j < k → l[j]? = some t → ¬ 0 < t.n) ∨ ∃ i s v, i < k ∧ l[i]? = some s ∧ x[i]? = some v ∧ 0 < s.n ∧ ∀ (j : Nat) (t : Spr) (u : Int), j < k → l[j]? = some t → x[j]? = some u → 0 < t.n →
      (v + 1) * t.n < (u + 1) * s.n ∨ ((v + 1) * t.n = (u + 1) * s.n ∧ i ≤ j) := by
    intro k
    induction k with
    | zero => exact fun _ => .inl fun j t h => absurd h (by omega)
    | succ k ih =>
      intro hk
      obtain ⟨t, ht⟩ : ∃ t, l[k]? = some t := ⟨_, List.getElem?_eq_getElem (by omega)⟩
      obtain ⟨u, hu⟩ : ∃ u, x[k]? = some u := ⟨_, List.getElem?_eq_getElem (by omega)⟩
      rcases ih (by omega) with h | ⟨i, s, v, hik, hs, hv, sn, h⟩
      · by_cases tn : 0 < t.n
        · refine .inr ⟨k, t, u, by omega, ht, hu, tn, fun j t' u' hj ht' hu' tn' => ?_⟩
          by_cases e : j = k
          · subst e
            rw [ht] at ht'
            rw [hu] at hu'
            cases ht'
            cases hu'
            exact .inr ⟨rfl, Nat.le_refl _⟩
          · exact absurd tn' (h j t' (by omega) ht')
        · refine .inl fun j t' hj ht' => ?_
          by_cases e : j = k
          · subst e
            rw [ht] at ht'
            cases ht'
            exact tn
          · exact h j t' (by omega) ht'
      · by_cases tn : 0 < t.n
        · by_cases hlt : (u + 1) * s.n < (v + 1) * t.n
          · refine .inr ⟨k, t, u, by omega, ht, hu, tn, fun j t' u' hj ht' hu' tn' => ?_⟩
            by_cases e : j = k
            · subst e
              rw [ht] at ht'
              rw [hu] at hu'
              cases ht'
              cases hu'
              exact .inr ⟨rfl, Nat.le_refl _⟩
            · have h2 := h j t' u' (by omega) ht' hu' tn'
              -- (u+1)/t < (v+1)/s ≤ (u'+1)/t'
              have a1 : (u + 1) * s.n * t'.n < (v + 1) * t.n * t'.n := Int.mul_lt_mul_of_pos_right hlt tn'
              have a2 : (v + 1) * t'.n * t.n ≤ (u' + 1) * s.n * t.n := Int.mul_le_mul_of_nonneg_right (by omega) (by omega)
              have e1 : (v + 1) * t.n * t'.n = (v + 1) * t'.n * t.n := by rw [Int.mul_assoc, Int.mul_comm t.n, ← Int.mul_assoc]
              have e2 : (u + 1) * s.n * t'.n = (u + 1) * t'.n * s.n := by rw [Int.mul_assoc, Int.mul_comm s.n, ← Int.mul_assoc]
              have e3 : (u' + 1) * s.n * t.n = (u' + 1) * t.n * s.n := by rw [Int.mul_assoc, Int.mul_comm s.n, ← Int.mul_assoc]
              exact .inl (cancel_lt (by omega : (1 : Int) ≤ s.n) (by omega))
          · refine .inr ⟨i, s, v, by omega, hs, hv, sn, fun j t' u' hj ht' hu' tn' => ?_⟩
            by_cases e : j = k
            · subst e
              rw [ht] at ht'
              rw [hu] at hu'
              cases ht'
              cases hu'
              rcases (show (v + 1) * t.n < (u + 1) * s.n ∨ (v + 1) * t.n = (u + 1) * s.n by omega) with hh | hh
              · exact .inl hh
              · exact .inr ⟨hh, by omega⟩
            · exact h j t' u' (by omega) ht' hu' tn'
        · refine .inr ⟨i, s, v, by omega, hs, hv, sn, fun j t' u' hj ht' hu' tn' => ?_⟩
          by_cases e : j = k
          · subst e
            rw [ht] at ht'
            cases ht'
            exact absurd tn' tn
          · exact h j t' u' (by omega) ht' hu' tn'
  obtain ⟨s, hs, sn⟩ := hp
  obtain ⟨j, hj⟩ := List.getElem?_of_mem hs
  rcases key l.length (Nat.le_refl _) with h | ⟨i, s, v, -, h1, h2, h3, h4⟩
  · exact absurd sn (h j s (List.getElem?_eq_some_iff.1 hj).1 hj)
  · exact ⟨i, s, v, h1, h2, h3, fun j t u ht hu tn => h4 j t u (List.getElem?_eq_some_iff.1 ht).1 ht hu tn⟩

end Go.Proofs.Ytajkmlejklgbbaa
