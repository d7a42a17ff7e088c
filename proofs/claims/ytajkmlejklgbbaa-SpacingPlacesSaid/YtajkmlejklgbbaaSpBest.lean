/- The greatest step that fits into a width: the plain law of spring.find. -/
import Derived.Test.YtajkmlejklgbbaaSpBal
namespace Go.Proofs.Ytajkmlejklgbbaa
open Go.RowKit


theorem lens_zero {l : List Spr} (h : ∀ s ∈ l, 0 ≤ s.m) : lens l 0 1 = mins l := by
  induction l with
  | nil => rfl
  | cons s l ih =>
    have h1 := h s (by simp)
    have h2 := ih fun x hx => h x (by simp [hx])
    have e : mins (s :: l) = s.m + mins l := by simp [mins]
    rw [lens_cons, h2, e]
    unfold lenF
    rw [Int.mul_zero, Int.zero_ediv]
    omega

theorem BestOf.start {l : List Spr} {width : Int} (h : ∀ s ∈ l, 0 ≤ s.m) (h0 : 0 ≤ width) (hw : mins l ≤ width) : BestOf l width (fun _ => False) 0 1 :=
  ⟨by omega, h0, by omega, by omega, by rw [lens_zero h]; exact hw, .inl rfl, fun n hn => hn.elim⟩

theorem BestOf.skip {l : List Spr} {width : Int} {P : Int → Prop} {p q x : Int} (h : BestOf l width P p q) (hn : ∀ s ∈ l, 0 ≤ s.n) (hx : 0 < x) (hw : width < lens l (p * x / q + 1) x) : BestOf l width (fun n => P n ∨ n = x) p q := by
  refine ⟨h.p0, h.pw, h.q1, h.qm, h.fit, h.step, fun n hP n0 k k0 hk => ?_⟩
  rcases hP with hP | rfl
  · exact h.max n hP n0 k k0 hk
  · have h1 : k ≤ p * n / q := by
      rcases Int.lt_or_le (p * n / q) k with h1 | h1
      · have := lens_mono (a := p * n / q + 1) (c := k) hn (show (1 : Int) ≤ n by omega) (show (1 : Int) ≤ n by omega) (Int.mul_le_mul_of_nonneg_right (by omega) (by omega))
        omega
      · exact h1
    have h2 := fl_le (p * n) q h.q1
    have h3 : k * q ≤ p * n / q * q := Int.mul_le_mul_of_nonneg_right h1 (by have := h.q1; omega)
    omega

theorem BestOf.take {l : List Spr} {width : Int} {P : Int → Prop} {p q x nx : Int} {k m : Nat} (h : BestOf l width P p q) (hn : ∀ s ∈ l, 0 ≤ s.n ∧ 0 ≤ s.m) (hx : 0 < x) (hxm : x ≤ 1048576) {s : Spr} (hs : s ∈ l) (hsx : s.n = x)
    (hnx : nx = p * x / q + 1) (hm : (m : Int) = width - nx + 1) (hw : lens l nx x ≤ width) (hkm : k ≤ m) (h1 : ∀ t : Nat, t < k → lens l (nx + 1 + t) x ≤ width) (h2 : k < m → width < lens l (nx + 1 + k) x) :
    BestOf l width (fun n => P n ∨ n = x) (nx + k) x := by
  have hq := h.q1
  have hp := h.p0
  have a1 : 0 ≤ p * x / q := Int.ediv_nonneg (Int.mul_nonneg hp (by omega)) (by omega)
  have a2 := fl_lt (p * x) q hq
  rw [← hnx] at a2
  have fit : lens l (nx + k) x ≤ width := by
    rcases Nat.eq_zero_or_pos k with h0 | h0
    · subst h0; simpa using hw
    · have := h1 (k - 1) (by omega)
      rwa [show nx + 1 + ((k - 1 : Nat) : Int) = nx + k by omega] at this
  have pw : nx + k ≤ width := by
    have e1 := lens_ge (a := nx + k) (b := x) (fun t ht => (hn t ht).2) hs
    have e2 := lenF_own (s := s) (by omega) (nx + k)
    rw [hsx] at e2
    omega
  have h3 := h2 (by omega)
  refine ⟨by omega, pw, by omega, hxm, fit, .inr ⟨s, hs, by omega, hsx.symm⟩, fun n hP n0 k' k0 hk => ?_⟩
  rcases hP with hP | rfl
  · have b1 := h.max n hP n0 k' k0 hk
    apply cancel_le hq
    have c1 : k' * q * x ≤ p * n * x := Int.mul_le_mul_of_nonneg_right b1 (by omega)
    have c2 : p * x * n ≤ nx * q * n := Int.mul_le_mul_of_nonneg_right (by omega) (by omega)
    have c3 : nx * q * n ≤ (nx + k) * q * n := Int.mul_le_mul_of_nonneg_right (Int.mul_le_mul_of_nonneg_right (by omega) (by omega)) (by omega)
    have e1 : k' * x * q = k' * q * x := by rw [Int.mul_assoc, Int.mul_comm x, ← Int.mul_assoc]
    have e2 : p * n * x = p * x * n := by rw [Int.mul_assoc, Int.mul_comm n, ← Int.mul_assoc]
    have e3 : (nx + k) * n * q = (nx + k) * q * n := by rw [Int.mul_assoc, Int.mul_comm n, ← Int.mul_assoc]
    omega
  · rcases Int.lt_or_le (nx + k) k' with h4 | h4
    · have := lens_mono (a := nx + 1 + k) (c := k') (fun t ht => (hn t ht).1) (show (1 : Int) ≤ n by omega) (show (1 : Int) ≤ n by omega) (Int.mul_le_mul_of_nonneg_right (by omega) (by omega))
      omega
    · exact Int.mul_le_mul_of_nonneg_right h4 (by omega)

theorem BestOf.imp {l : List Spr} {width : Int} {P P' : Int → Prop} {p q : Int} (h : BestOf l width P p q) (hP : ∀ n, P' n → P n) : BestOf l width P' p q :=
  ⟨h.p0, h.pw, h.q1, h.qm, h.fit, h.step, fun n hn => h.max n (hP n hn)⟩

theorem BestOf.imp0 {l : List Spr} {width : Int} {P P' : Int → Prop} {p q : Int} (h : BestOf l width P p q) (hP : ∀ n, 0 < n → P' n → P n) : BestOf l width P' p q :=
  ⟨h.p0, h.pw, h.q1, h.qm, h.fit, h.step, fun n hn n0 => h.max n (hP n n0 hn) n0⟩

/-- the greatest step that fits, in lowest terms -/
structure Low (l : List Spr) (width p q : Int) : Prop where
  p0 : 0 ≤ p
  pw : p ≤ width
  q1 : 1 ≤ q
  qm : q ≤ 1048576
  fit : lens l p q ≤ width
  step : p = 0 ∨ ∃ s ∈ l, 0 < s.n ∧ ∃ k, 0 ≤ k ∧ p * s.n = k * q
  max : ∀ s ∈ l, 0 < s.n → ∀ k, 0 ≤ k → lens l k s.n ≤ width → k * q ≤ p * s.n
  low : Int.gcd p q = 1

theorem Low.of {l : List Spr} {width p q g : Int} (hn : ∀ s ∈ l, 0 ≤ s.n) (hg : 1 ≤ g) (h : BestOf l width (fun n => ∃ s ∈ l, s.n = n) (p * g) (q * g)) (hq : 1 ≤ q) (hp : 0 ≤ p) (hl : Int.gcd p q = 1) : Low l width p q := by
  have e1 : p ≤ p * g := by have := Int.mul_le_mul_of_nonneg_left hg hp; omega
  have e2 : q ≤ q * g := by have := Int.mul_le_mul_of_nonneg_left hg (show 0 ≤ q by omega); omega
  have a1 := h.pw
  have a2 := h.qm
  refine ⟨hp, by omega, hq, by omega, ?_, ?_, fun s hs sn k k0 hk => ?_, hl⟩
  · have := lens_mono (a := p) (b := q) (c := p * g) (d := q * g) hn hq h.q1 (by rw [← Int.mul_assoc, Int.mul_right_comm]; exact Int.le_refl _)
    have := h.fit
    omega
  · rcases h.step with h0 | ⟨s, hs, sn, e⟩
    · rcases Int.mul_eq_zero.1 h0 with h0 | h0
      · exact .inl h0
      · omega
    · exact .inr ⟨s, hs, sn, p * g, Int.mul_nonneg hp (by omega), by rw [← e, ← Int.mul_assoc, Int.mul_right_comm]⟩
  · have := h.max s.n ⟨s, hs, rfl⟩ sn k k0 hk
    apply cancel_le hg
    rw [Int.mul_assoc, Int.mul_right_comm]
    exact this

theorem Low.next {l : List Spr} {width p q gn gd : Int} (h : Low l width p q) (hN : Next l p q gn gd) : width < lens l gn gd := by
  obtain ⟨s, hs, sn, rfl⟩ := hN.step
  rcases Int.lt_or_le width (lens l gn s.n) with h1 | h1
  · exact h1
  · have h2 : 0 ≤ p * s.n := Int.mul_nonneg h.p0 (by omega)
    have h3 : 0 < gn * q := by have := hN.gt; omega
    have h4 : 0 ≤ gn := by
      rcases Int.lt_or_le gn 0 with h5 | h5
      · have := Int.mul_nonneg (show 0 ≤ -gn by omega) (show 0 ≤ q by have := h.q1; omega)
        rw [Int.neg_mul] at this
        omega
      · exact h5
    have := h.max s hs sn gn h4 h1
    have := hN.gt
    omega

theorem Low.le {l : List Spr} {width p q p' q' : Int} (hn : ∀ s ∈ l, 0 ≤ s.n) (h : Low l width p q) (h' : Low l width p' q') : p * q' ≤ p' * q := by
  rcases h.step with h0 | ⟨s, hs, sn, k, k0, e⟩
  · rw [h0, Int.zero_mul]; exact Int.mul_nonneg h'.p0 (by have := h.q1; omega)
  · have h1 : lens l k s.n ≤ width := by
      have := lens_mono (a := k) (b := s.n) (c := p) (d := q) hn (by omega) h.q1 (by omega)
      have := h.fit
      omega
    have h2 := h'.max s hs sn k k0 h1
    apply cancel_le (show (1 : Int) ≤ s.n by omega)
    have h3 : k * q' * q ≤ p' * s.n * q := Int.mul_le_mul_of_nonneg_right h2 (by have := h.q1; omega)
    have e1 : p * q' * s.n = p * s.n * q' := Int.mul_right_comm _ _ _
    have e2 : p' * q * s.n = p' * s.n * q := Int.mul_right_comm _ _ _
    have e3 : k * q * q' = k * q' * q := Int.mul_right_comm _ _ _
    rw [e1, e2, e, e3]
    exact h3

theorem lowest {p q p' q' : Int} (hq : 1 ≤ q) (hq' : 1 ≤ q') (h : Int.gcd p q = 1) (h' : Int.gcd p' q' = 1) (e : p * q' = p' * q) : p = p' ∧ q = q' := by
  have d1 : q ∣ q' := by
    have : q ∣ p * q' := ⟨p', by rw [e, Int.mul_comm]⟩
    have h2 := Int.dvd_gcd_mul_iff_dvd_mul.2 this
    rw [Int.gcd_comm, h] at h2
    simpa using h2
  have d2 : q' ∣ q := by
    have : q' ∣ p' * q := ⟨p, by rw [← e, Int.mul_comm]⟩
    have h2 := Int.dvd_gcd_mul_iff_dvd_mul.2 this
    rw [Int.gcd_comm, h'] at h2
    simpa using h2
  have e1 : q = q' := Int.le_antisymm (Int.le_of_dvd (by omega) d1) (Int.le_of_dvd (by omega) d2)
  subst e1
  exact ⟨Int.eq_of_mul_eq_mul_right (by omega) e, rfl⟩

theorem Low.unique {l : List Spr} {width p q p' q' : Int} (hn : ∀ s ∈ l, 0 ≤ s.n) (h : Low l width p q) (h' : Low l width p' q') : p = p' ∧ q = q' :=
  lowest h.q1 h'.q1 h.low h'.low (Int.le_antisymm (h.le hn h') (h'.le hn h))

end Go.Proofs.Ytajkmlejklgbbaa
