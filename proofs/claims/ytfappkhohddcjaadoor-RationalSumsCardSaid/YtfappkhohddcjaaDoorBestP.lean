/- Best approximations in plain integers: what is nearest, and how convergents and the search find it. No condition beyond the lemmas' own. -/
import Derived.Test.YtfappkhohddcjaaDoorRat2
namespace Go.Proofs.YtfappkhohddcjaaDoor

/-- how far P / Q is from n / d, times d * Q -/
def dist (n d P Q : Int) : Int := ((P * d - n * Q).natAbs : Int)
/-- (p, q) comes before (P, Q): it is nearer, or as near with a smaller denominator, or numerator -/
def Lex (n d p q P Q : Int) : Prop := dist n d p q * Q < dist n d P Q * q ∨ (dist n d p q * Q = dist n d P Q * q ∧ (q < Q ∨ (q = Q ∧ p < P)))
structure Nearest (n d most p q : Int) : Prop where
  one : 1 ≤ q
  le : q ≤ most
  best : ∀ P Q : Int, 1 ≤ Q → Q ≤ most → (P = p ∧ Q = q) ∨ Lex n d p q P Q

section
variable {n d most p q P Q : Int}
theorem dist_nonneg (n d P Q : Int) : 0 ≤ dist n d P Q := by unfold dist; omega
theorem Nearest.unique {p' q' : Int} (h : Nearest n d most p q) (k : Nearest n d most p' q') : p = p' ∧ q = q' := by
  rcases h.best p' q' k.one k.le with ⟨h1, h2⟩ | h1
  · exact ⟨h1.symm, h2.symm⟩
  · rcases k.best p q h.one h.le with ⟨k1, k2⟩ | k1
    · exact ⟨k1, k2⟩
    · exfalso
      unfold Lex at h1 k1
      omega
theorem nearest_self {a : Nat} {b : Nat} (hn : n.natAbs = a) (hd : d = b) (hb : 1 ≤ b) (hg : Nat.gcd a b = 1) (hm : d ≤ most) : Nearest n d most n d := by
  refine ⟨by omega, hm, fun P Q h1 h2 => ?_⟩
  have e0 : dist n d n d = 0 := by unfold dist; simp
  unfold Lex
  rw [e0, Int.zero_mul]
  have hdp : 0 < d := by omega
  rcases (show dist n d P Q = 0 ∨ 0 < dist n d P Q by have := dist_nonneg n d P Q; omega) with h | h
  · have e : P * d = n * Q := by unfold dist at h; omega
    have hdv : d ∣ n * Q := ⟨P, by rw [← e, Int.mul_comm]⟩
    have hnat : b ∣ a * Q.natAbs := by
      have := Int.natAbs_dvd_natAbs.2 hdv
      rw [Int.natAbs_mul, hn, hd, Int.natAbs_natCast] at this
      exact this
    have hq : b ∣ Q.natAbs := (Nat.Coprime.symm (show Nat.Coprime a b from hg)).dvd_of_dvd_mul_left hnat
    obtain ⟨j, hj⟩ := hq
    have hQ : Q = d * j := by
      have : (Q.natAbs : Int) = Q := Int.natAbs_of_nonneg (by omega)
      rw [← this, hj, hd]
      simp
    rcases (show j = 0 ∨ j = 1 ∨ 2 ≤ j by omega) with hj0 | hj0 | hj0
    · subst hj0; simp at hQ; omega
    · subst hj0
      have hQ' : Q = d := by simpa using hQ
      refine .inl ⟨?_, hQ'⟩
      rw [hQ'] at e
      exact Int.eq_of_mul_eq_mul_right (by omega) e
    · refine .inr (.inr ⟨by rw [h]; simp, .inl ?_⟩)
      rw [hQ]
      have : d * 2 ≤ d * (j : Int) := Int.mul_le_mul_of_nonneg_left (by omega) (by omega)
      omega
  · exact .inr (.inl (Int.mul_pos h hdp))

theorem lex_trans {p1 q1 p2 q2 p3 q3 : Int} (h1 : 0 < q1) (h2 : 0 < q2) (h3 : 0 < q3) (a : Lex n d p1 q1 p2 q2) (b : Lex n d p2 q2 p3 q3) : Lex n d p1 q1 p3 q3 := by
  unfold Lex at *
  obtain ⟨x, hx⟩ : ∃ x, x = dist n d p1 q1 := ⟨_, rfl⟩
  obtain ⟨y, hy⟩ : ∃ y, y = dist n d p2 q2 := ⟨_, rfl⟩
  obtain ⟨z, hz⟩ : ∃ z, z = dist n d p3 q3 := ⟨_, rfl⟩
  rw [← hx, ← hy] at a
  rw [← hy, ← hz] at b
  rw [← hx, ← hz]
  clear hx hy hz
  have a1 : x * q2 * q3 ≤ y * q1 * q3 := Int.mul_le_mul_of_nonneg_right (by omega) (by omega)
  have b1 : y * q3 * q1 ≤ z * q2 * q1 := Int.mul_le_mul_of_nonneg_right (by omega) (by omega)
  have e1 : y * q1 * q3 = y * q3 * q1 := by grind
  have e2 : x * q2 * q3 = (x * q3) * q2 := by grind
  have e3 : z * q2 * q1 = (z * q1) * q2 := by grind
  rcases a with a | ⟨a, a'⟩
  · have a2 : x * q2 * q3 < y * q1 * q3 := Int.mul_lt_mul_of_pos_right a h3
    exact .inl (Int.lt_of_mul_lt_mul_right (by omega : (x * q3) * q2 < (z * q1) * q2) (by omega))
  · rcases b with b | ⟨b, b'⟩
    · have b2 : y * q3 * q1 < z * q2 * q1 := Int.mul_lt_mul_of_pos_right b h1
      exact .inl (Int.lt_of_mul_lt_mul_right (by omega : (x * q3) * q2 < (z * q1) * q2) (by omega))
    · refine .inr ⟨?_, by omega⟩
      have a2 : x * q2 * q3 = y * q1 * q3 := by rw [a]
      have b2 : y * q3 * q1 = z * q2 * q1 := by rw [b]
      exact Int.eq_of_mul_eq_mul_right (show q2 ≠ 0 by omega) (by omega : (x * q3) * q2 = (z * q1) * q2)

/-- the search's step: both candidates of a denominator -/
theorem near_step {f : Int} {m : Int} (hd : 0 < d) (hf : f = n * (m + 1) / d) (hm : 1 ≤ m) (h : Nearest n d m p q)
    {p1 q1 p2 q2 : Int} (h1 : (dist n d f (m + 1) * q < dist n d p q * (m + 1) ∧ p1 = f ∧ q1 = m + 1) ∨ (¬ dist n d f (m + 1) * q < dist n d p q * (m + 1) ∧ p1 = p ∧ q1 = q))
    (h2 : (dist n d (f + 1) (m + 1) * q1 < dist n d p1 q1 * (m + 1) ∧ p2 = f + 1 ∧ q2 = m + 1) ∨ (¬ dist n d (f + 1) (m + 1) * q1 < dist n d p1 q1 * (m + 1) ∧ p2 = p1 ∧ q2 = q1)) :
    Nearest n d (m + 1) p2 q2 := by
  have o := h.one
  have l := h.le
  have k1 : (p1 = p ∧ q1 = q) ∨ Lex n d p1 q1 p q := by
    rcases h1 with ⟨a, rfl, rfl⟩ | ⟨a, rfl, rfl⟩
    · exact .inr (.inl a)
    · exact .inl ⟨rfl, rfl⟩
  have k2 : (p1 = f ∧ q1 = m + 1) ∨ Lex n d p1 q1 f (m + 1) := by
    rcases h1 with ⟨a, rfl, rfl⟩ | ⟨a, rfl, rfl⟩
    · exact .inl ⟨rfl, rfl⟩
    · refine .inr ?_; unfold Lex; omega
  have hq1 : 1 ≤ q1 ∧ q1 ≤ m + 1 := by omega
  have k3 : (p2 = p1 ∧ q2 = q1) ∨ Lex n d p2 q2 p1 q1 := by
    rcases h2 with ⟨a, rfl, rfl⟩ | ⟨a, rfl, rfl⟩
    · exact .inr (.inl a)
    · exact .inl ⟨rfl, rfl⟩
  have hpf : q1 = m + 1 → p1 = f := by omega
  have k4 : (p2 = f + 1 ∧ q2 = m + 1) ∨ Lex n d p2 q2 (f + 1) (m + 1) := by
    rcases h2 with ⟨a, rfl, rfl⟩ | ⟨a, rfl, rfl⟩
    · exact .inl ⟨rfl, rfl⟩
    · refine .inr ?_; unfold Lex; omega
  have hq2 : 1 ≤ q2 ∧ q2 ≤ m + 1 := by omega
  have go : ∀ P Q : Int, 1 ≤ Q → ((p1 = P ∧ q1 = Q) ∨ Lex n d p1 q1 P Q) → (P = p2 ∧ Q = q2) ∨ Lex n d p2 q2 P Q := by
    intro P Q hQ hx
    rcases k3 with ⟨e1, e2⟩ | k3
    · rcases hx with ⟨rfl, rfl⟩ | hx
      · exact .inl ⟨e1.symm, e2.symm⟩
      · rw [e1, e2]; exact .inr hx
    · rcases hx with ⟨rfl, rfl⟩ | hx
      · exact .inr k3
      · exact .inr (lex_trans (by omega) (by omega) (by omega) k3 hx)
  have hem := Int.mul_ediv_add_emod (n * (m + 1)) d
  have hm0 := Int.emod_nonneg (n * (m + 1)) (show d ≠ 0 by omega)
  have hml := Int.emod_lt_of_pos (n * (m + 1)) hd
  rw [← hf] at hem
  refine ⟨hq2.1, hq2.2, fun P Q hQ1 hQ2 => ?_⟩
  rcases (show Q ≤ m ∨ Q = m + 1 by omega) with hQ | hQ
  · rcases h.best P Q hQ1 hQ with ⟨rfl, rfl⟩ | hx
    · exact go _ _ hQ1 k1
    · refine go _ _ hQ1 (.inr ?_)
      rcases k1 with ⟨rfl, rfl⟩ | k1
      · exact hx
      · exact lex_trans (by omega) (by omega) (by omega) k1 hx
  · subst hQ
    have ed : d * f = f * d := Int.mul_comm _ _
    rcases (show P = f ∨ P = f + 1 ∨ P < f ∨ f + 1 < P by omega) with rfl | rfl | hP | hP
    · exact go _ _ hQ1 k2
    · rcases k4 with ⟨a, b⟩ | k4
      · exact .inl ⟨a.symm, b.symm⟩
      · exact .inr k4
    · refine go _ _ hQ1 (.inr ?_)
      have hlt : Lex n d f (m + 1) P (m + 1) := by
        refine .inl (Int.mul_lt_mul_of_pos_right ?_ (by omega))
        have : (P + 1) * d ≤ f * d := Int.mul_le_mul_of_nonneg_right (by omega) (by omega)
        rw [Int.add_mul, Int.one_mul] at this
        unfold dist
        omega
      rcases k2 with ⟨rfl, rfl⟩ | k2
      · exact hlt
      · exact lex_trans (by omega) (by omega) (by omega) k2 hlt
    · have hlt : Lex n d (f + 1) (m + 1) P (m + 1) := by
        refine .inl (Int.mul_lt_mul_of_pos_right ?_ (by omega))
        have h1 : (f + 2) * d ≤ P * d := Int.mul_le_mul_of_nonneg_right (by omega) (by omega)
        have h2 : (f + 1) * d = f * d + d := by rw [Int.add_mul, Int.one_mul]
        have h3 : (f + 2) * d = f * d + 2 * d := by rw [Int.add_mul]
        unfold dist
        omega
      rcases k4 with ⟨rfl, rfl⟩ | k4
      · exact .inr hlt
      · exact .inr (lex_trans (by omega) (by omega) (by omega) k4 hlt)

/-- the first step -/
theorem near_first {f : Int} (hd : 0 < d) (hf : f = n / d) {p2 : Int}
    (h2 : (dist n d (f + 1) 1 < dist n d f 1 ∧ p2 = f + 1) ∨ (¬ dist n d (f + 1) 1 < dist n d f 1 ∧ p2 = f)) : Nearest n d 1 p2 1 := by
  have hem := Int.mul_ediv_add_emod n d
  have hm0 := Int.emod_nonneg n (show d ≠ 0 by omega)
  have hml := Int.emod_lt_of_pos n hd
  rw [← hf] at hem
  have ed : d * f = f * d := Int.mul_comm _ _
  have h2' : (f + 1) * d = f * d + d := by rw [Int.add_mul, Int.one_mul]
  refine ⟨by omega, by omega, fun P Q hQ1 hQ2 => ?_⟩
  obtain rfl : Q = 1 := by omega
  unfold Lex
  simp only [Int.mul_one, and_true, true_and]
  rcases (show P = f ∨ P = f + 1 ∨ P < f ∨ f + 1 < P by omega) with rfl | rfl | hP | hP
  · rcases h2 with ⟨a, rfl⟩ | ⟨a, rfl⟩
    · exact .inr (.inl a)
    · exact .inl rfl
  · rcases h2 with ⟨a, rfl⟩ | ⟨a, rfl⟩
    · exact .inl rfl
    · omega
  · have : (P + 1) * d ≤ f * d := Int.mul_le_mul_of_nonneg_right (by omega) (by omega)
    rw [Int.add_mul, Int.one_mul] at this
    have hlt : dist n d f 1 < dist n d P 1 := by unfold dist; omega
    rcases h2 with ⟨a, rfl⟩ | ⟨a, rfl⟩ <;> omega
  · have h1 : (f + 2) * d ≤ P * d := Int.mul_le_mul_of_nonneg_right (by omega) (by omega)
    have h3 : (f + 2) * d = f * d + 2 * d := by rw [Int.add_mul]
    have hlt : dist n d (f + 1) 1 < dist n d P 1 := by unfold dist; omega
    rcases h2 with ⟨a, rfl⟩ | ⟨a, rfl⟩ <;> omega

/-- two neighbours around n / d, of which the first is not farther -/
theorem near_pair {p1 q1 p2 q2 b c : Int} (hb : 0 < b) (hc : 0 < c) (hq1 : 1 ≤ q1) (hq2 : 1 ≤ q2) (hm1 : q1 ≤ most) (hm : most < q1 + q2)
    (hn : n = b * p2 + c * p1) (hd : d = b * q2 + c * q1) (hdet : p1 * q2 - q1 * p2 = 1 ∨ p1 * q2 - q1 * p2 = -1)
    (hch : b * q2 < c * q1 ∨ (b * q2 = c * q1 ∧ ¬ (q2 < q1 ∨ (q2 = q1 ∧ p2 < p1)))) : Nearest n d most p1 q1 := by
  have e1 : p1 * d - n * q1 = b * (p1 * q2 - q1 * p2) := by rw [hn, hd]; grind
  have d1 : dist n d p1 q1 = b := by
    unfold dist
    rw [e1]
    rcases hdet with h | h <;> rw [h] <;> omega
  have b1 : 0 < b * q2 := Int.mul_pos hb (by omega)
  have c1 : 0 < c * q1 := Int.mul_pos hc (by omega)
  refine ⟨hq1, hm1, fun P Q h1 h2 => ?_⟩
  obtain ⟨u, v, hP, hQ⟩ : ∃ u v : Int, P = u * p1 + v * p2 ∧ Q = u * q1 + v * q2 := by
    rcases hdet with h | h
    · exact ⟨P * q2 - Q * p2, p1 * Q - q1 * P, by grind, by grind⟩
    · exact ⟨-(P * q2 - Q * p2), -(p1 * Q - q1 * P), by grind, by grind⟩
  have eE : P * d - n * Q = (u * b - v * c) * (p1 * q2 - q1 * p2) := by rw [hn, hd, hP, hQ]; grind
  unfold Lex
  rw [d1]
  have notboth : ¬ (0 < u ∧ 0 < v) := by
    rintro ⟨hu, hv⟩
    have a1 : 1 * q1 ≤ u * q1 := Int.mul_le_mul_of_nonneg_right (by omega) (by omega)
    have a2 : 1 * q2 ≤ v * q2 := Int.mul_le_mul_of_nonneg_right (by omega) (by omega)
    omega
  have notneither : ¬ (u ≤ 0 ∧ v ≤ 0) := by
    rintro ⟨hu, hv⟩
    have a1 : u * q1 ≤ 0 * q1 := Int.mul_le_mul_of_nonneg_right (by omega) (by omega)
    have a2 : v * q2 ≤ 0 * q2 := Int.mul_le_mul_of_nonneg_right (by omega) (by omega)
    omega
  have dE : dist n d P Q = ((u * b - v * c).natAbs : Int) := by
    unfold dist
    rw [eE]
    rcases hdet with h | h <;> rw [h] <;> omega
  rcases (show (0 < u ∧ v ≤ 0) ∨ (u ≤ 0 ∧ 0 < v) by omega) with ⟨hu, hv⟩ | ⟨hu, hv⟩
  · have t1 : 0 ≤ u * b := Int.mul_nonneg (by omega) (by omega)
    have t2 : v * c ≤ 0 * c := Int.mul_le_mul_of_nonneg_right (by omega) (by omega)
    have dE' : dist n d P Q = u * b - v * c := by rw [dE]; omega
    rw [dE']
    have key : (u * b - v * c) * q1 = b * Q + (-v) * (b * q2 + c * q1) := by rw [hQ]; grind
    rcases (show v = 0 ∨ v < 0 by omega) with hv0 | hv0
    · subst hv0
      simp only [Int.zero_mul, Int.add_zero] at hP hQ
      rcases (show u = 1 ∨ 2 ≤ u by omega) with hu1 | hu1
      · subst hu1; left; omega
      · right; right
        refine ⟨by rw [key]; simp, .inl ?_⟩
        have : 2 * q1 ≤ u * q1 := Int.mul_le_mul_of_nonneg_right hu1 (by omega)
        omega
    · right; left
      have : 0 < (-v) * (b * q2 + c * q1) := Int.mul_pos (by omega) (by omega)
      omega
  · have t1 : u * b ≤ 0 * b := Int.mul_le_mul_of_nonneg_right (by omega) (by omega)
    have t2 : 0 < v * c := Int.mul_pos (by omega) (by omega)
    have dE' : dist n d P Q = v * c - u * b := by rw [dE]; omega
    rw [dE']
    have key : (v * c - u * b) * q1 = b * Q + v * (c * q1 - b * q2) + (-u) * (2 * (b * q1)) := by rw [hQ]; grind
    have bq : 0 < b * q1 := Int.mul_pos hb (by omega)
    have k1 : 0 ≤ (-u) * (2 * (b * q1)) := Int.mul_nonneg (by omega) (by omega)
    rcases hch with hch | ⟨hch, hno⟩
    · right; left
      have : 0 < v * (c * q1 - b * q2) := Int.mul_pos (by omega) (by omega)
      omega
    · have k0 : c * q1 - b * q2 = 0 := by omega
      rw [k0, Int.mul_zero] at key
      rcases (show u = 0 ∨ u < 0 by omega) with hu0 | hu0
      · subst hu0
        simp only [Int.zero_mul, Int.zero_add] at hP hQ
        right; right
        refine ⟨by rw [key]; simp, ?_⟩
        rcases (show v = 1 ∨ 2 ≤ v by omega) with hv1 | hv1
        · subst hv1
          simp only [Int.one_mul] at hP hQ
          rw [hP, hQ]
          rcases (show q1 < q2 ∨ q2 = q1 ∨ q2 < q1 by omega) with h | h | h
          · exact .inl h
          · refine .inr ⟨h.symm, ?_⟩
            have hne : p1 ≠ p2 := by rintro rfl; rw [h] at hdet; rw [Int.mul_comm q1] at hdet; omega
            omega
          · exact absurd (.inl h) hno
        · left
          have : 2 * q2 ≤ v * q2 := Int.mul_le_mul_of_nonneg_right hv1 (by omega)
          omega
      · right; left
        have : 0 < (-u) * (2 * (b * q1)) := Int.mul_pos (by omega) (by omega)
        omega
end

/-- the state of the convergents: p0 / q0 and p1 / q1, with the rest a / b -/
structure Conv (n d most p0 q0 p1 q1 a b : Int) : Prop where
  en : n = a * p1 + b * p0
  ed : d = a * q1 + b * q0
  det : p1 * q0 - q1 * p0 = 1 ∨ p1 * q0 - q1 * p0 = -1
  b0 : 0 < b
  st : (q1 = 0 ∧ q0 = 1 ∧ p1 = 1 ∧ p0 = 0 ∧ a = n ∧ b = d) ∨ (1 ≤ q1 ∧ b < a ∧ a ≤ d)
  q0n : 0 ≤ q0
  q01 : q0 ≤ most
  q1m : q1 ≤ most
  one : 1 ≤ most
  gcd : ∀ g : Int, g ∣ n → g ∣ d → g ∣ 1
  big : most < d

section
variable {n d most p0 q0 p1 q1 a b : Int}
theorem Conv.start (hg : ∀ g : Int, g ∣ n → g ∣ d → g ∣ 1) (hm : 1 ≤ most) (hb : most < d) : Conv n d most 0 1 1 0 n d :=
  ⟨by omega, by omega, by omega, by omega, .inl ⟨rfl, rfl, rfl, rfl, rfl, rfl⟩, by omega, by omega, by omega, hm, hg, hb⟩
theorem Conv.kk (h : Conv n d most p0 q0 p1 q1 a b) : b * (a / b) ≤ a ∧ a < b * (a / b) + b ∧ a - a / b * b = a % b := by
  have h1 := Int.mul_ediv_add_emod a b
  have h2 := Int.emod_nonneg a (show b ≠ 0 by have := h.b0; omega)
  have h3 := Int.emod_lt_of_pos a h.b0
  have h4 : a / b * b = b * (a / b) := Int.mul_comm _ _
  omega
theorem Conv.step (h : Conv n d most p0 q0 p1 q1 a b) (hq : q0 + a / b * q1 ≤ most) :
    Conv n d most p1 q1 (p0 + a / b * p1) (q0 + a / b * q1) b (a - a / b * b) ∧ (a - a / b * b) < b := by
  obtain ⟨k1, k2, k3⟩ := h.kk
  have hb := h.b0
  obtain ⟨k, hk⟩ : ∃ k, k = a / b := ⟨_, rfl⟩
  rw [← hk] at k1 k2 k3 hq ⊢
  have ekb : k * b = b * k := Int.mul_comm _ _
  have r0 : 0 ≤ a - k * b := by omega
  have rb : a - k * b < b := by omega
  have en' : n = b * (p0 + k * p1) + (a - k * b) * p1 := by rw [h.en]; grind
  have ed' : d = b * (q0 + k * q1) + (a - k * b) * q1 := by rw [h.ed]; grind
  have hbd : b ≤ d := by have := h.st; omega
  have hst : 1 ≤ q0 + k * q1 := by
    rcases h.st with ⟨e1, e2, -⟩ | ⟨e1, e2, -⟩
    · rw [e1, e2]; simp
    · have hk1 : 1 ≤ k := by
        rcases (show 1 ≤ k ∨ k ≤ 0 by omega) with h' | h'
        · exact h'
        · have : b * k ≤ b * 0 := Int.mul_le_mul_of_nonneg_left h' (by omega)
          omega
      have : 1 * q1 ≤ k * q1 := Int.mul_le_mul_of_nonneg_right hk1 (by omega)
      have := h.q0n
      omega
  have hr : 0 < a - k * b := by
    rcases (show 0 < a - k * b ∨ a - k * b = 0 by omega) with h' | h'
    · exact h'
    · exfalso
      rw [h', Int.zero_mul, Int.add_zero] at en' ed'
      have := h.gcd b ⟨_, en'⟩ ⟨_, ed'⟩
      have hb1 : b ≤ 1 := Int.le_of_dvd (by omega) this
      have : b = 1 := by omega
      rw [this, Int.one_mul] at ed'
      have := h.big
      omega
  refine ⟨⟨en', ed', ?_, hr, .inr ⟨hst, rb, hbd⟩, ?_, h.q1m, hq, h.one, h.gcd, h.big⟩, rb⟩
  · have : (p0 + k * p1) * q1 - (q0 + k * q1) * p1 = -(p1 * q0 - q1 * p0) := by grind
    rw [this]
    have := h.det
    omega
  · have := h.st; omega
/-- the last convergent and semiconvergent -/
theorem Conv.fin (h : Conv n d most p0 q0 p1 q1 a b) (hq : most < q0 + a / b * q1) :
    1 ≤ q1 ∧ 0 ≤ (most - q0) / q1 ∧ (most - q0) / q1 ≤ most ∧ 1 ≤ q0 + (most - q0) / q1 * q1 ∧ q0 + (most - q0) / q1 * q1 ≤ most ∧ dist n d p1 q1 = b ∧ 0 < a - (most - q0) / q1 * b ∧ a - (most - q0) / q1 * b ≤ d ∧ dist n d (p0 + (most - q0) / q1 * p1) (q0 + (most - q0) / q1 * q1) = a - (most - q0) / q1 * b ∧
    ((¬ ((a - (most - q0) / q1 * b) * q1 < b * (q0 + (most - q0) / q1 * q1) ∨ ((a - (most - q0) / q1 * b) * q1 = b * (q0 + (most - q0) / q1 * q1) ∧ (q0 + (most - q0) / q1 * q1 < q1 ∨ (q0 + (most - q0) / q1 * q1 = q1 ∧ p0 + (most - q0) / q1 * p1 < p1)))) → Nearest n d most p1 q1) ∧
     (((a - (most - q0) / q1 * b) * q1 < b * (q0 + (most - q0) / q1 * q1) ∨ ((a - (most - q0) / q1 * b) * q1 = b * (q0 + (most - q0) / q1 * q1) ∧ (q0 + (most - q0) / q1 * q1 < q1 ∨ (q0 + (most - q0) / q1 * q1 = q1 ∧ p0 + (most - q0) / q1 * p1 < p1)))) → Nearest n d most (p0 + (most - q0) / q1 * p1) (q0 + (most - q0) / q1 * q1))) := by
  obtain ⟨k1, k2, k3⟩ := h.kk
  have hb := h.b0
  have hone := h.one
  have hq0 := h.q0n
  have hq0m := h.q01
  have hst : 1 ≤ q1 ∧ b < a ∧ a ≤ d := by
    rcases h.st with ⟨e1, e2, -⟩ | h'
    · rw [e1, e2] at hq; simp at hq; omega
    · exact h'
  obtain ⟨s1, s2, s3⟩ := hst
  have f1 := Int.mul_ediv_add_emod (most - q0) q1
  have f2 := Int.emod_nonneg (most - q0) (show q1 ≠ 0 by omega)
  have f3 := Int.emod_lt_of_pos (most - q0) (show 0 < q1 by omega)
  obtain ⟨k, hk⟩ : ∃ k, k = (most - q0) / q1 := ⟨_, rfl⟩
  obtain ⟨K, hK⟩ : ∃ K, K = a / b := ⟨_, rfl⟩
  rw [← hK] at k1 k2 k3 hq
  rw [← hk] at f1 ⊢
  have hk0 : 0 ≤ k := by rw [hk]; exact Int.ediv_nonneg (by omega) (by omega)
  have hkq : q1 * k = k * q1 := Int.mul_comm _ _
  have hkm : k ≤ most := by
    have : k * 1 ≤ k * q1 := Int.mul_le_mul_of_nonneg_left s1 hk0
    omega
  have hkK : k < K := by
    rcases (show k < K ∨ K ≤ k by omega) with h' | h'
    · exact h'
    · have : K * q1 ≤ k * q1 := Int.mul_le_mul_of_nonneg_right h' (by omega)
      omega
  have hc : 0 < a - k * b := by
    have h1 : (k + 1) * b ≤ K * b := Int.mul_le_mul_of_nonneg_right (by omega) (by omega)
    have h2 : (k + 1) * b = k * b + b := by rw [Int.add_mul, Int.one_mul]
    have h3 : K * b = b * K := Int.mul_comm _ _
    omega
  have hkb : 0 ≤ k * b := Int.mul_nonneg hk0 (by omega)
  obtain ⟨q2, hq2⟩ : ∃ q2, q2 = q0 + k * q1 := ⟨_, rfl⟩
  obtain ⟨p2, hp2⟩ : ∃ p2, p2 = p0 + k * p1 := ⟨_, rfl⟩
  obtain ⟨c, hcc⟩ : ∃ c, c = a - k * b := ⟨_, rfl⟩
  have hm1 := h.q1m
  have en : n = b * p2 + c * p1 := by rw [hp2, hcc, h.en]; grind
  have ed : d = b * q2 + c * q1 := by rw [hq2, hcc, h.ed]; grind
  have det : p1 * q2 - q1 * p2 = 1 ∨ p1 * q2 - q1 * p2 = -1 := by
    have : p1 * q2 - q1 * p2 = p1 * q0 - q1 * p0 := by rw [hq2, hp2]; grind
    rw [this]; exact h.det
  rw [← hq2, ← hp2, ← hcc]
  rw [← hcc] at hc
  have g1 : 1 ≤ q2 := by omega
  have g2 : q2 ≤ most := by omega
  have g3 : most < q1 + q2 := by omega
  have D1 : dist n d p1 q1 = b := by
    have e1 : p1 * d - n * q1 = b * (p1 * q2 - q1 * p2) := by rw [en, ed]; grind
    unfold dist
    rw [e1]
    rcases det with h | h <;> rw [h] <;> omega
  have D2 : dist n d p2 q2 = c := by
    have e1 : p2 * d - n * q2 = -(c * (p1 * q2 - q1 * p2)) := by rw [en, ed]; grind
    unfold dist
    rw [e1]
    rcases det with h | h <;> rw [h] <;> omega
  refine ⟨s1, hk0, hkm, g1, g2, D1, hc, by omega, D2, fun hn => ?_, fun hy => ?_⟩
  · exact near_pair hb hc s1 g1 hm1 g3 en ed det (by omega)
  · refine near_pair (p1 := p2) (q1 := q2) (p2 := p1) (q2 := q1) hc hb g1 s1 g2 (by omega) (by rw [en]; omega) (by rw [ed]; omega) ?_ (by omega)
    have : p2 * q1 - q2 * p1 = -(p1 * q2 - q1 * p2) := by grind
    rw [this]
    omega
/-- how great the numerators are -/
theorem Conv.bnd (h : Conv n d most p0 q0 p1 q1 a b) : -(n.natAbs * most + b) ≤ p1 * d ∧ p1 * d ≤ n.natAbs * most + b ∧ -(n.natAbs * most + a.natAbs) ≤ p0 * d ∧ p0 * d ≤ n.natAbs * most + a.natAbs := by
  have key : ∀ q : Int, 0 ≤ q → q ≤ most → -((n.natAbs : Int) * most) ≤ n * q ∧ n * q ≤ (n.natAbs : Int) * most := by
    intro q h1 h2
    have a1 : (n.natAbs : Int) * q ≤ n.natAbs * most := Int.mul_le_mul_of_nonneg_left h2 (by omega)
    rcases (show n = n.natAbs ∨ n = -(n.natAbs : Int) by omega) with e | e
    · have : n * q = (n.natAbs : Int) * q := by rw [← e]
      have : 0 ≤ (n.natAbs : Int) * q := Int.mul_nonneg (by omega) h1
      omega
    · have : n * q = -((n.natAbs : Int) * q) := by rw [← Int.neg_mul, ← e]
      have : 0 ≤ (n.natAbs : Int) * q := Int.mul_nonneg (by omega) h1
      omega
  have hq1 : 0 ≤ q1 := by have := h.st; omega
  have k1 := key q1 hq1 h.q1m
  have k0 := key q0 h.q0n h.q01
  have e1 : p1 * d - n * q1 = b * (p1 * q0 - q1 * p0) := by rw [h.en, h.ed]; grind
  have e0 : p0 * d - n * q0 = -(a * (p1 * q0 - q1 * p0)) := by rw [h.en, h.ed]; grind
  have hb := h.b0
  rcases h.det with hd | hd <;> rw [hd] at e1 e0 <;> omega
end

end Go.Proofs.YtfappkhohddcjaaDoor
