/- Fractions in lowest terms: plain laws of ofF. -/
import Derived.Test.YtfappkhohddcjaaDoorRat3
import Derived.Test.YtfappkhohddcjaaDoorParP
import Derived.Test.YtfappkhohddcjaaDoorSameR
namespace Go.Proofs.YtfappkhohddcjaaDoor

structure Low (n d : Int) : Prop where
  q : Fq n d
  g : Nat.gcd n.natAbs d.natAbs = 1

theorem div_mul_gcd {a b : Nat} : a / Nat.gcd a b * Nat.gcd a b = a ∧ b / Nat.gcd a b * Nat.gcd a b = b :=
  ⟨Nat.div_mul_cancel (Nat.gcd_dvd_left a b), Nat.div_mul_cancel (Nat.gcd_dvd_right a b)⟩

/-- a result without an error is the fraction, in lowest terms -/
theorem ofF_val {a b : Int} (h : (ofF a b).e = 0) : b ≠ 0 ∧ (ofF a b).n * b = a * (ofF a b).d ∧ Low (ofF a b).n (ofF a b).d := by
  have hq := ofF_fq a b
  by_cases hb : b = 0
  · subst hb; rw [ofF_zero] at h; exact absurd h (by decide)
  · refine ⟨hb, ?_⟩
    rw [ofF_pos hb] at h hq ⊢
    unfold redF at h hq ⊢
    by_cases hc : 1073741824 < a.natAbs / Nat.gcd a.natAbs b.natAbs ∨ 1073741824 < b.natAbs / Nat.gcd a.natAbs b.natAbs
    · rw [if_pos hc] at h; exact absurd h (by decide)
    · rw [if_neg hc] at h hq ⊢
      have hg : 0 < Nat.gcd a.natAbs b.natAbs := Nat.gcd_pos_of_pos_right _ (by omega)
      obtain ⟨e1, e2⟩ := div_mul_gcd (a := a.natAbs) (b := b.natAbs)
      have hco : Nat.gcd (a.natAbs / Nat.gcd a.natAbs b.natAbs) (b.natAbs / Nat.gcd a.natAbs b.natAbs) = 1 := by rw [Nat.gcd_div (Nat.gcd_dvd_left _ _) (Nat.gcd_dvd_right _ _), Nat.div_self hg]
      obtain ⟨g, hgg⟩ : ∃ g, g = Nat.gcd a.natAbs b.natAbs := ⟨_, rfl⟩
      rw [← hgg] at e1 e2 hco hq ⊢
      obtain ⟨x, hx⟩ : ∃ x, x = a.natAbs / g := ⟨_, rfl⟩
      obtain ⟨y, hy⟩ : ∃ y, y = b.natAbs / g := ⟨_, rfl⟩
      rw [← hx] at e1 hco hq ⊢
      rw [← hy] at e2 hco hq ⊢
      clear hx hy hgg hg hc h
      have e1' : (x : Int) * (g : Int) = (a.natAbs : Int) := by rw [← e1]; simp
      have e2' : (y : Int) * (g : Int) = (b.natAbs : Int) := by rw [← e2]; simp
      have hs : ∀ neg : Bool, (decide (a < 0) != decide (b < 0)) = neg → ((if neg = true then -(x : Int) else (x : Int)) * b = a * (y : Int) ∧ Nat.gcd (if neg = true then -(x : Int) else (x : Int)).natAbs ((y : Int)).natAbs = 1) := by
        intro neg hneg
        have ha : a = (a.natAbs : Int) ∧ ¬ a < 0 ∨ a = -(a.natAbs : Int) ∧ a < 0 := by omega
        have hbb : b = (b.natAbs : Int) ∧ ¬ b < 0 ∨ b = -(b.natAbs : Int) ∧ b < 0 := by omega
        refine ⟨?_, by split <;> simpa using hco⟩
        rcases ha with ⟨ha, ha'⟩ | ⟨ha, ha'⟩ <;> rcases hbb with ⟨hbb, hb'⟩ | ⟨hbb, hb'⟩ <;> simp only [ha', hb', decide_true, decide_false] at hneg <;> subst hneg <;> rw [ha, hbb, ← e1', ← e2'] <;> simp <;> grind
      obtain ⟨k1, k2⟩ := hs _ rfl
      exact ⟨k1, ⟨hq, k2⟩⟩

/-- the fraction in lowest terms is what Of returns -/
theorem ofF_of_cross {a b n d : Int} (hb : b ≠ 0) (hl : Low n d) (hc : n * b = a * d) : ofF a b = ⟨n, d, 0⟩ := by
  obtain ⟨⟨h1, h2, h3, h4⟩, hg⟩ := hl
  -- a = n t, b = d t
  have hdv : d ∣ b := by
    have h5 : d ∣ n * b := ⟨a, by rw [hc, Int.mul_comm]⟩
    have h6 : d.natAbs ∣ n.natAbs * b.natAbs := by
      have := Int.natAbs_dvd_natAbs.2 h5
      rwa [Int.natAbs_mul] at this
    exact Int.natAbs_dvd_natAbs.1 ((Nat.Coprime.symm (show Nat.Coprime n.natAbs d.natAbs from hg)).dvd_of_dvd_mul_left h6)
  obtain ⟨t, rfl⟩ := hdv
  have ha : a = n * t := by
    have : (n * t) * d = a * d := by rw [← hc]; grind
    exact (Int.eq_of_mul_eq_mul_right (by omega) this).symm
  subst ha
  have ht : t ≠ 0 := by rintro rfl; simp at hb
  rw [ofF_pos hb]
  have hgcd : Nat.gcd (n * t).natAbs (d * t).natAbs = t.natAbs := by
    rw [Int.natAbs_mul, Int.natAbs_mul, Nat.gcd_mul_right, hg, Nat.one_mul]
  have ht' : 0 < t.natAbs := by omega
  rw [redF_eq hgcd.symm]
  have d1 : (n * t).natAbs / t.natAbs = n.natAbs := by rw [Int.natAbs_mul]; exact Nat.mul_div_cancel _ ht'
  have d2 : (d * t).natAbs / t.natAbs = d.natAbs := by rw [Int.natAbs_mul]; exact Nat.mul_div_cancel _ ht'
  rw [d1, d2, if_neg (by omega)]
  have e3 : ((d.natAbs : Nat) : Int) = d := by omega
  rw [e3]
  have hneg : ∀ neg : Bool, (decide (n * t < 0) != decide (d * t < 0)) = neg → (if neg = true then -((n.natAbs : Nat) : Int) else ((n.natAbs : Nat) : Int)) = n := by
    intro neg hn
    rcases (show 0 < t ∨ t < 0 by omega) with h | h
    · have k2 : 0 < d * t := Int.mul_pos (by omega) h
      rcases (show n < 0 ∨ n = 0 ∨ 0 < n by omega) with k | k | k
      · have k1 : n * t < 0 := Int.mul_neg_of_neg_of_pos k h
        rw [decide_eq_true k1, decide_eq_false (by omega)] at hn
        subst hn
        rw [if_pos (by rfl)]; omega
      · subst k; split <;> simp
      · have k1 : 0 < n * t := Int.mul_pos k h
        rw [decide_eq_false (by omega), decide_eq_false (by omega)] at hn
        subst hn
        rw [if_neg (by simp)]; omega
    · have k2 : d * t < 0 := Int.mul_neg_of_pos_of_neg (by omega) h
      rcases (show n < 0 ∨ n = 0 ∨ 0 < n by omega) with k | k | k
      · have k1 : 0 < n * t := Int.mul_pos_of_neg_of_neg k h
        rw [decide_eq_false (by omega), decide_eq_true k2] at hn
        subst hn
        rw [if_pos (by rfl)]; omega
      · subst k; split <;> simp
      · have k1 : n * t < 0 := Int.mul_neg_of_pos_of_neg k h
        rw [decide_eq_true k1, decide_eq_true k2] at hn
        subst hn
        rw [if_neg (by simp)]; omega
  rw [hneg _ rfl]

theorem ofF_shape {a b : Int} (hb : b ≠ 0) (h : ¬ (ofF a b).e = 0) : ofF a b = ⟨0, 1, 14⟩ := by
  rw [ofF_pos hb] at h ⊢
  unfold redF at h ⊢
  by_cases hc : 1073741824 < a.natAbs / Nat.gcd a.natAbs b.natAbs ∨ 1073741824 < b.natAbs / Nat.gcd a.natAbs b.natAbs
  · rw [if_pos hc]
  · rw [if_neg hc] at h; exact absurd rfl h

/-- equal fractions have equal results -/
theorem ofF_congr {a b a' b' : Int} (hb : b ≠ 0) (hb' : b' ≠ 0) (h : a * b' = a' * b) : ofF a b = ofF a' b' := by
  have key : ∀ {a b a' b' : Int}, b ≠ 0 → b' ≠ 0 → a * b' = a' * b → (ofF a b).e = 0 → ofF a' b' = ofF a b := by
    intro a b a' b' hb hb' h he
    obtain ⟨_, h1, h2⟩ := ofF_val he
    have h3 : (ofF a b).n * b' = a' * (ofF a b).d := by
      have : ((ofF a b).n * b') * b = (a' * (ofF a b).d) * b := by
        have e1 : ((ofF a b).n * b') * b = ((ofF a b).n * b) * b' := by grind
        rw [e1, h1]
        have e2 : (a * (ofF a b).d) * b' = (a * b') * (ofF a b).d := by grind
        rw [e2, h]; grind
      exact Int.eq_of_mul_eq_mul_right hb this
    rw [ofF_of_cross hb' h2 h3, ← he]
  by_cases he : (ofF a b).e = 0
  · exact (key hb hb' h he).symm
  · by_cases he' : (ofF a' b').e = 0
    · exact key hb' hb (by omega) he'
    · rw [ofF_shape hb he, ofF_shape hb' he']

theorem Low.eq {n d m e : Int} (h : Low n d) (k : Low m e) (hc : n * e = m * d) : n = m ∧ d = e := by
  have h1 := ofF_of_cross (a := m) (b := e) (by have := k.q.2.2.1; omega) h hc
  have h2 := ofF_of_cross (a := m) (b := e) (by have := k.q.2.2.1; omega) k rfl
  rw [h1] at h2
  injection h2 with e1 e2
  exact ⟨e1, e2⟩
theorem ofF_low0 (n d : Int) : Low (ofF n d).n (ofF n d).d := by
  by_cases he : (ofF n d).e = 0
  · exact (ofF_val he).2.2
  · obtain ⟨e1, e2⟩ := ofF_err n d he
    rw [e1, e2]
    exact ⟨⟨by omega, by omega, by omega, by omega⟩, rfl⟩
/-- what 'of' makes has no error -/
theorem cl_low (n d : Int) : (ofF (clN n) (clD d)).e = 0 := by
  have h1 : -1073741824 ≤ clN n ∧ clN n ≤ 1073741824 := by unfold clN; omega
  have h2 : 1 ≤ clD d ∧ clD d ≤ 1073741824 := by unfold clD; omega
  rw [ofF_pos (by omega)]
  unfold redF
  have k1 := Nat.div_le_self (clN n).natAbs (Nat.gcd (clN n).natAbs (clD d).natAbs)
  have k2 := Nat.div_le_self (clD d).natAbs (Nat.gcd (clN n).natAbs (clD d).natAbs)
  rw [if_neg (by omega)]

end Go.Proofs.YtfappkhohddcjaaDoor
