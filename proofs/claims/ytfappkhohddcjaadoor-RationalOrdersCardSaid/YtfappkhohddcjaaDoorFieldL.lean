/- Laws of the operations on fractions in lowest terms, in plain integers. -/
import Derived.Test.YtfappkhohddcjaaDoorOfL
namespace Go.Proofs.YtfappkhohddcjaaDoor

def addN (F G : Fr) : Int := F.n * G.d + G.n * F.d
theorem mul_ne {a b : Int} (ha : 1 ≤ a) (hb : 1 ≤ b) : a * b ≠ 0 := by
  have := Int.mul_pos (show 0 < a by omega) (show 0 < b by omega)
  omega

theorem add_assoc_ofF {F G K A B : Fr} (lF : Low F.n F.d) (lG : Low G.n G.d) (lK : Low K.n K.d) (hA : A = ofF (F.n * G.d + G.n * F.d) (F.d * G.d)) (hB : B = ofF (G.n * K.d + K.n * G.d) (G.d * K.d))
    (eA : A.e = 0) (eB : B.e = 0) : ofF (F.n * B.d + B.n * F.d) (F.d * B.d) = ofF (A.n * K.d + K.n * A.d) (A.d * K.d) := by
  obtain ⟨_, a1, a2⟩ := ofF_val (a := F.n * G.d + G.n * F.d) (b := F.d * G.d) (by rw [← hA]; exact eA)
  obtain ⟨_, b1, b2⟩ := ofF_val (a := G.n * K.d + K.n * G.d) (b := G.d * K.d) (by rw [← hB]; exact eB)
  rw [← hA] at a1 a2
  rw [← hB] at b1 b2
  refine ofF_congr (mul_ne lF.q.2.2.1 b2.q.2.2.1) (mul_ne a2.q.2.2.1 lK.q.2.2.1) ?_
  have hg : G.d ≠ 0 := by have := lG.q.2.2.1; omega
  refine Int.eq_of_mul_eq_mul_right hg ?_
  have e1 : (A.n * K.d + K.n * A.d) * (F.d * B.d) * G.d = (A.n * (F.d * G.d)) * (K.d * B.d) + K.n * A.d * F.d * B.d * G.d := by grind
  have e2 : (F.n * B.d + B.n * F.d) * (A.d * K.d) * G.d = (B.n * (G.d * K.d)) * (F.d * A.d) + F.n * B.d * A.d * K.d * G.d := by grind
  rw [e1, e2, a1, b1]
  grind

theorem distrib_ofF {F G K B M X : Fr} (lF : Low F.n F.d) (lG : Low G.n G.d) (lK : Low K.n K.d) (hB : B = ofF (G.n * K.d + K.n * G.d) (G.d * K.d)) (hM : M = ofF (F.n * G.n) (F.d * G.d)) (hX : X = ofF (F.n * K.n) (F.d * K.d))
    (eB : B.e = 0) (eM : M.e = 0) (eX : X.e = 0) : ofF (F.n * B.n) (F.d * B.d) = ofF (M.n * X.d + X.n * M.d) (M.d * X.d) := by
  obtain ⟨_, b1, b2⟩ := ofF_val (a := G.n * K.d + K.n * G.d) (b := G.d * K.d) (by rw [← hB]; exact eB)
  obtain ⟨_, m1, m2⟩ := ofF_val (a := F.n * G.n) (b := F.d * G.d) (by rw [← hM]; exact eM)
  obtain ⟨_, x1, x2⟩ := ofF_val (a := F.n * K.n) (b := F.d * K.d) (by rw [← hX]; exact eX)
  rw [← hB] at b1 b2
  rw [← hM] at m1 m2
  rw [← hX] at x1 x2
  refine ofF_congr (mul_ne lF.q.2.2.1 b2.q.2.2.1) (mul_ne m2.q.2.2.1 x2.q.2.2.1) ?_
  refine Int.eq_of_mul_eq_mul_right (mul_ne lG.q.2.2.1 lK.q.2.2.1) ?_
  have e1 : F.n * B.n * (M.d * X.d) * (G.d * K.d) = (B.n * (G.d * K.d)) * (F.n * M.d * X.d) := by grind
  have e2 : (M.n * X.d + X.n * M.d) * (F.d * B.d) * (G.d * K.d) = (M.n * (F.d * G.d)) * (X.d * B.d * K.d) + (X.n * (F.d * K.d)) * (M.d * B.d * G.d) := by grind
  rw [e1, e2, b1, m1, x1]
  grind

theorem back_add {F G A : Fr} (lF : Low F.n F.d) (lG : Low G.n G.d) (hA : A = ofF (F.n * G.d + G.n * F.d) (F.d * G.d)) (eA : A.e = 0) :
    ofF (A.n * G.d + -G.n * A.d) (A.d * G.d) = ⟨F.n, F.d, 0⟩ := by
  obtain ⟨_, a1, a2⟩ := ofF_val (a := F.n * G.d + G.n * F.d) (b := F.d * G.d) (by rw [← hA]; exact eA)
  rw [← hA] at a1 a2
  refine ofF_of_cross (mul_ne a2.q.2.2.1 lG.q.2.2.1) lF ?_
  have e1 : (A.n * G.d + -G.n * A.d) * F.d = A.n * (F.d * G.d) - G.n * A.d * F.d := by grind
  rw [e1, a1]
  grind
theorem back_mul {F G M : Fr} (lF : Low F.n F.d) (_ : Low G.n G.d) (hM : M = ofF (F.n * G.n) (F.d * G.d)) (eM : M.e = 0) (hg : ¬ G.n = 0) :
    ofF (M.n * G.d) (M.d * G.n) = ⟨F.n, F.d, 0⟩ := by
  obtain ⟨_, a1, a2⟩ := ofF_val (a := F.n * G.n) (b := F.d * G.d) (by rw [← hM]; exact eM)
  rw [← hM] at a1 a2
  refine ofF_of_cross (Int.mul_ne_zero (by have := a2.q.2.2.1; omega) hg) lF ?_
  have e1 : M.n * G.d * F.d = M.n * (F.d * G.d) := by grind
  rw [e1, a1]
  grind

theorem cmpQ_zero (x y : Int) : cmpQ x y = 0 ↔ x = y := by
  unfold cmpQ
  by_cases h1 : x < y
  · rw [if_pos h1]; omega
  · rw [if_neg h1]
    by_cases h2 : y < x
    · rw [if_pos h2]; omega
    · rw [if_neg h2]; omega
theorem cmpQ_le (x y : Int) : cmpQ x y ≤ 0 ↔ x ≤ y := by
  unfold cmpQ
  by_cases h1 : x < y
  · rw [if_pos h1]; omega
  · rw [if_neg h1]
    by_cases h2 : y < x
    · rw [if_pos h2]; omega
    · rw [if_neg h2]; omega
theorem cmpQ_val {x y x' y' : Int} (h1 : x < y ↔ x' < y') (h2 : y < x ↔ y' < x') : cmpQ x y = cmpQ x' y' := by
  unfold cmpQ
  simp only [h1, h2]
theorem lt_scale {x y t : Int} (ht : 0 < t) : x < y ↔ x * t < y * t := ⟨fun h => Int.mul_lt_mul_of_pos_right h ht, fun h => Int.lt_of_mul_lt_mul_right h (by omega)⟩
/-- fractions compare as their products: the order is transitive -/
theorem frac_trans {F G K : Fr} (lF : Low F.n F.d) (lG : Low G.n G.d) (lK : Low K.n K.d) (h1 : F.n * G.d ≤ G.n * F.d) (h2 : G.n * K.d ≤ K.n * G.d) : F.n * K.d ≤ K.n * F.d := by
  have f := lF.q.2.2.1
  have g := lG.q.2.2.1
  have k := lK.q.2.2.1
  have a1 : F.n * G.d * K.d ≤ G.n * F.d * K.d := Int.mul_le_mul_of_nonneg_right h1 (by omega)
  have a2 : G.n * K.d * F.d ≤ K.n * G.d * F.d := Int.mul_le_mul_of_nonneg_right h2 (by omega)
  have a3 : G.n * F.d * K.d = G.n * K.d * F.d := by grind
  have a4 : F.n * G.d * K.d = F.n * K.d * G.d := by grind
  have a5 : K.n * G.d * F.d = K.n * F.d * G.d := by grind
  exact Int.le_of_mul_le_mul_right (by omega : F.n * K.d * G.d ≤ K.n * F.d * G.d) (by omega)
/-- adding the same fraction keeps the order -/
theorem frac_add {F G K S T : Fr} (lF : Low F.n F.d) (lG : Low G.n G.d) (lK : Low K.n K.d) (hS : S = ofF (F.n * K.d + K.n * F.d) (F.d * K.d)) (hT : T = ofF (G.n * K.d + K.n * G.d) (G.d * K.d)) (eS : S.e = 0) (eT : T.e = 0) :
    cmpQ (S.n * T.d) (T.n * S.d) = cmpQ (F.n * G.d) (G.n * F.d) := by
  obtain ⟨_, s1, s2⟩ := ofF_val (a := F.n * K.d + K.n * F.d) (b := F.d * K.d) (by rw [← hS]; exact eS)
  obtain ⟨_, t1, t2⟩ := ofF_val (a := G.n * K.d + K.n * G.d) (b := G.d * K.d) (by rw [← hT]; exact eT)
  rw [← hS] at s1 s2
  rw [← hT] at t1 t2
  have f := lF.q.2.2.1
  have g := lG.q.2.2.1
  have k := lK.q.2.2.1
  have s := s2.q.2.2.1
  have t := t2.q.2.2.1
  have p1 : 0 < (F.d * K.d) * (G.d * K.d) := Int.mul_pos (Int.mul_pos (by omega) (by omega)) (Int.mul_pos (by omega) (by omega))
  have p2 : 0 < S.d * T.d * (K.d * K.d) := Int.mul_pos (Int.mul_pos (by omega) (by omega)) (Int.mul_pos (by omega) (by omega))
  have key : S.n * T.d * ((F.d * K.d) * (G.d * K.d)) - T.n * S.d * ((F.d * K.d) * (G.d * K.d)) = F.n * G.d * (S.d * T.d * (K.d * K.d)) - G.n * F.d * (S.d * T.d * (K.d * K.d)) := by
    have e1 : S.n * T.d * ((F.d * K.d) * (G.d * K.d)) = (S.n * (F.d * K.d)) * (T.d * (G.d * K.d)) := by grind
    have e2 : T.n * S.d * ((F.d * K.d) * (G.d * K.d)) = (T.n * (G.d * K.d)) * (S.d * (F.d * K.d)) := by grind
    rw [e1, e2, s1, t1]
    grind
  refine cmpQ_val ?_ ?_
  · rw [lt_scale p1, lt_scale (x := F.n * G.d) p2]; omega
  · rw [lt_scale p1, lt_scale (x := G.n * F.d) p2]; omega

end Go.Proofs.YtfappkhohddcjaaDoor
