/- Reading a fraction's own text: a plain law. -/
import Derived.Test.YtfappkhohddcjaaDoorOfL
import Derived.Test.YtfappkhohddcjaaDoorDig
namespace Go.Proofs.YtfappkhohddcjaaDoor

theorem dig_ofNat {k : Nat} (h : k < 10) : isD (UInt8.ofNat (48 + k)) = true ∧ (UInt8.ofNat (48 + k)).toNat = 48 + k := by
  have e : (UInt8.ofNat (48 + k)).toNat = 48 + k := by simp; omega
  exact ⟨isD_iff.2 (by omega), e⟩
theorem dec_all : ∀ (m : Nat), (∀ c ∈ Lib.decDigits m, isD c = true) ∧ decV (Lib.decDigits m) = m ∧ 1 ≤ (Lib.decDigits m).length := by
  intro m
  induction m using Nat.strongRecOn with
  | _ m ih =>
  by_cases h : m < 10
  · rw [Lib.decDigits, dif_pos h]
    obtain ⟨h1, h2⟩ := dig_ofNat h
    refine ⟨fun c hc => by simp at hc; rw [hc]; simpa using h1, ?_, by simp⟩
    show decV [UInt8.ofNat (48 + m)] = m
    simp only [decV, List.foldl]
    rw [h2]; omega
  · rw [Lib.decDigits, dif_neg h]
    obtain ⟨h1, h2⟩ := dig_ofNat (show m % 10 < 10 by omega)
    obtain ⟨i1, i2, i3⟩ := ih (m / 10) (by omega)
    refine ⟨fun c hc => ?_, ?_, by simp⟩
    · rcases List.mem_append.1 hc with hc | hc
      · exact i1 c hc
      · rw [List.mem_singleton] at hc; rw [hc]; exact h1
    · rw [decV_snoc, i2, h2]; omega
theorem dec_len : ∀ (k m : Nat), 1 ≤ k → m < 10 ^ k → (Lib.decDigits m).length ≤ k
  | 0, _, h, _ => by omega
  | k + 1, m, _, hm => by
    by_cases h : m < 10
    · rw [Lib.decDigits, dif_pos h]; simp
    · rw [Lib.decDigits, dif_neg h]
      rcases Nat.eq_zero_or_pos k with hk | hk
      · subst hk; simp at hm; omega
      · have := dec_len k (m / 10) hk (by rw [Nat.pow_succ] at hm; omega)
        simp
        exact this
theorem runD_app : ∀ (l r : List UInt8), (∀ c ∈ l, isD c = true) → (∀ c, r[0]? = some c → isD c = false) → runD (l ++ r) = l.length
  | [], r, _, hr => by
    cases r with
    | nil => rfl
    | cons c r =>
      have := hr c rfl
      show (if isD c = true then runD r + 1 else 0) = 0
      rw [this]; rfl
  | c :: l, r, hl, hr => by
    have h1 := hl c (by simp)
    have h2 := runD_app l r (fun c hc => hl c (by simp [hc])) hr
    show (if isD c = true then runD (l ++ r) + 1 else 0) = l.length + 1
    rw [h1, h2]; rfl
/-- a numeral inside a text is read whole -/
theorem numF_dig (p r : List UInt8) (m : Nat) (hm : m ≤ 1073741824) (hr : ∀ c, r[0]? = some c → isD c = false) :
    numF (p ++ (Lib.decDigits m ++ r)) p.length = ⟨m, p.length + (Lib.decDigits m).length, 0⟩ := by
  obtain ⟨h1, h2, h3⟩ := dec_all m
  have h4 := dec_len 10 m (by omega) (by omega)
  have e : (p ++ (Lib.decDigits m ++ r)).drop p.length = Lib.decDigits m ++ r := List.drop_left
  unfold numF
  rw [e, runD_app _ _ h1 hr, if_neg (by omega), if_neg (by omega), List.take_left, h2]
theorem first_dig (m : Nat) (r : List UInt8) : ∃ c l, Lib.decDigits m ++ r = c :: l ∧ isD c = true := by
  obtain ⟨h1, _, h3⟩ := dec_all m
  match hd : Lib.decDigits m with
  | [] => rw [hd] at h3; simp at h3
  | c :: l => exact ⟨c, l ++ r, rfl, h1 c (by rw [hd]; simp)⟩

theorem slash_ok {p l : List UInt8} {n : Int} {d : Int} {N : Int} (hl : Low n d) (ht : textF n d = l) (hN : N = n) (hp : l = p ++ (if 1 < d then 47 :: Lib.decDigits d.toNat else [])) : slash l N p.length = (⟨n, d, 0⟩, 0) := by
  subst hN
  have hq := hl.q
  obtain ⟨q1, q2, q3, q4⟩ := hq
  have hfin : ∀ k, l.length ≤ k → finF l N d k = (⟨N, d, 0⟩, 0) := by
    intro k hk
    have e : ofF N d = ⟨N, d, 0⟩ := ofF_of_cross (by omega) hl rfl
    rw [finF, if_neg (by omega), e, if_pos ⟨rfl, ht⟩]
  by_cases hd : 1 < d
  · rw [if_pos hd] at hp
    have e0 : l[p.length]? = some 47 := by rw [hp]; simp
    have e1 : l = (p ++ [47]) ++ (Lib.decDigits d.toNat ++ []) := by rw [hp]; simp
    have e2 : p.length + 1 = (p ++ [47]).length := by simp
    have e3 := numF_dig (p ++ [47]) [] d.toNat (by omega) (by simp)
    rw [← e1, ← e2] at e3
    rw [slash, if_pos e0, e3, if_pos rfl]
    show finF l N ((d.toNat : Nat) : Int) _ = _
    rw [show ((d.toNat : Nat) : Int) = d by omega]
    refine hfin _ ?_
    rw [e1]
    simp
    omega
  · rw [if_neg hd, List.append_nil] at hp
    have e0 : l[p.length]? = none := by rw [hp]; simp
    have hd1 : d = 1 := by omega
    rw [slash, if_neg (by rw [e0]; simp), ← hd1]
    exact hfin _ (by rw [hp]; simp)

/-- reading the text of a fraction in lowest terms gives it back -/
theorem parF_text {n d : Int} (hl : Low n d) : parF (textF n d) = (⟨n, d, 0⟩, 0) := by
  obtain ⟨q1, q2, q3, q4⟩ := hl.q
  have ht : textF n d = Lib.itoa n ++ if 1 < d then 47 :: Lib.decDigits d.toNat else [] := by
    rw [textF, itoa_abs d, if_neg (show ¬ d < 0 by omega), show d.natAbs = d.toNat by omega]
  obtain ⟨R, hR⟩ : ∃ R, R = if 1 < d then 47 :: Lib.decDigits d.toNat else ([] : List UInt8) := ⟨_, rfl⟩
  have hr : ∀ c, R[0]? = some c → isD c = false := by
    intro c hc
    rw [hR] at hc
    split at hc
    · simp at hc; rw [← hc]; rfl
    · simp at hc
  rw [← hR] at ht
  obtain ⟨l, hl'⟩ : ∃ l, l = textF n d := ⟨_, rfl⟩
  rw [← hl'] at ht ⊢
  rw [itoa_abs] at ht
  by_cases hn : n < 0
  · rw [if_pos hn] at ht
    have hs : signF l = 1 := by rw [signF, ht]; rfl
    have e1 := numF_dig [45] R n.natAbs (by omega) hr
    have e2 : l = [45] ++ (Lib.decDigits n.natAbs ++ R) := by rw [ht]; simp
    rw [← e2] at e1
    rw [parF, hs, show (1 : Nat) = ([45] : List UInt8).length from rfl, e1, if_pos rfl, if_pos rfl]
    have e3 : ([45] : List UInt8).length + (Lib.decDigits n.natAbs).length = ([45] ++ Lib.decDigits n.natAbs).length := by simp; omega
    show slash l (-((n.natAbs : Nat) : Int)) (([45] : List UInt8).length + (Lib.decDigits n.natAbs).length) = _
    rw [e3]
    exact slash_ok hl hl'.symm (by omega) (by rw [← hR, ht]; simp)
  · rw [if_neg hn] at ht
    obtain ⟨c, l', hc, hd⟩ := first_dig n.natAbs R
    have hs : signF l = 0 := by
      rw [signF, ht, hc, if_neg]
      intro h
      simp at h
      rw [h] at hd
      exact absurd hd (by decide)
    have e1 := numF_dig [] R n.natAbs (by omega) hr
    have e2 : l = [] ++ (Lib.decDigits n.natAbs ++ R) := by rw [ht]; simp
    rw [← e2] at e1
    rw [parF, hs, show (0 : Nat) = ([] : List UInt8).length from rfl, e1, if_pos rfl, if_neg (by simp)]
    show slash l ((n.natAbs : Nat) : Int) (([] : List UInt8).length + (Lib.decDigits n.natAbs).length) = _
    rw [show ([] : List UInt8).length + (Lib.decDigits n.natAbs).length = (Lib.decDigits n.natAbs).length by simp]
    exact slash_ok hl hl'.symm (by omega) (by rw [← hR, ht])
theorem textF_len {n d : Int} (h : Fq n d) : (textF n d).length ≤ 43 := by
  obtain ⟨q1, q2, q3, q4⟩ := h
  have h1 := Lib.itoa_length_le n (by omega) (by omega)
  have h2 := Lib.itoa_length_le d (by omega) (by omega)
  unfold textF
  split <;> simp <;> omega

end Go.Proofs.YtfappkhohddcjaaDoor
