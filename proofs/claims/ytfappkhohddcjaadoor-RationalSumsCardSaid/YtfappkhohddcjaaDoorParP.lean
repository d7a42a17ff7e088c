/- What a text means: plain lemmas. -/
import Derived.Test.YtfappkhohddcjaaDoorDig
import Derived.Test.YtfappkhohddcjaaDoorNum
import Derived.Test.YtfappkhohddcjaaDoorRat10
import Derived.Lib.Strings
namespace Go.Proofs.YtfappkhohddcjaaDoor
open Go.RowKit

/-- the end of a text that has been read: the fraction, if the text is its own -/
def finF (l : List UInt8) (n d : Int) (at_ : Nat) : Fr × Nat :=
  if at_ < l.length then (⟨0, 1, 6⟩, at_) else if (ofF n d).e = 0 ∧ textF (ofF n d).n (ofF n d).d = l then (ofF n d, 0) else (⟨0, 1, 3⟩, 0)
def slash (l : List UInt8) (n : Int) (k : Nat) : Fr × Nat :=
  if l[k]? = some 47 then (if (numF l (k + 1)).e = 0 then finF l n (numF l (k + 1)).v (numF l (k + 1)).at_ else (⟨0, 1, (numF l (k + 1)).e⟩, (numF l (k + 1)).at_)) else finF l n 1 k
def signF (l : List UInt8) : Nat := if l[0]? = some 45 then 1 else 0
def parF (l : List UInt8) : Fr × Nat :=
  if (numF l (signF l)).e = 0 then slash l (if signF l = 1 then -((numF l (signF l)).v : Int) else (numF l (signF l)).v) (numF l (signF l)).at_ else (⟨0, 1, (numF l (signF l)).e⟩, (numF l (signF l)).at_)

theorem decV_bound (l : List UInt8) (h : ∀ c ∈ l, isD c = true) (hl : l.length ≤ 10) : decV l ≤ 9999999999 := by
  have h1 := decV_lt l h
  have h2 : 10 ^ l.length ≤ 10 ^ 10 := Nat.pow_le_pow_right (by omega) hl
  omega
theorem numF_at (l : List UInt8) (fr : Nat) (h : fr ≤ l.length) : (numF l fr).at_ ≤ l.length ∧ (numF l fr).v ≤ 9999999999 := by
  have h1 := runD_le (l.drop fr)
  rw [List.length_drop] at h1
  unfold numF
  split
  · split <;> exact ⟨by simpa using h, by simp⟩
  · split
    · exact ⟨h, by simp⟩
    · refine ⟨by show fr + runD (l.drop fr) ≤ l.length; omega, ?_⟩
      refine decV_bound _ (fun c hc => ?_) (by rw [List.length_take, List.length_drop]; omega)
      obtain ⟨j, hj, rfl⟩ := List.mem_iff_getElem.1 hc
      rw [List.length_take, List.length_drop] at hj
      obtain ⟨c', e1, e2⟩ := runD_dig (l := l.drop fr) (j := j) (by omega)
      rw [List.getElem_take]
      have := List.getElem?_eq_some_iff.1 e1
      obtain ⟨_, e3⟩ := this
      rw [e3]; exact e2
theorem fq_aux (neg : Bool) (x y : Nat) (hx : x ≤ 1073741824) (h1 : 1 ≤ y) (hy : y ≤ 1073741824) : Fq (if neg = true then -(x : Int) else (x : Int)) (y : Int) := by
  unfold Fq
  cases neg
  · rw [if_neg (by simp)]; omega
  · rw [if_pos rfl]; omega
theorem ofF_fq (n d : Int) : Fq (ofF n d).n (ofF n d).d := by
  by_cases hd : d = 0
  · subst hd; rw [ofF_zero]; exact ⟨by simp, by simp, by simp, by simp⟩
  · rw [ofF_pos hd]
    unfold redF
    by_cases h : 1073741824 < n.natAbs / Nat.gcd n.natAbs d.natAbs ∨ 1073741824 < d.natAbs / Nat.gcd n.natAbs d.natAbs
    · rw [if_pos h]; exact ⟨by simp, by simp, by simp, by simp⟩
    · rw [if_neg h]
      have hg : 0 < Nat.gcd n.natAbs d.natAbs := Nat.gcd_pos_of_pos_right _ (by omega)
      have h1 : 1 ≤ d.natAbs / Nat.gcd n.natAbs d.natAbs := (Nat.one_le_div_iff hg).2 (Nat.le_of_dvd (by omega) (Nat.gcd_dvd_right _ _))
      obtain ⟨x, hx⟩ : ∃ x, x = n.natAbs / Nat.gcd n.natAbs d.natAbs := ⟨_, rfl⟩
      obtain ⟨y, hy⟩ : ∃ y, y = d.natAbs / Nat.gcd n.natAbs d.natAbs := ⟨_, rfl⟩
      rw [← hx, ← hy] at h
      rw [← hy] at h1
      rw [← hx, ← hy]
      clear hx hy hg
      exact fq_aux _ x y (by omega) h1 (by omega)
theorem toList_len (s : ByteArray) : s.data.toList.length = s.size := Array.length_toList
theorem get_bool {s : ByteArray} {k : Nat} {h : k < s.size} {c : UInt8} {m : Int} (hm : m = (c.toNat : Int)) : (s.data.toList[k]? = some c ↔ (((s[k]'h).toNat : Int) == m) = true) ∧ (¬ s.data.toList[k]? = some c ↔ (((s[k]'h).toNat : Int) == m) = false) := by
  have key : s.data.toList[k]? = some c ↔ (((s[k]'h).toNat : Int) == m) = true := by
    rw [str_get s k h, hm]
    simp only [Option.some.injEq, beq_iff_eq]
    constructor
    · intro e; rw [e]
    · intro e; exact UInt8.toNat_inj.1 (by omega)
  exact ⟨key, by rw [key]; simp⟩
theorem str_nil {s : ByteArray} (h : s.size = 0) : s.toList = [] ∧ s.data.toList = [] := by
  have : s.data.toList = [] := List.eq_nil_of_length_eq_zero (by rw [toList_len]; exact h)
  exact ⟨by rw [ByteArray.toList_eq]; exact this, this⟩
theorem str_ne {s : ByteArray} (h : ¬ s.size = 0) : ¬ s.toList = [] ∧ (!s.toList.isEmpty) = true := by
  have h1 : ¬ s.toList = [] := by
    rw [ByteArray.toList_eq]
    intro e
    have := toList_len s
    rw [e] at this
    simp at this
    omega
  exact ⟨h1, by simpa using h1⟩
theorem ne_bool {T : List UInt8} {s : ByteArray} : (T = s.data.toList → (!T == s.toList) = false) ∧ (¬ T = s.data.toList → (!T == s.toList) = true) := by
  rw [ByteArray.toList_eq]
  exact ⟨fun h => by simp [h], fun h => by simp [h]⟩
section
variable {w0 w1 w2 : World} {k : Nat} {a b c d : Int}
theorem S1.set (h : S1 w0 k a b w1) (hk : w0.heap.size ≤ k) (c d : Int) : S1 w0 k c d ((w1.setCell ⟨k, 0, none⟩ (.int .i64 c)).setCell ⟨k, 1, none⟩ (.int .i64 d)) :=
  ⟨h.tx.set c d, (h.bel.setCell (by exact hk) _).setCell (by exact hk) _⟩
theorem S2.set1 (h : S2 w0 k a b c d w1) (hk : w0.heap.size ≤ k) (m n : Int) : S2 w0 k m n c d ((w1.setCell ⟨k, 0, none⟩ (.int .i64 m)).setCell ⟨k, 1, none⟩ (.int .i64 n)) :=
  ⟨h.tx.set m n, (h.ty.setOther _ _ (by omega) _).setOther _ _ (by omega) _, (h.bel.setCell (by exact hk) _).setCell (by exact hk) _⟩
end

end Go.Proofs.YtfappkhohddcjaaDoor
