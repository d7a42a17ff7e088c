/- Part 10 of what the statements need: lemmas and walks. -/
import Derived.Test.YtcihalbakenleaaGreatCt9
set_option linter.unusedVariables false
set_option maxRecDepth 20000
set_option maxHeartbeats 8000000
namespace Go.Proofs.YtcihalbakenleaaGreat
open Go.RowKit
theorem Gz (m : Me) (h : Mok m) : XC Tryz.prog 161 [.agg (Me.c m)] (fun r => r = dI m.u) := by
 have hu := h.unit
 exact An Aav Tryz.func161 R R lb<|zr<|XL.step R (As 1 (l := [.d (dI m.count), .d (dI m.unit), .d (dI m.g0), .d (dI m.g1), .d (dI m.g2), .d (dI m.g3), .d (dI m.g4), .d (dI m.g5)]) R R (by kernel_rfl))<|za R R<|znr<|zp (Ab R R Hl)<|zp (Aa R R Ai R R)<|zp (F8 R R R (by omega) (by omega) (by omega))<|za R R<|zn<|zt<|z1 R R (rI R)
theorem Sq (m : Me) (h : Mok m) : XC Tryz.prog 157 [.agg (Me.c m)] (fun r => r = dI m.len) := by
 have hu := h.u
 have hc := h.count
 have hl := h.len
 have hl2 : m.count * m.u = m.len := rfl
 refine An Aaz Tryz.func157 R R lb<|zr<|XL.step R (As 1 (l := [.d (dI m.count), .d (dI m.unit), .d (dI m.g0), .d (dI m.g1), .d (dI m.g2), .d (dI m.g3), .d (dI m.g4), .d (dI m.g5)]) R R (by kernel_rfl))<|za R R<|zn<|zs<|Bi [] (by kernel_rfl) (by kernel_rfl) (by kernel_rfl) (by decide)<|yp (Ab R R Dt)<|yp (Aa R R Ai R R)<|?_
 refine yp (Ae (s' := .d (.agg (Me.c m))) (Ac (Ad R R Bj R lb)) (by kernel_rfl))<|ChK.cons R (CStep.call R (Gz _ (by assumption)) R)<|yp (G9 R R R (by omega) (by omega))<|ya R R<|?_
 refine ChK.nil ⟨by kernel_rfl, ?_⟩
 exact zt<|z1 R R (rI R)
theorem Va : ∀ (l : List Int) (k : Nat) (s n s' n' : Int), gGo k s n l = some (s', n') → n ≤ k → (n < k → ∀ g ∈ l, g = 0) ∧ (n = k → l.filter nz = l.takeWhile fun g => decide (0 < g))
 | [], k, s, n, s', n', h, hn => ⟨fun _ g hg => (by cases hg), fun _ => rfl⟩
 | g :: l, k, s, n, s', n', h, hn => by
  rw [gGo] at h
  split at h
  ·cases h
  ·rename_i c
   split at h
   ·rename_i c2
    have hk : (k : Int) = n := by omega
    obtain ⟨h1, h2⟩ := Va l (k + 1) _ _ _ _ h (by omega)
    refine ⟨fun e => by omega, fun e => ?_⟩
    rw [List.filter_cons_of_pos (T6 (by omega)), List.takeWhile_cons_of_pos (by simpa using c2), h2 (by omega)]
   ·rename_i c2
    obtain ⟨h1, h2⟩ := Va l (k + 1) _ _ _ _ h (by omega)
    have h3 := h1 (by omega)
    refine ⟨fun e x hx => ?_, fun e => ?_⟩
    ·rcases List.mem_cons.1 hx with q | q
     ·omega
     ·exact h3 x q
    ·rw [List.filter_cons_of_neg (by rw [Ag8 (by omega)]; exact Bool.false_ne_true), List.takeWhile_cons_of_neg (by simpa using c2)]
     exact List.filter_eq_nil_iff.2 fun x hx => by rw [Ag8 (h3 x hx)]; exact Bool.false_ne_true
theorem U9 {m : Me} (h : m.grouped) : m.gs.filter nz = m.gs.takeWhile fun g => decide (0 < g) := by
 rcases h with h | h
 ·have : m.gs = [0, 0, 0, 0, 0, 0] := by unfold Me.flat at h; unfold Me.gs; rw [h.1, h.2.1, h.2.2.1, h.2.2.2.1, h.2.2.2.2.1, h.2.2.2.2.2]
  rw [this]; rfl
 ·cases hg : gGo 0 0 0 m.gs with
  | none => rw [hg] at h; exact h.elim
  | some p => exact (Va m.gs 0 0 0 p.1 p.2 hg (Int.le_refl _)).2 rfl
theorem Xi {p : Int → Bool} : ∀ {l : List Int} {k : Nat}, k ≤ l.length → (∀ (j : Nat) x, j < k → l[j]? = some x → p x = true) → (k = l.length ∨ ∃ x, l[k]? = some x ∧ p x = false) → l.takeWhile p = l.take k
 | [], k, _, _, _ => by rw [List.takeWhile_nil, List.take_nil]
 | x :: l, 0, _, _, h => by
  rcases h with h | ⟨y, h1, h2⟩
  ·simp at h
  ·cases h1; rw [List.takeWhile_cons_of_neg (by rw [h2]; decide)]; rfl
 | x :: l, k + 1, hk, h, h2 => by
  rw [List.takeWhile_cons_of_pos (h 0 x (by omega) rfl), List.take_succ_cons, Xi (k := k) (by simpa using hk) (fun j y hj hy => h (j + 1) y (by omega) hy)]
  rcases h2 with h2 | ⟨y, h4, h5⟩
  ·left; simpa using h2
  ·right; exact ⟨y, by simpa using h4, h5⟩
def Me.gsz (m : Me) : Int := if 8 ≤ m.unit ∧ m.count % 3 = 0 then 3 else 1
theorem Rm {m : Me} (h : 8 ≤ m.unit ∧ m.count % 3 = 0) : m.gsz = 3 := by rw [Me.gsz, if_pos h]
theorem Jw {m : Me} (h : ¬ (8 ≤ m.unit ∧ m.count % 3 = 0)) : m.gsz = 1 := by rw [Me.gsz, if_neg h]
theorem Aq0 (m : Me) : 1 ≤ m.gsz ∧ m.gsz ≤ 3 := by unfold Me.gsz; split <;> omega
theorem Og (m : Me) (j : Nat) : (j : Int) ≤ m.gsz * j := by unfold Me.gsz; split <;> omega
theorem Mk {m : Me} (h : m.flat) {j : Nat} (h1 : m.count ≤ m.gsz * j) (h2 : j = 0 ∨ m.gsz * (j - 1 : Nat) < m.count) (hc : 1 ≤ m.count) : List.replicate j m.gsz = m.groups := by
 unfold Me.gsz at *
 by_cases c : 8 ≤ m.unit ∧ m.count % 3 = 0
 ·rw [if_pos c] at h1 h2 ⊢
  rw [Ahn (fun k => k h) c, show j = (m.count / 3).toNat by omega]
 ·rw [if_neg c] at h1 h2 ⊢
  rw [Xw (fun k => k h) c, show j = m.count.toNat by omega]
theorem He {m : Me} (h : m.grouped) (h0 : m.g0 = 0) : m.flat := by
 have h1 := U9 h
 have : m.gs.takeWhile (fun g => decide (0 < g)) = [] := by
  show (m.g0 :: [m.g1, m.g2, m.g3, m.g4, m.g5]).takeWhile _ = []
  rw [List.takeWhile_cons_of_neg (by rw [h0]; decide)]
 rw [this, List.filter_eq_nil_iff] at h1
 have hz : ∀ g ∈ m.gs, g = 0 := fun g hg => by
  refine Decidable.not_not.1 fun k => h1 g hg (T6 k)
 unfold Me.flat
 unfold Me.gs at hz
 simp only [List.mem_cons, List.not_mem_nil, or_false, forall_eq_or_imp, forall_eq] at hz
 exact hz
theorem Alu {m : Me} (h : ¬ m.g0 = 0) : ¬ m.flat := fun k => h k.1
theorem K1 (n : Nat) (x : Int) : List.replicate (n + 1) x = List.replicate n x ++ [x] := List.replicate_succ'
theorem Gk {m : Me} (h : m.grouped) {k : Nat} (hk : m.gs.takeWhile (fun g => decide (0 < g)) = m.gs.take k) (h0 : ¬ m.g0 = 0) : m.gs.take k = m.groups := by rw [Xx (Alu h0), U9 h, hk]
theorem Kd {m : Me} (h : m.flat) {k : Nat} (hk : m.gs.takeWhile (fun g => decide (0 < g)) = m.gs.take k) : m.gs.take k = [] := by
 rw [← hk]
 show (m.g0 :: [m.g1, m.g2, m.g3, m.g4, m.g5]).takeWhile _ = []
 rw [List.takeWhile_cons_of_neg (by rw [h.1]; decide)]
theorem Rx (m : Me) (h : Mok m) : XC Tryz.prog 160 [.agg (Me.c m)] (fun r => r = .sl 1 (By m.groups)) := by
 have hgr := h.grp
 have hc := h.count
 have hz := Aq0 m
 have hgl : m.gs.length = 6 := rfl
 refine An Aaw Tryz.func160 R R lb<|zr<|XL.step R (As 1 (l := [.d (dI m.count), .d (dI m.unit), .d (dI m.g0), .d (dI m.g1), .d (dI m.g2), .d (dI m.g3), .d (dI m.g4), .d (dI m.g5)]) R R (by kernel_rfl))<|za R R<|znr<|za R R<|zn<|zs<|zr<|za R R<|zn<|Ah<|C7 900 3 3 1 R<|?_
 refine Aw (α := Nat) (fun k => k ≤ 6 ∧ ∀ (j : Nat) x, j < k → m.gs[j]? = some x → decide (0 < x) = true) (fun k => mkF [(1, .ptr 1 0 0), (2, .d (.v (.slice none 0 0))), (3, .own 900), (4, .d (dI (k : Nat)))]) (fun k => mkH [(1, .box ((Me.c m).map S.d)), (900, .row 3 1 ((m.gs.take k).map iv))]) (fun k => 6 - k) (0) (⟨Nat.zero_le _, fun j x hj => absurd hj (Nat.not_lt_zero _)⟩) ?_ ?_ ?_
 exact fz ⟨sr, sr, sr, sr, trivial⟩
 exact gz ⟨R, R, trivial⟩
 intro k hk0
 obtain ⟨hk, hall⟩ := hk0
 have htl : (m.gs.take k).length = k := by rw [List.length_take]; omega
 refine zs<|zr<|zm R R<|zp (Ar R R R)<|zm R R<|?_
 refine XL.dec 9 R (fun g9 => ?_) (fun g9 => ?_)
 obtain ⟨g, hg⟩ : ∃ g, m.gs[k]? = some g := Av (by omega)
 refine zm R R<|zp (Ab R R F3)<|zp (E9 R R R Tryz.underlying26 Cw (by omega))<|zp (Aa R R Ai R (Zk hg))<|zp (A7 R R R)<|zq R R R<|zn<|?_
 refine zd R (fun c15 => ?_) (fun c15 => ?_)
 refine zi<|zs<|Ah<|Af (by kernel_rfl)<|zp (Ax R (by conv => lhs; whnf))<|?_
 refine zm R R<|zp (Ab R R F3)<|zp (E9 R R R Tryz.underlying26 Cw (by omega))<|zp (Aa R R Ai R (Zk hg))<|XL.step R (Bg 23 R Tryz.underlying64 Cw Ee R R (by omega) (by omega))<|XL.step R (A4 R G5 (.own R) (Src.own R) (by unfold maxLen; simp; omega) (by simp; omega))<|zp (Ao R (by conv => lhs; whnf))<|?_
 refine zn<|Af (by kernel_rfl)<|zm R R<|zp (Aj R R R (by omega) (by omega))<|za R R<|zn<|?_
 exact Al (k + 1) (⟨by omega, fun j x hj hx => by by_cases e : j = k; (· subst e; rw [hg] at hx; cases hx; exact decide_eq_true c15); (· exact hall j x (by omega) hx)⟩) (by omega) (fz ⟨sr, sr, sr, sr, trivial⟩) (gz ⟨rfl, Ec rfl (Bk hg), trivial⟩)
 have htw := Xi (p := fun g => decide (0 < g)) (l := m.gs) (k := k) (by omega) hall (.inr ⟨g, hg, decide_eq_false c15⟩)
 refine Ap<|zr<|za R R<|zn<|zs<|zr<|zp (Ab R R Hl)<|zp (Aa R R Ai R R)<|zp (Dp R R R)<|zm R R<|?_
 refine XL.dec 28 R (fun g28 => ?_) (fun g28 => ?_)
 refine zp (Ab R R Dt)<|zp (Aa R R Ai R R)<|zp (D6 R R R (by omega) (by omega))<|zp (A1 R R R)<|zq R R R<|zn<|?_
 refine zd R (fun c33 => ?_) (fun c33 => ?_)
 refine Af (by kernel_rfl)<|za R R<|zn<|zs<|zr<|za R R<|zn<|Ah<|?_
 refine Aw (α := Nat) (fun j => m.gsz * j ≤ m.count + 2 ∧ (j = 0 ∨ (m.g0 = 0 ∧ m.gsz * (j - 1 : Nat) < m.count))) (fun j => mkF [(1, .ptr 1 0 0), (2, .d (.v (.slice none 0 0))), (3, .own 900), (5, .d (dI m.gsz)), (6, .d (dI (m.gsz * j)))]) (fun j => mkH [(1, .box ((Me.c m).map S.d)), (900, .row 3 1 ((m.gs.take k ++ List.replicate j m.gsz).map iv))]) (fun j => m.count.toNat + 3 - j) (0) (⟨by omega, .inl rfl⟩) ?_ ?_ ?_
 exact fz ⟨sr, sr, sr, .same (sI (by first | exact (Rm ⟨g28, c33⟩).symm | exact (Jw (fun k => c33 k.2)).symm | exact (Jw (fun k => g28 k.1)).symm)), .same (sI (by rw [Int.natCast_zero, Int.mul_zero])), trivial⟩
 exact gz ⟨R, by rw [List.replicate_zero, List.append_nil]; rfl, trivial⟩
 intro j hk2
 obtain ⟨hj1, hj2⟩ := hk2
 have hj0 := Og m j
 have hjj : j ≤ 66 := by unfold Me.gsz at hj1; split at hj1 <;> omega
 have hll : (m.gs.take k ++ List.replicate j m.gsz).length = k + j := by rw [List.length_append, List.length_replicate, List.length_take]; omega
 refine zs<|zr<|zm R R<|zp (Ab R R Dt)<|zp (Aa R R Ai R R)<|zp (Ar R R R)<|zm R R<|?_
 refine XL.dec 38 R (fun g38 => ?_) (fun g38 => ?_)
 refine zp (Ab R R F3)<|zp (E9 (k := 0) R R R Tryz.underlying26 Cw (by omega))<|zp (Aa R R Ai R R)<|zp (A1 R R R)<|zq R R R<|zn<|?_
 refine zd R (fun c43 => ?_) (fun c43 => ?_)
 refine zi<|zs<|Ah<|Af (by kernel_rfl)<|zp (Ax R (by conv => lhs; whnf))<|?_
 refine zm R R<|XL.step R (Bg 49 R Tryz.underlying64 Cw Ee R R (by omega) (by omega))<|XL.step R (A4 R G5 (.own R) (Src.own R) (by unfold maxLen; simp; omega) (by simp; omega))<|zp (Ao R (by conv => lhs; whnf))<|?_
 refine zn<|Af (by kernel_rfl)<|zm R R<|zm R R<|zp (Aj R R R (by omega) (by omega))<|za R R<|zn<|?_
 exact Al (j + 1) (⟨by rw [Int.natCast_add, Int.mul_add]; omega, .inr ⟨c43, by rw [Nat.add_sub_cancel]; exact g38⟩⟩) (by omega) (fz ⟨sr, sr, sr, sr, .same (sI (by rw [Int.natCast_add, Int.mul_add]; omega)), trivial⟩) (gz ⟨rfl, Ec rfl (by rw [K1, List.append_assoc]), trivial⟩)
 have hfin : (m.gs.take k ++ List.replicate j m.gsz) = m.groups := by rw [show j = 0 by omega, List.replicate_zero, List.append_nil]; exact Gk hgr htw c43
 refine Ap<|zr<|zp (Ax R (by conv => lhs; whnf))<|?_
 refine zp (Ao R (by conv => lhs; whnf))<|?_
 exact zn<|zt<|Bh (i := 900) R<|z1 R R (rSl hfin)
 have hfin : (m.gs.take k ++ List.replicate j m.gsz) = m.groups := by by_cases c0 : m.g0 = 0; (· rw [Kd (He hgr c0) htw, List.nil_append]; exact Mk (He hgr c0) (by omega) (by omega) hc.1); (· rw [show j = 0 by omega, List.replicate_zero, List.append_nil]; exact Gk hgr htw c0)
 refine zk 4 R<|zq R R R<|zn<|A3 (by kernel_rfl) R<|Ap<|zr<|zp (Ax R (by conv => lhs; whnf))<|?_
 refine zp (Ao R (by conv => lhs; whnf))<|?_
 exact zn<|zt<|Bh (i := 900) R<|z1 R R (rSl hfin)
 refine zi<|zs<|zr<|za R R<|zn<|Ah<|?_
 refine Aw (α := Nat) (fun j => m.gsz * j ≤ m.count + 2 ∧ (j = 0 ∨ (m.g0 = 0 ∧ m.gsz * (j - 1 : Nat) < m.count))) (fun j => mkF [(1, .ptr 1 0 0), (2, .d (.v (.slice none 0 0))), (3, .own 900), (5, .d (dI m.gsz)), (6, .d (dI (m.gsz * j)))]) (fun j => mkH [(1, .box ((Me.c m).map S.d)), (900, .row 3 1 ((m.gs.take k ++ List.replicate j m.gsz).map iv))]) (fun j => m.count.toNat + 3 - j) (0) (⟨by omega, .inl rfl⟩) ?_ ?_ ?_
 exact fz ⟨sr, sr, sr, .same (sI (by first | exact (Rm ⟨g28, c33⟩).symm | exact (Jw (fun k => c33 k.2)).symm | exact (Jw (fun k => g28 k.1)).symm)), .same (sI (by rw [Int.natCast_zero, Int.mul_zero])), trivial⟩
 exact gz ⟨R, by rw [List.replicate_zero, List.append_nil]; rfl, trivial⟩
 intro j hk2
 obtain ⟨hj1, hj2⟩ := hk2
 have hj0 := Og m j
 have hjj : j ≤ 66 := by unfold Me.gsz at hj1; split at hj1 <;> omega
 have hll : (m.gs.take k ++ List.replicate j m.gsz).length = k + j := by rw [List.length_append, List.length_replicate, List.length_take]; omega
 refine zs<|zr<|zm R R<|zp (Ab R R Dt)<|zp (Aa R R Ai R R)<|zp (Ar R R R)<|zm R R<|?_
 refine XL.dec 38 R (fun g38 => ?_) (fun g38 => ?_)
 refine zp (Ab R R F3)<|zp (E9 (k := 0) R R R Tryz.underlying26 Cw (by omega))<|zp (Aa R R Ai R R)<|zp (A1 R R R)<|zq R R R<|zn<|?_
 refine zd R (fun c43 => ?_) (fun c43 => ?_)
 refine zi<|zs<|Ah<|Af (by kernel_rfl)<|zp (Ax R (by conv => lhs; whnf))<|?_
 refine zm R R<|XL.step R (Bg 49 R Tryz.underlying64 Cw Ee R R (by omega) (by omega))<|XL.step R (A4 R G5 (.own R) (Src.own R) (by unfold maxLen; simp; omega) (by simp; omega))<|zp (Ao R (by conv => lhs; whnf))<|?_
 refine zn<|Af (by kernel_rfl)<|zm R R<|zm R R<|zp (Aj R R R (by omega) (by omega))<|za R R<|zn<|?_
 exact Al (j + 1) (⟨by rw [Int.natCast_add, Int.mul_add]; omega, .inr ⟨c43, by rw [Nat.add_sub_cancel]; exact g38⟩⟩) (by omega) (fz ⟨sr, sr, sr, sr, .same (sI (by rw [Int.natCast_add, Int.mul_add]; omega)), trivial⟩) (gz ⟨rfl, Ec rfl (by rw [K1, List.append_assoc]), trivial⟩)
 have hfin : (m.gs.take k ++ List.replicate j m.gsz) = m.groups := by rw [show j = 0 by omega, List.replicate_zero, List.append_nil]; exact Gk hgr htw c43
 refine Ap<|zr<|zp (Ax R (by conv => lhs; whnf))<|?_
 refine zp (Ao R (by conv => lhs; whnf))<|?_
 exact zn<|zt<|Bh (i := 900) R<|z1 R R (rSl hfin)
 have hfin : (m.gs.take k ++ List.replicate j m.gsz) = m.groups := by by_cases c0 : m.g0 = 0; (· rw [Kd (He hgr c0) htw, List.nil_append]; exact Mk (He hgr c0) (by omega) (by omega) hc.1); (· rw [show j = 0 by omega, List.replicate_zero, List.append_nil]; exact Gk hgr htw c0)
 refine zk 4 R<|zq R R R<|zn<|A3 (by kernel_rfl) R<|Ap<|zr<|zp (Ax R (by conv => lhs; whnf))<|?_
 refine zp (Ao R (by conv => lhs; whnf))<|?_
 exact zn<|zt<|Bh (i := 900) R<|z1 R R (rSl hfin)
 refine zk 4 R<|zq R R R<|zn<|A3 (by kernel_rfl) R<|zi<|zs<|zr<|za R R<|zn<|Ah<|?_
 refine Aw (α := Nat) (fun j => m.gsz * j ≤ m.count + 2 ∧ (j = 0 ∨ (m.g0 = 0 ∧ m.gsz * (j - 1 : Nat) < m.count))) (fun j => mkF [(1, .ptr 1 0 0), (2, .d (.v (.slice none 0 0))), (3, .own 900), (5, .d (dI m.gsz)), (6, .d (dI (m.gsz * j)))]) (fun j => mkH [(1, .box ((Me.c m).map S.d)), (900, .row 3 1 ((m.gs.take k ++ List.replicate j m.gsz).map iv))]) (fun j => m.count.toNat + 3 - j) (0) (⟨by omega, .inl rfl⟩) ?_ ?_ ?_
 exact fz ⟨sr, sr, sr, .same (sI (by first | exact (Rm ⟨g28, c33⟩).symm | exact (Jw (fun k => c33 k.2)).symm | exact (Jw (fun k => g28 k.1)).symm)), .same (sI (by rw [Int.natCast_zero, Int.mul_zero])), trivial⟩
 exact gz ⟨R, by rw [List.replicate_zero, List.append_nil]; rfl, trivial⟩
 intro j hk2
 obtain ⟨hj1, hj2⟩ := hk2
 have hj0 := Og m j
 have hjj : j ≤ 66 := by unfold Me.gsz at hj1; split at hj1 <;> omega
 have hll : (m.gs.take k ++ List.replicate j m.gsz).length = k + j := by rw [List.length_append, List.length_replicate, List.length_take]; omega
 refine zs<|zr<|zm R R<|zp (Ab R R Dt)<|zp (Aa R R Ai R R)<|zp (Ar R R R)<|zm R R<|?_
 refine XL.dec 38 R (fun g38 => ?_) (fun g38 => ?_)
 refine zp (Ab R R F3)<|zp (E9 (k := 0) R R R Tryz.underlying26 Cw (by omega))<|zp (Aa R R Ai R R)<|zp (A1 R R R)<|zq R R R<|zn<|?_
 refine zd R (fun c43 => ?_) (fun c43 => ?_)
 refine zi<|zs<|Ah<|Af (by kernel_rfl)<|zp (Ax R (by conv => lhs; whnf))<|?_
 refine zm R R<|XL.step R (Bg 49 R Tryz.underlying64 Cw Ee R R (by omega) (by omega))<|XL.step R (A4 R G5 (.own R) (Src.own R) (by unfold maxLen; simp; omega) (by simp; omega))<|zp (Ao R (by conv => lhs; whnf))<|?_
 refine zn<|Af (by kernel_rfl)<|zm R R<|zm R R<|zp (Aj R R R (by omega) (by omega))<|za R R<|zn<|?_
 exact Al (j + 1) (⟨by rw [Int.natCast_add, Int.mul_add]; omega, .inr ⟨c43, by rw [Nat.add_sub_cancel]; exact g38⟩⟩) (by omega) (fz ⟨sr, sr, sr, sr, .same (sI (by rw [Int.natCast_add, Int.mul_add]; omega)), trivial⟩) (gz ⟨rfl, Ec rfl (by rw [K1, List.append_assoc]), trivial⟩)
 have hfin : (m.gs.take k ++ List.replicate j m.gsz) = m.groups := by rw [show j = 0 by omega, List.replicate_zero, List.append_nil]; exact Gk hgr htw c43
 refine Ap<|zr<|zp (Ax R (by conv => lhs; whnf))<|?_
 refine zp (Ao R (by conv => lhs; whnf))<|?_
 exact zn<|zt<|Bh (i := 900) R<|z1 R R (rSl hfin)
 have hfin : (m.gs.take k ++ List.replicate j m.gsz) = m.groups := by by_cases c0 : m.g0 = 0; (· rw [Kd (He hgr c0) htw, List.nil_append]; exact Mk (He hgr c0) (by omega) (by omega) hc.1); (· rw [show j = 0 by omega, List.replicate_zero, List.append_nil]; exact Gk hgr htw c0)
 refine zk 4 R<|zq R R R<|zn<|A3 (by kernel_rfl) R<|Ap<|zr<|zp (Ax R (by conv => lhs; whnf))<|?_
 refine zp (Ao R (by conv => lhs; whnf))<|?_
 exact zn<|zt<|Bh (i := 900) R<|z1 R R (rSl hfin)
 have htw := Xi (p := fun g => decide (0 < g)) (l := m.gs) (k := k) (by omega) hall (.inl (by omega))
 refine zk 5 R<|zq R R R<|zn<|A3 (by kernel_rfl) R<|Ap<|zr<|za R R<|zn<|zs<|zr<|zp (Ab R R Hl)<|zp (Aa R R Ai R R)<|zp (Dp R R R)<|zm R R<|?_
 refine XL.dec 28 R (fun g28 => ?_) (fun g28 => ?_)
 refine zp (Ab R R Dt)<|zp (Aa R R Ai R R)<|zp (D6 R R R (by omega) (by omega))<|zp (A1 R R R)<|zq R R R<|zn<|?_
 refine zd R (fun c33 => ?_) (fun c33 => ?_)
 refine Af (by kernel_rfl)<|za R R<|zn<|zs<|zr<|za R R<|zn<|Ah<|?_
 refine Aw (α := Nat) (fun j => m.gsz * j ≤ m.count + 2 ∧ (j = 0 ∨ (m.g0 = 0 ∧ m.gsz * (j - 1 : Nat) < m.count))) (fun j => mkF [(1, .ptr 1 0 0), (2, .d (.v (.slice none 0 0))), (3, .own 900), (5, .d (dI m.gsz)), (6, .d (dI (m.gsz * j)))]) (fun j => mkH [(1, .box ((Me.c m).map S.d)), (900, .row 3 1 ((m.gs.take k ++ List.replicate j m.gsz).map iv))]) (fun j => m.count.toNat + 3 - j) (0) (⟨by omega, .inl rfl⟩) ?_ ?_ ?_
 exact fz ⟨sr, sr, sr, .same (sI (by first | exact (Rm ⟨g28, c33⟩).symm | exact (Jw (fun k => c33 k.2)).symm | exact (Jw (fun k => g28 k.1)).symm)), .same (sI (by rw [Int.natCast_zero, Int.mul_zero])), trivial⟩
 exact gz ⟨R, by rw [List.replicate_zero, List.append_nil]; rfl, trivial⟩
 intro j hk2
 obtain ⟨hj1, hj2⟩ := hk2
 have hj0 := Og m j
 have hjj : j ≤ 66 := by unfold Me.gsz at hj1; split at hj1 <;> omega
 have hll : (m.gs.take k ++ List.replicate j m.gsz).length = k + j := by rw [List.length_append, List.length_replicate, List.length_take]; omega
 refine zs<|zr<|zm R R<|zp (Ab R R Dt)<|zp (Aa R R Ai R R)<|zp (Ar R R R)<|zm R R<|?_
 refine XL.dec 38 R (fun g38 => ?_) (fun g38 => ?_)
 refine zp (Ab R R F3)<|zp (E9 (k := 0) R R R Tryz.underlying26 Cw (by omega))<|zp (Aa R R Ai R R)<|zp (A1 R R R)<|zq R R R<|zn<|?_
 refine zd R (fun c43 => ?_) (fun c43 => ?_)
 refine zi<|zs<|Ah<|Af (by kernel_rfl)<|zp (Ax R (by conv => lhs; whnf))<|?_
 refine zm R R<|XL.step R (Bg 49 R Tryz.underlying64 Cw Ee R R (by omega) (by omega))<|XL.step R (A4 R G5 (.own R) (Src.own R) (by unfold maxLen; simp; omega) (by simp; omega))<|zp (Ao R (by conv => lhs; whnf))<|?_
 refine zn<|Af (by kernel_rfl)<|zm R R<|zm R R<|zp (Aj R R R (by omega) (by omega))<|za R R<|zn<|?_
 exact Al (j + 1) (⟨by rw [Int.natCast_add, Int.mul_add]; omega, .inr ⟨c43, by rw [Nat.add_sub_cancel]; exact g38⟩⟩) (by omega) (fz ⟨sr, sr, sr, sr, .same (sI (by rw [Int.natCast_add, Int.mul_add]; omega)), trivial⟩) (gz ⟨rfl, Ec rfl (by rw [K1, List.append_assoc]), trivial⟩)
 have hfin : (m.gs.take k ++ List.replicate j m.gsz) = m.groups := by rw [show j = 0 by omega, List.replicate_zero, List.append_nil]; exact Gk hgr htw c43
 refine Ap<|zr<|zp (Ax R (by conv => lhs; whnf))<|?_
 refine zp (Ao R (by conv => lhs; whnf))<|?_
 exact zn<|zt<|Bh (i := 900) R<|z1 R R (rSl hfin)
 have hfin : (m.gs.take k ++ List.replicate j m.gsz) = m.groups := by by_cases c0 : m.g0 = 0; (· rw [Kd (He hgr c0) htw, List.nil_append]; exact Mk (He hgr c0) (by omega) (by omega) hc.1); (· rw [show j = 0 by omega, List.replicate_zero, List.append_nil]; exact Gk hgr htw c0)
 refine zk 4 R<|zq R R R<|zn<|A3 (by kernel_rfl) R<|Ap<|zr<|zp (Ax R (by conv => lhs; whnf))<|?_
 refine zp (Ao R (by conv => lhs; whnf))<|?_
 exact zn<|zt<|Bh (i := 900) R<|z1 R R (rSl hfin)
 refine zi<|zs<|zr<|za R R<|zn<|Ah<|?_
 refine Aw (α := Nat) (fun j => m.gsz * j ≤ m.count + 2 ∧ (j = 0 ∨ (m.g0 = 0 ∧ m.gsz * (j - 1 : Nat) < m.count))) (fun j => mkF [(1, .ptr 1 0 0), (2, .d (.v (.slice none 0 0))), (3, .own 900), (5, .d (dI m.gsz)), (6, .d (dI (m.gsz * j)))]) (fun j => mkH [(1, .box ((Me.c m).map S.d)), (900, .row 3 1 ((m.gs.take k ++ List.replicate j m.gsz).map iv))]) (fun j => m.count.toNat + 3 - j) (0) (⟨by omega, .inl rfl⟩) ?_ ?_ ?_
 exact fz ⟨sr, sr, sr, .same (sI (by first | exact (Rm ⟨g28, c33⟩).symm | exact (Jw (fun k => c33 k.2)).symm | exact (Jw (fun k => g28 k.1)).symm)), .same (sI (by rw [Int.natCast_zero, Int.mul_zero])), trivial⟩
 exact gz ⟨R, by rw [List.replicate_zero, List.append_nil]; rfl, trivial⟩
 intro j hk2
 obtain ⟨hj1, hj2⟩ := hk2
 have hj0 := Og m j
 have hjj : j ≤ 66 := by unfold Me.gsz at hj1; split at hj1 <;> omega
 have hll : (m.gs.take k ++ List.replicate j m.gsz).length = k + j := by rw [List.length_append, List.length_replicate, List.length_take]; omega
 refine zs<|zr<|zm R R<|zp (Ab R R Dt)<|zp (Aa R R Ai R R)<|zp (Ar R R R)<|zm R R<|?_
 refine XL.dec 38 R (fun g38 => ?_) (fun g38 => ?_)
 refine zp (Ab R R F3)<|zp (E9 (k := 0) R R R Tryz.underlying26 Cw (by omega))<|zp (Aa R R Ai R R)<|zp (A1 R R R)<|zq R R R<|zn<|?_
 refine zd R (fun c43 => ?_) (fun c43 => ?_)
 refine zi<|zs<|Ah<|Af (by kernel_rfl)<|zp (Ax R (by conv => lhs; whnf))<|?_
 refine zm R R<|XL.step R (Bg 49 R Tryz.underlying64 Cw Ee R R (by omega) (by omega))<|XL.step R (A4 R G5 (.own R) (Src.own R) (by unfold maxLen; simp; omega) (by simp; omega))<|zp (Ao R (by conv => lhs; whnf))<|?_
 refine zn<|Af (by kernel_rfl)<|zm R R<|zm R R<|zp (Aj R R R (by omega) (by omega))<|za R R<|zn<|?_
 exact Al (j + 1) (⟨by rw [Int.natCast_add, Int.mul_add]; omega, .inr ⟨c43, by rw [Nat.add_sub_cancel]; exact g38⟩⟩) (by omega) (fz ⟨sr, sr, sr, sr, .same (sI (by rw [Int.natCast_add, Int.mul_add]; omega)), trivial⟩) (gz ⟨rfl, Ec rfl (by rw [K1, List.append_assoc]), trivial⟩)
 have hfin : (m.gs.take k ++ List.replicate j m.gsz) = m.groups := by rw [show j = 0 by omega, List.replicate_zero, List.append_nil]; exact Gk hgr htw c43
 refine Ap<|zr<|zp (Ax R (by conv => lhs; whnf))<|?_
 refine zp (Ao R (by conv => lhs; whnf))<|?_
 exact zn<|zt<|Bh (i := 900) R<|z1 R R (rSl hfin)
 have hfin : (m.gs.take k ++ List.replicate j m.gsz) = m.groups := by by_cases c0 : m.g0 = 0; (· rw [Kd (He hgr c0) htw, List.nil_append]; exact Mk (He hgr c0) (by omega) (by omega) hc.1); (· rw [show j = 0 by omega, List.replicate_zero, List.append_nil]; exact Gk hgr htw c0)
 refine zk 4 R<|zq R R R<|zn<|A3 (by kernel_rfl) R<|Ap<|zr<|zp (Ax R (by conv => lhs; whnf))<|?_
 refine zp (Ao R (by conv => lhs; whnf))<|?_
 exact zn<|zt<|Bh (i := 900) R<|z1 R R (rSl hfin)
 refine zk 4 R<|zq R R R<|zn<|A3 (by kernel_rfl) R<|zi<|zs<|zr<|za R R<|zn<|Ah<|?_
 refine Aw (α := Nat) (fun j => m.gsz * j ≤ m.count + 2 ∧ (j = 0 ∨ (m.g0 = 0 ∧ m.gsz * (j - 1 : Nat) < m.count))) (fun j => mkF [(1, .ptr 1 0 0), (2, .d (.v (.slice none 0 0))), (3, .own 900), (5, .d (dI m.gsz)), (6, .d (dI (m.gsz * j)))]) (fun j => mkH [(1, .box ((Me.c m).map S.d)), (900, .row 3 1 ((m.gs.take k ++ List.replicate j m.gsz).map iv))]) (fun j => m.count.toNat + 3 - j) (0) (⟨by omega, .inl rfl⟩) ?_ ?_ ?_
 exact fz ⟨sr, sr, sr, .same (sI (by first | exact (Rm ⟨g28, c33⟩).symm | exact (Jw (fun k => c33 k.2)).symm | exact (Jw (fun k => g28 k.1)).symm)), .same (sI (by rw [Int.natCast_zero, Int.mul_zero])), trivial⟩
 exact gz ⟨R, by rw [List.replicate_zero, List.append_nil]; rfl, trivial⟩
 intro j hk2
 obtain ⟨hj1, hj2⟩ := hk2
 have hj0 := Og m j
 have hjj : j ≤ 66 := by unfold Me.gsz at hj1; split at hj1 <;> omega
 have hll : (m.gs.take k ++ List.replicate j m.gsz).length = k + j := by rw [List.length_append, List.length_replicate, List.length_take]; omega
 refine zs<|zr<|zm R R<|zp (Ab R R Dt)<|zp (Aa R R Ai R R)<|zp (Ar R R R)<|zm R R<|?_
 refine XL.dec 38 R (fun g38 => ?_) (fun g38 => ?_)
 refine zp (Ab R R F3)<|zp (E9 (k := 0) R R R Tryz.underlying26 Cw (by omega))<|zp (Aa R R Ai R R)<|zp (A1 R R R)<|zq R R R<|zn<|?_
 refine zd R (fun c43 => ?_) (fun c43 => ?_)
 refine zi<|zs<|Ah<|Af (by kernel_rfl)<|zp (Ax R (by conv => lhs; whnf))<|?_
 refine zm R R<|XL.step R (Bg 49 R Tryz.underlying64 Cw Ee R R (by omega) (by omega))<|XL.step R (A4 R G5 (.own R) (Src.own R) (by unfold maxLen; simp; omega) (by simp; omega))<|zp (Ao R (by conv => lhs; whnf))<|?_
 refine zn<|Af (by kernel_rfl)<|zm R R<|zm R R<|zp (Aj R R R (by omega) (by omega))<|za R R<|zn<|?_
 exact Al (j + 1) (⟨by rw [Int.natCast_add, Int.mul_add]; omega, .inr ⟨c43, by rw [Nat.add_sub_cancel]; exact g38⟩⟩) (by omega) (fz ⟨sr, sr, sr, sr, .same (sI (by rw [Int.natCast_add, Int.mul_add]; omega)), trivial⟩) (gz ⟨rfl, Ec rfl (by rw [K1, List.append_assoc]), trivial⟩)
 have hfin : (m.gs.take k ++ List.replicate j m.gsz) = m.groups := by rw [show j = 0 by omega, List.replicate_zero, List.append_nil]; exact Gk hgr htw c43
 refine Ap<|zr<|zp (Ax R (by conv => lhs; whnf))<|?_
 refine zp (Ao R (by conv => lhs; whnf))<|?_
 exact zn<|zt<|Bh (i := 900) R<|z1 R R (rSl hfin)
 have hfin : (m.gs.take k ++ List.replicate j m.gsz) = m.groups := by by_cases c0 : m.g0 = 0; (· rw [Kd (He hgr c0) htw, List.nil_append]; exact Mk (He hgr c0) (by omega) (by omega) hc.1); (· rw [show j = 0 by omega, List.replicate_zero, List.append_nil]; exact Gk hgr htw c0)
 refine zk 4 R<|zq R R R<|zn<|A3 (by kernel_rfl) R<|Ap<|zr<|zp (Ax R (by conv => lhs; whnf))<|?_
 refine zp (Ao R (by conv => lhs; whnf))<|?_
 exact zn<|zt<|Bh (i := 900) R<|z1 R R (rSl hfin)
end Go.Proofs.YtcihalbakenleaaGreat
namespace Go.Proofs.YtcihalbakenleaaGreat
open Go.RowKit
theorem Agy (m : Me) (h : Mok m) : XC Tryz.prog 179 [.agg (Me.c m)] (fun r => r = .sl 1 (By m.beats)) := by
 have hg := h.groups
 have hu := h.u
 have hbl := Q2 m
 have hgl := hg.len
 refine An Aaf Tryz.func179 R R lb<|zr<|XL.step R (As 1 (l := [.d (dI m.count), .d (dI m.unit), .d (dI m.g0), .d (dI m.g1), .d (dI m.g2), .d (dI m.g3), .d (dI m.g4), .d (dI m.g5)]) R R (by kernel_rfl))<|za R R<|znr<|za R R<|znr<|zp (Ae (s' := .d (.agg (Me.c m))) (Ac (Ad R R Bj R lb)) (by kernel_rfl))<|XL.call1 R R (Rx _ (by assumption)) R<|za R R<|znr<|?_
 refine za R R<|zn<|zs<|zr<|za R R<|zn<|Ah<|C7 900 3 3 1 R<|?_
 refine Aw (α := Nat) (fun k => k ≤ m.groups.length) (fun k => mkF [(1, .ptr 1 0 0), (2, .d (.v (.slice none 0 0))), (3, .own 900), (4, .d (.sl 1 (By m.groups))), (5, .d (dI (tot (m.groups.take k) * m.u))), (6, .d (dI k))]) (fun k => mkH [(1, .box ((Me.c m).map S.d)), (900, .row 3 1 ((m.beats.take k).map iv))]) (fun k => m.groups.length - k) (0) (Nat.zero_le _) ?_ ?_ ?_
 exact fz ⟨sr, sr, sr, sr, .same (sI (by rw [List.take_zero]; show 0 = 0 * m.u; omega)), sr, trivial⟩
 exact gz ⟨R, R, trivial⟩
 intro k hk0
 refine zs<|zr<|zm R R<|zm R R<|XL.len R R R Tryz.underlying64 fun hl11=>zp (Ar R R R)<|zn<|?_
 refine zd R (fun c12 => ?_) (fun c12 => ?_)
 have hk0a : k < m.groups.length := by omega
 obtain ⟨x0, hx0⟩ := Av hk0a
 have hx1 := hg.bd x0 (List.mem_of_getElem? hx0)
 have ht1 := hg.tot k
 have ht2 := hg.tot (k + 1)
 have hb1 := Oe ht1.1 ht1.2 (by omega) hu.2
 have hb2 := Oe ht2.1 ht2.2 (by omega) hu.2
 have hb3 := Oe hx1.1 (by omega : x0 ≤ 4096) (by omega) hu.2
 have hst : tot (m.groups.take (k + 1)) * m.u = tot (m.groups.take k) * m.u + x0 * m.u := by rw [Oo hx0, Int.add_mul]
 have htl : (m.beats.take k).length = k := by rw [List.length_take]; omega
 refine zi<|zs<|Ah<|zr<|zp (Ax R (by conv => lhs; whnf))<|?_
 refine zm R R<|XL.step R (Bg 17 R Tryz.underlying64 Cw Ee R R (by omega) (by omega))<|XL.step R (A4 R G5 (.own R) (Src.own R) (by unfold maxLen; simp; omega) (by simp; omega))<|zp (Ao R (by conv => lhs; whnf))<|?_
 refine zn<|Bi [] (by kernel_rfl) (by kernel_rfl) (by kernel_rfl) (by decide)<|ym R R<|ym R R<|ym R R<|yp (Am R R R Cv hx0)<|yp (Ay R R Ai)<|yp (Ae (s' := .d (.agg (Me.c m))) (Ac (Ad R R Bj R lb)) (by kernel_rfl))<|ChK.cons R (CStep.call R (Gz _ (by assumption)) R)<|yp (G9 R R R (by omega) (by omega))<|yp (Aj R R R (by omega) (by omega))<|?_
 refine ya R R<|?_
 refine ChK.nil ⟨by kernel_rfl, ?_⟩
 refine Af (by kernel_rfl)<|zm R R<|zp (Aj R R R (by omega) (by omega))<|za R R<|zn<|?_
 exact Al (k + 1) (by omega) (by omega) (fz ⟨sr, sr, sr, sr, .same (sI hst.symm), sr, trivial⟩) (gz ⟨R, Ec R (Bk (N0 hk0a)), trivial⟩)
 have hk0b : k = m.groups.length := by omega
 have ht : m.beats.take k = m.beats := by rw [hk0b, ← hbl, List.take_length]
 refine Ap<|zr<|zp (Ax R (by conv => lhs; whnf))<|?_
 refine zp (Ao R (by conv => lhs; whnf))<|?_
 exact zn<|zt<|Bh (i := 900) R<|z1 R R (rSl ht)
def Xz (l : List Int) : Prop := ∀ (j : Nat) x y, l[j]? = some x → l[0]? = some y → x = y
theorem Aqo {l : List Int} : l ≠ [] → (∀ x ∈ l, Gt l ≤ x ∧ x ≤ Gu l) ∧ (∀ y, (∀ x ∈ l, x = y) → Gt l = y ∧ Gu l = y) := by
 refine Kx (p := fun l => l ≠ [] → (∀ x ∈ l, Gt l ≤ x ∧ x ≤ Gu l) ∧ (∀ y, (∀ x ∈ l, x = y) → Gt l = y ∧ Gu l = y)) (fun h => absurd rfl h) (fun l a ih _ => ?_) l
 by_cases c : l = []
 ·subst c
  refine ⟨fun x hx => ?_, fun y hy => ?_⟩
  ·rw [List.nil_append] at hx; rw [List.mem_singleton.1 hx]; exact ⟨Int.le_refl _, Int.le_refl _⟩
  ·have := hy a (by simp); subst this; exact ⟨rfl, rfl⟩
 ·obtain ⟨h1, h2⟩ := ih c
  rw [Wh c, Wj c]
  refine ⟨fun x hx => ?_, fun y hy => ?_⟩
  ·rcases List.mem_append.1 hx with q | q
   ·have := h1 x q; omega
   ·rw [List.mem_singleton.1 q]; omega
  ·have h3 := h2 y fun x hx => hy x (List.mem_append_left _ hx)
   have h4 := hy a (List.mem_append_right _ (List.mem_singleton.2 rfl))
   omega
theorem Xd {l : List Int} (hne : l ≠ []) : Xz l ↔ Gt l = Gu l := by
 obtain ⟨h1, h2⟩ := Aqo hne
 obtain ⟨y, hy⟩ : ∃ y, l[0]? = some y := Av (by cases l with | nil => exact absurd rfl hne | cons a l => simp)
 constructor
 ·intro h
  have := h2 y fun x hx => by
   obtain ⟨j, hj⟩ := List.getElem?_of_mem hx
   exact h j x y hj hy
  omega
 ·intro h j x z hx hz
  have h3 := h1 x (List.mem_of_getElem? hx)
  have h4 := h1 z (List.mem_of_getElem? hz)
  omega
instance (l : List Int) : Decidable (Xz l) := by
 cases l with
 | nil => exact .isTrue fun j x y h => by simp at h
 | cons a l => exact decidable_of_iff _ (Xd (l := a :: l) (by simp)).symm
def leN (l : List Int) (t : Int) : Nat := (l.takeWhile fun x => decide (x ≤ t)).length
def Y5 (l : List Int) (t : Int) (n : Nat) : Int := if n = 0 then 0 else t - l[n - 1]?.getD 0
def Ah5 (n : Nat) : Int := if n = 0 then 0 else ((n - 1 : Nat) : Int)
theorem Ajq {l : List Int} {t : Int} {k : Nat} (h1 : k ≤ l.length) (h2 : ∀ (j : Nat) x, j < k → l[j]? = some x → decide (x ≤ t) = true) (h3 : k = l.length ∨ ∃ x, l[k]? = some x ∧ decide (x ≤ t) = false) : leN l t = k := by
 rw [leN, Xi h1 h2 h3, List.length_take]; omega
theorem X9 {p : Int → Bool} : ∀ {l : List Int} {x : Int}, x ∈ l.takeWhile p → p x = true
 | [], x, h => by simp at h
 | a :: l, x, h => by
  by_cases c : p a = true
  ·rw [List.takeWhile_cons_of_pos c] at h
   rcases List.mem_cons.1 h with e | e
   ·rw [e]; exact c
   ·exact X9 e
  ·rw [List.takeWhile_cons_of_neg c] at h; cases h
theorem Alt {l : List Int} {t : Int} (hinc : ∀ (i j : Nat) x y, i < j → l[i]? = some x → l[j]? = some y → x < y) (h0 : l[0]? = some 0) (ht : 0 ≤ t) : Y5 l t (leN l t) = 0 ↔ t ∈ l := by
 have hle : leN l t ≤ l.length := (List.takeWhile_sublist _).length_le
 have hall : ∀ (j : Nat) x, j < leN l t → l[j]? = some x → x ≤ t := fun j x hj hx => by
  have hm : (l.takeWhile fun x => decide (x ≤ t))[j]? = some x := by
   have hp := List.takeWhile_prefix (l := l) fun x => decide (x ≤ t)
   obtain ⟨s, hs⟩ := hp
   have : (l.takeWhile (fun x => decide (x ≤ t)) ++ s)[j]? = some x := by rw [hs]; exact hx
   rwa [List.getElem?_append_left hj] at this
  exact of_decide_eq_true (X9 (p := fun x => decide (x ≤ t)) (List.mem_of_getElem? hm))
 have hpos : leN l t ≠ 0 := fun k => by
  unfold leN at k
  cases hl : l with
  | nil => rw [hl] at h0; cases h0
  | cons a r =>
   rw [hl] at h0 k
   cases h0
   rw [List.takeWhile_cons_of_pos (by simpa using ht)] at k
   cases k
 obtain ⟨y, hy⟩ : ∃ y, l[leN l t - 1]? = some y := Av (by omega)
 rw [Y5, if_neg hpos, hy]
 show t - y = 0 ↔ t ∈ l
 constructor
 ·intro h; rw [show t = y by omega]; exact List.mem_of_getElem? hy
 ·intro h
  obtain ⟨i, hi⟩ := List.getElem?_of_mem h
  have hyt := hall _ y (by omega) hy
  by_cases c : i < leN l t - 1
  ·have := hinc i _ t y c hi hy; omega
  ·by_cases c2 : i = leN l t - 1
   ·rw [c2, hy] at hi; cases hi; omega
   ·have := hinc _ i y t (by omega) hy hi
    have hil := (List.getElem?_eq_some_iff.1 hi).1
    obtain ⟨z, hz⟩ : ∃ z, l[leN l t]? = some z := Av (by omega)
    have hzt : t < z := by
     refine Int.not_le.1 fun k => ?_
     have e : leN l t = leN l t + 1 → False := fun e => by omega
     have hpre : ∀ (l : List Int) (n : Nat) (z : Int), n = (l.takeWhile fun x => decide (x ≤ t)).length → l[n]? = some z → ¬ z ≤ t := by
      intro l
      induction l with
      | nil => intro n z _ h; simp at h
      | cons a r ih =>
       intro n z hn h
       by_cases c : a ≤ t
       ·rw [List.takeWhile_cons_of_pos (by simpa using c)] at hn
        subst hn
        exact ih _ z rfl (by simpa using h)
       ·rw [List.takeWhile_cons_of_neg (by simpa using c)] at hn
        subst hn
        cases h; exact c
     exact hpre l _ z rfl hz k
    by_cases c3 : leN l t = i
    ·rw [c3, hi] at hz; cases hz; omega
    ·have := hinc _ i z t (by omega) hz hi; omega
theorem Aho {m : Me} (h : Mok m) : ∀ x ∈ m.groups, 0 < x := by
 intro x hx
 by_cases c : m.flat
 ·by_cases c2 : 8 ≤ m.unit ∧ m.count % 3 = 0
  ·rw [Ahn (fun k => k c) c2] at hx
   rw [List.eq_of_mem_replicate hx]; decide
  ·rw [Xw (fun k => k c) c2] at hx
   rw [List.eq_of_mem_replicate hx]; decide
 ·rw [Xx c, U9 h.grp] at hx
  exact of_decide_eq_true (X9 (p := fun g => decide (0 < g)) hx)
theorem Xc {m : Me} (h : Mok m) : ∀ (i j : Nat) x y, i < j → m.beats[i]? = some x → m.beats[j]? = some y → x < y := by
 intro i j x y hij hx hy
 have hu := h.u
 have hg := h.groups
 have hjl := (List.getElem?_eq_some_iff.1 hy).1
 rw [Q2] at hjl
 rw [N0 (by omega)] at hx hy
 cases hx; cases hy
 have hpos := Aho h
 have h1 := Mp hpos (j := i + 1) (k := j) (by omega)
 obtain ⟨g, hgi⟩ : ∃ g, m.groups[i]? = some g := Av (by omega)
 rw [Bk hgi, H9] at h1
 have h2 := hpos g (List.mem_of_getElem? hgi)
 exact Int.mul_lt_mul_of_pos_right (by omega) (by omega)
theorem Agf {m : Me} (h : Mok m) : m.beats[0]? = some 0 := by
 have hg := h.groups
 have := hg.pos
 rw [N0 (by omega), List.take_zero, J8, Int.zero_mul]
def rl (t u : Int) : Nat → Nat → Int
 | 0, _ => 15
 | f + 1, k => if (u / 2 ^ k * 2 ^ k = u ∧ 7560 ≤ u / 2 ^ k) ∧ t % (u / 2 ^ k) = 0 then 3 + (k : Int) else rl t u f (k + 1)
theorem u_7 {m : Me} (h : Mok m) : m.u = 1935360 ∨ m.u = 967680 ∨ m.u = 483840 ∨ m.u = 241920 ∨ m.u = 120960 ∨ m.u = 60480 ∨ m.u = 30240 := by
 have hp : Lx m.unit 7 = true := pow_iff.2 fun k => k.elim (fun k => by have := h.unit; omega) fun k => k.elim (fun k => by have := h.unit; omega) fun k => k h.pow
 unfold Lx at hp
 rw [List.any_eq_true] at hp
 obtain ⟨i, hi, hp⟩ := hp
 have hi := List.mem_range.1 hi
 have hp := of_decide_eq_true hp
 unfold Me.u
 rw [hp]
 match i, hi with
 | 0, _ => decide
 | 1, _ => decide
 | 2, _ => decide
 | 3, _ => decide
 | 4, _ => decide
 | 5, _ => decide
 | 6, _ => decide
 | i + 7, h => omega
theorem Ary {t u : Int} (hu : u = 1935360 ∨ u = 967680 ∨ u = 483840 ∨ u = 241920 ∨ u = 120960 ∨ u = 60480 ∨ u = 30240) : rl t u 9 0 = if t % u = 0 then 3 else If t 9 1 u := by
 rcases hu with rfl | rfl | rfl | rfl | rfl | rfl | rfl <;> simp [rl, If]
theorem Ai0 {t u : Int} {f k : Nat} (h : (u / 2 ^ k * 2 ^ k = u ∧ 7560 ≤ u / 2 ^ k) ∧ t % (u / 2 ^ k) = 0) : rl t u (f + 1) k = 3 + (k : Int) := by rw [rl, if_pos h]
theorem Mh {t u : Int} {f k : Nat} (h : ¬ ((u / 2 ^ k * 2 ^ k = u ∧ 7560 ≤ u / 2 ^ k) ∧ t % (u / 2 ^ k) = 0)) : rl t u (f + 1) k = rl t u f (k + 1) := by rw [rl, if_neg h]
theorem Afv {m : Me} {a : Int} (hm : Mok m) (h : ¬ a % m.len = 0) (h1 : ¬ ((2 * (a % m.len) = m.len ∧ (m.groups.length : Int) % 2 = 0) ∧ Gt m.groups = Gu m.groups)) (h2 : ¬ a % m.len ∈ m.beats) : rl (a % m.len) m.u 9 0 = m.level a := by
 rw [Ary (u_7 hm), Me.level, if_neg h, if_neg h1, if_neg h2]
theorem Aqc {k : Nat} (h : k ≤ 9) : 1 ≤ (2 : Int) ^ k ∧ (2 : Int) ^ k ≤ 512 := by
 match k, h with
 | 0, _ => decide
 | 1, _ => decide
 | 2, _ => decide
 | 3, _ => decide
 | 4, _ => decide
 | 5, _ => decide
 | 6, _ => decide
 | 7, _ => decide
 | 8, _ => decide
 | 9, _ => decide
 | k + 10, h => omega
theorem Agx (l : List Int) : XC Tryz.prog 159 [.sl 1 (By l)] (fun r => r = dB (decide (Xz l ∧ (l.length : Int) % 2 = 0))) := by
 refine An Aax Tryz.func159 R R lb<|zr<|za R R<|zn<|zs<|zr<|za R R<|zn<|Ah<|?_
 refine Aw (α := Nat) (fun k => 1 ≤ k ∧ ∀ (j : Nat) x y, j < k → l[j]? = some x → l[0]? = some y → x = y) (fun k => mkF [(0, .d (.sl 1 (By l))), (3, .d (dI (k : Nat)))]) (fun k => mkH []) (fun k => l.length + 1 - k) (1) (⟨Nat.le_refl _, fun j x y hj hx hy => by rw [show j = 0 by omega, hy] at hx; cases hx; rfl⟩) ?_ ?_ ?_
 exact fz ⟨sr, sr, trivial⟩
 exact HSub.nil
 intro k hk0
 obtain ⟨hk, hall⟩ := hk0
 refine zs<|zr<|zm R R<|zm R R<|XL.len R R R Tryz.underlying64 fun hl6=>zp (Ar R R R)<|zn<|?_
 refine zd R (fun c7 => ?_) (fun c7 => ?_)
 have hkl : k < l.length := by omega
 obtain ⟨x, hx⟩ := Av hkl
 obtain ⟨y, hy⟩ : ∃ y, l[0]? = some y := Av (by omega)
 refine zi<|zs<|Ah<|zs<|Bi [] (by kernel_rfl) (by kernel_rfl) (by kernel_rfl) (by decide)<|ym R R<|ym R R<|yp (Am R R R Cv (hx))<|yp (Ay R R Ai)<|ym R R<|yp (Am (k := 0) R R R Cv (hy))<|yp (Ay R R Ai)<|yp (Bf R R R)<|?_
 refine ChK.nil ⟨by kernel_rfl, ?_⟩
 refine zd R (fun c17 => ?_) (fun c17 => ?_)
 exact zr<|za R R<|zn<|zt<|z1 R R (rB (dno (fun h => c17 (h.1 k x y hx hy))))
 refine zi<|Af (by kernel_rfl)<|zm R R<|zp (Aj R R R (by omega) (by omega))<|za R R<|zn<|?_
 exact Al (k + 1) (⟨by omega, fun j x2 y2 hj hx2 hy2 => by by_cases e : j = k; (· subst e; rw [hx] at hx2; rw [hy] at hy2; cases hx2; cases hy2; exact Decidable.not_not.1 c17); (· exact hall j x2 y2 (by omega) hx2 hy2)⟩) (by omega) (fz ⟨sr, sr, trivial⟩) (HSub.nil)
 have hae : Xz l := fun j x y hx hy => hall j x y (by have := (List.getElem?_eq_some_iff.1 hx).1; omega) hx hy
 exact Ap<|zr<|zm R R<|XL.len R R R Tryz.underlying64 fun hl19=>zp (D6 R R R (by omega) (by omega))<|zp (A1 R R R)<|za R R<|zn<|zt<|z1 R R (rB (by rw [decide_eq_decide]; exact ⟨fun h => ⟨hae, h⟩, fun h => h.2⟩))
theorem Aok (m : Me) (a : Int) (h : Mok m) (ha : 0 ≤ a ∧ a ≤ 4398046511104) : XC Tryz.prog 158 [.agg (Me.c m), .v (.int .i64 a)] (fun r => r = .tup [dI (Ah5 (leN m.beats (a % m.len))), dI (Y5 m.beats (a % m.len) (leN m.beats (a % m.len)))]) := by
 have hl := h.len
 have ht0 := Int.emod_nonneg a (by omega : m.len ≠ 0)
 have ht1 := Int.emod_lt_of_pos a (by omega : 0 < m.len)
 refine An Aay Tryz.func158 R R lb<|zr<|XL.step R (As 2 (l := [.d (dI m.count), .d (dI m.unit), .d (dI m.g0), .d (dI m.g1), .d (dI m.g2), .d (dI m.g3), .d (dI m.g4), .d (dI m.g5)]) R R (by kernel_rfl))<|za R R<|za R R<|znr<|zm R R<|zp (Ae (s' := .d (.agg (Me.c m))) (Ac (Ad R R Bj R lb)) (by kernel_rfl))<|XL.call1 R R (Sq _ (by assumption)) R<|?_
 refine zp (D6 R R R (by omega) (by omega))<|za R R<|znr<|zp (Ae (s' := .d (.agg (Me.c m))) (Ac (Ad R R Bj R lb)) (by kernel_rfl))<|XL.call1 R R (Agy _ (by assumption)) R<|za R R<|zn<|zs<|zr<|za R R<|zn<|Ah<|?_
 refine Aw (α := Nat) (fun j => j ≤ m.beats.length ∧ ∀ (i : Nat) x, i < j → m.beats[i]? = some x → decide (x ≤ a % m.len) = true) (fun j => mkF [(4, .d (dI (Ah5 j))), (5, .d (dI (Y5 m.beats (a % m.len) j))), (6, .d (dI (a % m.len))), (7, .d (.sl 1 (By m.beats))), (8, .d (dI (j : Nat)))]) (fun j => mkH []) (fun j => m.beats.length - j) (0) (⟨Nat.zero_le _, fun i x h => absurd h (Nat.not_lt_zero _)⟩) ?_ ?_ ?_
 exact fz ⟨sr, sr, sr, sr, sr, trivial⟩
 exact HSub.nil
 intro j hk0
 obtain ⟨hj, hall⟩ := hk0
 refine zs<|zr<|zm R R<|zm R R<|XL.len R R R Tryz.underlying64 fun hl17=>zp (Ar R R R)<|zm R R<|?_
 refine XL.dec 19 R (fun g19 => ?_) (fun g19 => ?_)
 obtain ⟨x, hx⟩ : ∃ x, m.beats[j]? = some x := Av (by omega)
 have hx0 : 0 ≤ x := by have h1 := Agf h; by_cases e : j = 0; (· rw [e, h1] at hx; cases hx; omega); (· have := Xc h 0 j 0 x (by omega) h1 hx; omega)
 refine zm R R<|zm R R<|zp (Am R R R Cv (hx))<|zp (Ay R R Ai)<|zm R R<|zp (Fd R R R)<|zq R R R<|zn<|?_
 refine zd R (fun c26 => ?_) (fun c26 => ?_)
 refine zi<|zs<|Ah<|Bi [] (by kernel_rfl) (by kernel_rfl) (by kernel_rfl) (by decide)<|ym R R<|ym R R<|ym R R<|ym R R<|yp (Am R R R Cv (hx))<|yp (Ay R R Ai)<|yp (Do R R R (by omega) (by omega))<|ya R R<|ya R R<|?_
 refine ChK.nil ⟨by kernel_rfl, ?_⟩
 refine Af (by kernel_rfl)<|zm R R<|zp (Aj R R R (by omega) (by omega))<|za R R<|zn<|?_
 exact Al (j + 1) (⟨by have := (List.getElem?_eq_some_iff.1 hx).1; omega, fun i x2 hi hx2 => by by_cases e : i = j; (· subst e; rw [hx] at hx2; cases hx2; exact decide_eq_true c26); (· exact hall i x2 (by omega) hx2)⟩) (by have := (List.getElem?_eq_some_iff.1 hx).1; omega) (fz ⟨.same (sI (by rw [Ah5, if_neg (by omega), Nat.add_sub_cancel])), .same (sI (by rw [Y5, if_neg (by omega), Nat.add_sub_cancel, hx]; rfl)), sr, sr, sr, trivial⟩) (HSub.nil)
 have hn := Ajq (t := a % m.len) hj hall (.inr ⟨x, hx, decide_eq_false c26⟩)
 refine Ap<|zr<|zm R R<|zm R R<|za R R<|za R R<|zn<|zt<|?_
 exact Bl R (RV.tmp R R) (RV.tmp R R) (r2 (rI (by rw [hn])) (rI (by rw [hn])))
 have hn := Ajq (t := a % m.len) hj hall (.inl (by omega))
 refine zk 6 R<|zq R R R<|zn<|A3 (by kernel_rfl) R<|Ap<|zr<|zm R R<|zm R R<|za R R<|za R R<|zn<|zt<|?_
 exact Bl R (RV.tmp R R) (RV.tmp R R) (r2 (rI (by rw [hn])) (rI (by rw [hn])))
theorem O4 (m : Me) (a : Int) (h : Mok m) (ha : 0 ≤ a ∧ a ≤ 4398046511104) : XC Tryz.prog 126 [.agg (Me.c m), .v (.int .i64 a)] (fun r => r = dI (m.level a)) := by
 have hl := h.len
 have hg := h.groups
 have hgp := hg.pos
 have hu := h.u
 have ht0 := Int.emod_nonneg a (by omega : m.len ≠ 0)
 have ht1 := Int.emod_lt_of_pos a (by omega : 0 < m.len)
 have hof := Alt (t := a % m.len) (Xc h) (Agf h) ht0
 have hne : m.groups ≠ [] := fun k => by rw [k] at hgp; exact absurd hgp (by decide)
 have hae := Xd hne
 refine An Abq Tryz.func126 R R lb<|zr<|XL.step R (As 2 (l := [.d (dI m.count), .d (dI m.unit), .d (dI m.g0), .d (dI m.g1), .d (dI m.g2), .d (dI m.g3), .d (dI m.g4), .d (dI m.g5)]) R R (by kernel_rfl))<|za R R<|znr<|zm R R<|zp (Ae (s' := .d (.agg (Me.c m))) (Ac (Ad R R Bj R lb)) (by kernel_rfl))<|XL.call1 R R (Sq _ (by assumption)) R<|?_
 refine zp (D6 R R R (by omega) (by omega))<|za R R<|znr<|zp (Ae (s' := .d (.agg (Me.c m))) (Ac (Ad R R Bj R lb)) (by kernel_rfl))<|zm R R<|XL.call1 R R (Aok _ _ (by assumption) (by omega)) R<|zm R R<|zp (Ba R R R)<|zp (Ba R R R)<|za R R<|za R R<|zn<|zs<|Ah<|?_
 refine zr<|zm R R<|zp (A1 R R R)<|za R R<|zn<|?_
 refine zd R (fun c20 => ?_) (fun c20 => ?_)
 exact zr<|za R R<|zn<|zt<|z1 R R (rI (Aqt c20))
 refine zr<|zm R R<|zp (G9 R R R (by omega) (by omega))<|zp (Ae (s' := .d (.agg (Me.c m))) (Ac (Ad R R Bj R lb)) (by kernel_rfl))<|XL.call1 R R (Sq _ (by assumption)) R<|zp (A1 R R R)<|zm R R<|?_
 refine XL.dec 29 R (fun g29 => ?_) (fun g29 => ?_)
 refine zp (Ae (s' := .d (.agg (Me.c m))) (Ac (Ad R R Bj R lb)) (by kernel_rfl))<|XL.call1 R R (Rx _ (by assumption)) R<|XL.call1 R R (Agx _) R<|zq R R R<|za R R<|zn<|?_
 refine zd R (fun c23 => ?_) (fun c23 => ?_)
 exact zr<|za R R<|zn<|zt<|z1 R R (rI (Aqs c20 ⟨⟨g29, c23.2⟩, hae.1 c23.1⟩))
 refine zs<|?_
 have hns : ¬ ((2 * (a % m.len) = m.len ∧ (m.groups.length : Int) % 2 = 0) ∧ Gt m.groups = Gu m.groups) := by first | exact fun k => c23 ⟨hae.2 k.2, k.1.2⟩ | exact fun k => g29 k.1.1
 refine Af (by kernel_rfl)<|zm R R<|zp (A1 R R R)<|za R R<|zn<|?_
 refine zd R (fun c34 => ?_) (fun c34 => ?_)
 exact zr<|za R R<|zn<|zt<|z1 R R (rI (Zb c20 hns (hof.1 c34)))
 refine zi<|zs<|zr<|za R R<|zn<|Ah<|?_
 refine Aw (α := Nat) (fun k => k ≤ 9 ∧ rl (a % m.len) m.u (9 - k) k = m.level a) (fun k => mkF [(2, .ptr 2 0 0), (5, .d (dI (a % m.len))), (8, .d (dI (k : Nat)))]) (fun k => mkH [(2, .box ((Me.c m).map S.d))]) (fun k => 9 - k) (0) (⟨Nat.zero_le _, Afv h c20 hns (fun q => c34 (hof.2 q))⟩) ?_ ?_ ?_
 exact fz ⟨sr, sr, sr, trivial⟩
 exact gz ⟨R, trivial⟩
 intro k hk1
 obtain ⟨hk, hgo⟩ := hk1
 have hp9 := Aqc hk
 have hq0 : 0 ≤ m.u / 2 ^ k := Int.ediv_nonneg (by omega) (by omega)
 have hq1 : m.u / 2 ^ k ≤ m.u := Int.ediv_le_self _ (by omega)
 have hq2 : m.u / 2 ^ k * 2 ^ k ≤ m.u := Int.ediv_mul_le _ (by omega)
 have hq3 : 0 ≤ m.u / 2 ^ k * 2 ^ k := Int.mul_nonneg hq0 (by omega)
 refine zs<|zr<|zm R R<|zp (Fd R R R)<|zn<|?_
 refine zd R (fun c38 => ?_) (fun c38 => ?_)
 obtain ⟨f, hf⟩ : ∃ f, 9 - k = f + 1 := ⟨8 - k, by omega⟩
 rw [hf] at hgo
 have hf2 : 9 - (k + 1) = f := by omega
 have hkn : (k : Int).toNat = k := Int.toNat_natCast k
 refine zi<|zs<|Ah<|zr<|zp (Ae (s' := .d (.agg (Me.c m))) (Ac (Ad R R Bj R lb)) (by kernel_rfl))<|XL.call1 R R (Gz _ (by assumption)) R<|zm R R<|zp (Xr R R R (by omega) (by omega))<|za R R<|zn<|zs<|?_
 by_cases q50 : m.u / 2 ^ k * 2 ^ k = m.u
 by_cases q53 : 7560 ≤ m.u / 2 ^ k
 refine Bi [] (by kernel_rfl) (by kernel_rfl) (by kernel_rfl) (by decide)<|ym R R<|ym R R<|yp (Rg R R R (by omega) (by omega) (by rw [hkn]; omega) (by rw [hkn]; omega))<|yp (Ae (s' := .d (.agg (Me.c m))) (Ac (Ad R R Bj R lb)) (by kernel_rfl))<|ChK.cons R (CStep.call R (Gz _ (by assumption)) R)<|yp (D5 (A1 R R R) (q50))<|ym R R<|ym R R<|?_
 refine yp (D5 (Dp R R R) (q53))<|yp (A9 R R (by conv => lhs; whnf))<|?_
 refine ym R R<|ym R R<|ym R R<|yp (D6 R R R (by omega) (by rw [hkn]; omega))<|yp (A1 R R R)<|yp (A9 R R (by conv => lhs; whnf))<|?_
 refine ChK.nil ⟨by kernel_rfl, ?_⟩
 refine zd R (fun c60 => ?_) (fun c60 => ?_)
 exact zr<|zm R R<|zp (Aj R R R (by omega) (by omega))<|za R R<|zn<|zt<|z1 R R (rI ((Ai0 ⟨⟨q50, q53⟩, c60⟩).symm.trans hgo))
 refine zi<|Af (by kernel_rfl)<|zm R R<|zp (Aj R R R (by omega) (by omega))<|za R R<|zn<|?_
 exact Al (k + 1) (⟨by omega, by rw [hf2, ← hgo]; exact (Mh (by first | exact fun q => c60 q.2 | exact fun q => q53 q.1.2 | exact fun q => q50 q.1.1)).symm⟩) (by omega) (fz ⟨sr, sr, sr, trivial⟩) (gz ⟨rfl, trivial⟩)
 refine Bi [] (by kernel_rfl) (by kernel_rfl) (by kernel_rfl) (by decide)<|ym R R<|ym R R<|yp (Rg R R R (by omega) (by omega) (by rw [hkn]; omega) (by rw [hkn]; omega))<|yp (Ae (s' := .d (.agg (Me.c m))) (Ac (Ad R R Bj R lb)) (by kernel_rfl))<|ChK.cons R (CStep.call R (Gz _ (by assumption)) R)<|yp (D5 (A1 R R R) (q50))<|ym R R<|ym R R<|?_
 refine yp (Gi (Dp R R R) (q53))<|yp (A9 R R (by conv => lhs; whnf))<|?_
 refine ym R R<|ChK.skip R<|ChK.skip R<|ChK.skip R<|ChK.skip R<|yp (A9 R R (by conv => lhs; whnf))<|?_
 refine ChK.nil ⟨by kernel_rfl, ?_⟩
 refine A3 (by kernel_rfl) R<|zi<|Af (by kernel_rfl)<|zm R R<|zp (Aj R R R (by omega) (by omega))<|za R R<|zn<|?_
 exact Al (k + 1) (⟨by omega, by rw [hf2, ← hgo]; exact (Mh (by first | exact fun q => c60 q.2 | exact fun q => q53 q.1.2 | exact fun q => q50 q.1.1)).symm⟩) (by omega) (fz ⟨sr, sr, sr, trivial⟩) (gz ⟨rfl, trivial⟩)
 refine Bi [] (by kernel_rfl) (by kernel_rfl) (by kernel_rfl) (by decide)<|ym R R<|ym R R<|yp (Rg R R R (by omega) (by omega) (by rw [hkn]; omega) (by rw [hkn]; omega))<|yp (Ae (s' := .d (.agg (Me.c m))) (Ac (Ad R R Bj R lb)) (by kernel_rfl))<|ChK.cons R (CStep.call R (Gz _ (by assumption)) R)<|yp (Gi (A1 R R R) (q50))<|ym R R<|ChK.skip R<|ChK.skip R<|?_
 refine yp (A9 R R (by conv => lhs; whnf))<|?_
 refine ym R R<|ChK.skip R<|ChK.skip R<|ChK.skip R<|ChK.skip R<|yp (A9 R R (by conv => lhs; whnf))<|?_
 refine ChK.nil ⟨by kernel_rfl, ?_⟩
 refine A3 (by kernel_rfl) R<|zi<|Af (by kernel_rfl)<|zm R R<|zp (Aj R R R (by omega) (by omega))<|za R R<|zn<|?_
 exact Al (k + 1) (⟨by omega, by rw [hf2, ← hgo]; exact (Mh (by first | exact fun q => c60 q.2 | exact fun q => q53 q.1.2 | exact fun q => q50 q.1.1)).symm⟩) (by omega) (fz ⟨sr, sr, sr, trivial⟩) (gz ⟨rfl, trivial⟩)
 have hk9 : k = 9 := by omega
 subst hk9
 exact Ap<|zr<|za R R<|zn<|zt<|z1 R R (rI hgo)
 refine zk 3 R<|zq R R R<|za R R<|zn<|A3 (by kernel_rfl) R<|zs<|?_
 have hns : ¬ ((2 * (a % m.len) = m.len ∧ (m.groups.length : Int) % 2 = 0) ∧ Gt m.groups = Gu m.groups) := by first | exact fun k => c23 ⟨hae.2 k.2, k.1.2⟩ | exact fun k => g29 k.1.1
 refine Af (by kernel_rfl)<|zm R R<|zp (A1 R R R)<|za R R<|zn<|?_
 refine zd R (fun c34 => ?_) (fun c34 => ?_)
 exact zr<|za R R<|zn<|zt<|z1 R R (rI (Zb c20 hns (hof.1 c34)))
 refine zi<|zs<|zr<|za R R<|zn<|Ah<|?_
 refine Aw (α := Nat) (fun k => k ≤ 9 ∧ rl (a % m.len) m.u (9 - k) k = m.level a) (fun k => mkF [(2, .ptr 2 0 0), (5, .d (dI (a % m.len))), (8, .d (dI (k : Nat)))]) (fun k => mkH [(2, .box ((Me.c m).map S.d))]) (fun k => 9 - k) (0) (⟨Nat.zero_le _, Afv h c20 hns (fun q => c34 (hof.2 q))⟩) ?_ ?_ ?_
 exact fz ⟨sr, sr, sr, trivial⟩
 exact gz ⟨R, trivial⟩
 intro k hk1
 obtain ⟨hk, hgo⟩ := hk1
 have hp9 := Aqc hk
 have hq0 : 0 ≤ m.u / 2 ^ k := Int.ediv_nonneg (by omega) (by omega)
 have hq1 : m.u / 2 ^ k ≤ m.u := Int.ediv_le_self _ (by omega)
 have hq2 : m.u / 2 ^ k * 2 ^ k ≤ m.u := Int.ediv_mul_le _ (by omega)
 have hq3 : 0 ≤ m.u / 2 ^ k * 2 ^ k := Int.mul_nonneg hq0 (by omega)
 refine zs<|zr<|zm R R<|zp (Fd R R R)<|zn<|?_
 refine zd R (fun c38 => ?_) (fun c38 => ?_)
 obtain ⟨f, hf⟩ : ∃ f, 9 - k = f + 1 := ⟨8 - k, by omega⟩
 rw [hf] at hgo
 have hf2 : 9 - (k + 1) = f := by omega
 have hkn : (k : Int).toNat = k := Int.toNat_natCast k
 refine zi<|zs<|Ah<|zr<|zp (Ae (s' := .d (.agg (Me.c m))) (Ac (Ad R R Bj R lb)) (by kernel_rfl))<|XL.call1 R R (Gz _ (by assumption)) R<|zm R R<|zp (Xr R R R (by omega) (by omega))<|za R R<|zn<|zs<|?_
 by_cases q50 : m.u / 2 ^ k * 2 ^ k = m.u
 by_cases q53 : 7560 ≤ m.u / 2 ^ k
 refine Bi [] (by kernel_rfl) (by kernel_rfl) (by kernel_rfl) (by decide)<|ym R R<|ym R R<|yp (Rg R R R (by omega) (by omega) (by rw [hkn]; omega) (by rw [hkn]; omega))<|yp (Ae (s' := .d (.agg (Me.c m))) (Ac (Ad R R Bj R lb)) (by kernel_rfl))<|ChK.cons R (CStep.call R (Gz _ (by assumption)) R)<|yp (D5 (A1 R R R) (q50))<|ym R R<|ym R R<|?_
 refine yp (D5 (Dp R R R) (q53))<|yp (A9 R R (by conv => lhs; whnf))<|?_
 refine ym R R<|ym R R<|ym R R<|yp (D6 R R R (by omega) (by rw [hkn]; omega))<|yp (A1 R R R)<|yp (A9 R R (by conv => lhs; whnf))<|?_
 refine ChK.nil ⟨by kernel_rfl, ?_⟩
 refine zd R (fun c60 => ?_) (fun c60 => ?_)
 exact zr<|zm R R<|zp (Aj R R R (by omega) (by omega))<|za R R<|zn<|zt<|z1 R R (rI ((Ai0 ⟨⟨q50, q53⟩, c60⟩).symm.trans hgo))
 refine zi<|Af (by kernel_rfl)<|zm R R<|zp (Aj R R R (by omega) (by omega))<|za R R<|zn<|?_
 exact Al (k + 1) (⟨by omega, by rw [hf2, ← hgo]; exact (Mh (by first | exact fun q => c60 q.2 | exact fun q => q53 q.1.2 | exact fun q => q50 q.1.1)).symm⟩) (by omega) (fz ⟨sr, sr, sr, trivial⟩) (gz ⟨rfl, trivial⟩)
 refine Bi [] (by kernel_rfl) (by kernel_rfl) (by kernel_rfl) (by decide)<|ym R R<|ym R R<|yp (Rg R R R (by omega) (by omega) (by rw [hkn]; omega) (by rw [hkn]; omega))<|yp (Ae (s' := .d (.agg (Me.c m))) (Ac (Ad R R Bj R lb)) (by kernel_rfl))<|ChK.cons R (CStep.call R (Gz _ (by assumption)) R)<|yp (D5 (A1 R R R) (q50))<|ym R R<|ym R R<|?_
 refine yp (Gi (Dp R R R) (q53))<|yp (A9 R R (by conv => lhs; whnf))<|?_
 refine ym R R<|ChK.skip R<|ChK.skip R<|ChK.skip R<|ChK.skip R<|yp (A9 R R (by conv => lhs; whnf))<|?_
 refine ChK.nil ⟨by kernel_rfl, ?_⟩
 refine A3 (by kernel_rfl) R<|zi<|Af (by kernel_rfl)<|zm R R<|zp (Aj R R R (by omega) (by omega))<|za R R<|zn<|?_
 exact Al (k + 1) (⟨by omega, by rw [hf2, ← hgo]; exact (Mh (by first | exact fun q => c60 q.2 | exact fun q => q53 q.1.2 | exact fun q => q50 q.1.1)).symm⟩) (by omega) (fz ⟨sr, sr, sr, trivial⟩) (gz ⟨rfl, trivial⟩)
 refine Bi [] (by kernel_rfl) (by kernel_rfl) (by kernel_rfl) (by decide)<|ym R R<|ym R R<|yp (Rg R R R (by omega) (by omega) (by rw [hkn]; omega) (by rw [hkn]; omega))<|yp (Ae (s' := .d (.agg (Me.c m))) (Ac (Ad R R Bj R lb)) (by kernel_rfl))<|ChK.cons R (CStep.call R (Gz _ (by assumption)) R)<|yp (Gi (A1 R R R) (q50))<|ym R R<|ChK.skip R<|ChK.skip R<|?_
 refine yp (A9 R R (by conv => lhs; whnf))<|?_
 refine ym R R<|ChK.skip R<|ChK.skip R<|ChK.skip R<|ChK.skip R<|yp (A9 R R (by conv => lhs; whnf))<|?_
 refine ChK.nil ⟨by kernel_rfl, ?_⟩
 refine A3 (by kernel_rfl) R<|zi<|Af (by kernel_rfl)<|zm R R<|zp (Aj R R R (by omega) (by omega))<|za R R<|zn<|?_
 exact Al (k + 1) (⟨by omega, by rw [hf2, ← hgo]; exact (Mh (by first | exact fun q => c60 q.2 | exact fun q => q53 q.1.2 | exact fun q => q50 q.1.1)).symm⟩) (by omega) (fz ⟨sr, sr, sr, trivial⟩) (gz ⟨rfl, trivial⟩)
 have hk9 : k = 9 := by omega
 subst hk9
 exact Ap<|zr<|za R R<|zn<|zt<|z1 R R (rI hgo)
end Go.Proofs.YtcihalbakenleaaGreat
namespace Go.Proofs.YtcihalbakenleaaGreat
open Go.RowKit
theorem Agw (v : Val) (h : C8 v = 0) : XC Tryz.prog 156 [.agg (Val.c v)] (fun r => r = dI (Cg v)) := by
 have hv := Nm (v := v) (by omega)
 have hp := Lc v
 refine An Aa0 Tryz.func156 R R lb<|zr<|XL.step R (As 1 (l := [.d (dI v.log), .d (dI v.dots)]) R R (by kernel_rfl))<|za R R<|znr<|za R R<|zn<|zs<|zr<|za R R<|zn<|Ah<|?_
 refine Aw (α := Nat) (fun k => (k : Int) ≤ v.log + 1) (fun k => mkF [(1, .ptr 1 0 0), (2, .d (dI 0)), (3, .d (dI (Il k))), (4, .d (dI ((k : Int) - 1)))]) (fun k => mkH [(1, .box ((Val.c v).map S.d))]) (fun k => (v.log + 1).toNat - k) (0) (by omega) ?_ ?_ ?_
 exact fz ⟨sr, sr, .same (sI (by decide)), .same (sI (by decide)), trivial⟩
 exact gz ⟨R, trivial⟩
 intro k hk0
 have hh := Qt k
 refine zs<|zr<|zm R R<|zp (Ab R R K9)<|zp (Aa R R Ai R R)<|zp (Ar R R R)<|zn<|?_
 refine zd R (fun c10 => ?_) (fun c10 => ?_)
 refine zi<|zs<|Ah<|Af (by kernel_rfl)<|zm R R<|zp (F8 R R R (by omega) (by omega) (by omega))<|za R R<|zn<|Af (by kernel_rfl)<|zm R R<|zp (Aj R R R (by omega) (by omega))<|za R R<|zn<|?_
 exact Al (k + 1) (by omega) (by omega) (fz ⟨sr, sr, .same (sI (N6 k)), .same (sI (by omega)), trivial⟩) (gz ⟨R, trivial⟩)
 have hpl := Ul (v := v) (k := k) (by omega)
 refine Ap<|zr<|zm R R<|za R R<|zn<|zs<|zr<|za R R<|zn<|Ah<|?_
 refine Aw (α := Nat) (fun m => (m : Int) ≤ v.dots) (fun m => mkF [(1, .ptr 1 0 0), (2, .d (dI 0)), (3, .d (dI (Er (D4 v) m).1)), (5, .d (dI (Er (D4 v) m).2)), (6, .d (dI (m : Nat)))]) (fun m => mkH [(1, .box ((Val.c v).map S.d))]) (fun m => v.dots.toNat - m) (0) (hv.2.2.1) ?_ ?_ ?_
 exact fz ⟨sr, sr, .same (sI hpl), .same (sI hpl), sr, trivial⟩
 exact gz ⟨R, trivial⟩
 intro m hk2
 refine zs<|zr<|zm R R<|zp (Ab R R Hi)<|zp (Aa R R Ai R R)<|zp (Ar R R R)<|zn<|?_
 refine zd R (fun c19 => ?_) (fun c19 => ?_)
 have hb := Kg hp.1 m
 have hb2 : D4 v * ((m : Int) + 1) ≤ 3870720 * 4 := Int.mul_le_mul hp.2 (by omega) (by omega) (by omega)
 refine zi<|zs<|Ah<|zr<|zm R R<|zp (F8 R R R (by omega) (by omega) (by omega))<|za R R<|zng<|zm R R<|zm R R<|zp (Aj R R R (by omega) (by omega))<|za R R<|zn<|Af (by kernel_rfl)<|?_
 refine zm R R<|zp (Aj R R R (by omega) (by omega))<|za R R<|zn<|?_
 exact Al (m + 1) (by omega) (by omega) (fz ⟨sr, sr, sr, sr, sr, trivial⟩) (gz ⟨R, trivial⟩)
 have hke : v.dots.toNat = m := by omega
 exact Ap<|zr<|zm R R<|za R R<|zn<|zt<|z1 R R (rI (by rw [Cg, hke]))
theorem Af2 {p : Val → Bool} : ∀ {l : List Val} {q : Nat} {x : Val}, l[q]? = some x → p x = true → (∀ (i : Nat) y, i < q → l[i]? = some y → p y = false) → l.find? p = some x
 | [], q, x, h, _, _ => by simp at h
 | a :: l, 0, x, h, hp, _ => by cases h; rw [List.find?_cons_of_pos hp]
 | a :: l, q + 1, x, h, hp, hb => by
  rw [List.find?_cons_of_neg (by rw [hb 0 a (by omega) rfl]; decide)]
  exact Af2 (by simpa using h) hp fun i y hi hy => hb (i + 1) y (by omega) hy
theorem S8 {q : Nat} (h : q < 40) : allV[q]? = some (Dv q) := by rw [allV, List.getElem?_map, Ack h]; rfl
theorem Amn : allV.length = 40 := by rw [allV, List.length_map, allQ, List.length_ofFn]
theorem Aku (k j : Nat) (hj : j < 4) : Dv (4 * k + j) = ⟨(k : Int) - 1, (j : Int)⟩ := by
 unfold Dv
 rw [show (4 * k + j) / 4 = k by omega, show (4 * k + j) % 4 = j by omega]
theorem Aq2 {d : Int} {q : Nat} (hq : q < 40) (hall : ∀ i, i < q → Cg (Dv i) ≠ d) (h : Cg (Dv q) = d) : Cd d = Dv q ∧ En d = 0 := by
 have : Hr d allV = some (Dv q) := Af2 (S8 hq) (by simpa using h) fun i y hi hy => by
  rw [S8 (by omega)] at hy; cases hy; exact decide_eq_false (hall i hi)
 exact ⟨by rw [Cd, this]; rfl, by rw [En, this, if_neg (by simp)]⟩
theorem Apa {d : Int} (hall : ∀ i, i < 40 → Cg (Dv i) ≠ d) : Cd d = ⟨0, 0⟩ ∧ En d = 17 := by
 have : Hr d allV = none := by
  unfold Hr
  rw [List.find?_eq_none]
  intro x hx
  obtain ⟨i, hi⟩ := List.getElem?_of_mem hx
  have hl := (List.getElem?_eq_some_iff.1 hi).1
  rw [Amn] at hl
  rw [S8 hl] at hi; cases hi
  simpa using hall i hl
 exact ⟨by rw [Cd, this]; rfl, by rw [En, this, if_pos rfl]⟩
theorem Anp {d : Int} {v : Val} (h : Cd d = v ∧ En d = 0) : D.tup [.agg (Val.c v), dB true] = .tup [.agg (Val.c (Cd d)), dB (decide (En d = 0))] := by rw [h.1, h.2]; rfl
theorem Apq {d : Int} (h : Cd d = ⟨0, 0⟩ ∧ En d = 17) : D.tup [.agg (Val.c ⟨0, 0⟩), dB false] = .tup [.agg (Val.c (Cd d)), dB (decide (En d = 0))] := by rw [h.1, h.2]; rfl
theorem Agv (d : Int) : XC Tryz.prog 125 [.v (.int .i64 d)] (fun r => r = .tup [.agg (Val.c (Cd d)), dB (decide (En d = 0))]) := by
 refine An Abr Tryz.func125 R R lb<|zr<|XL.step R (A0 2 (l := [.d (dI 0), .d (dI 0)]) R Dd (by kernel_rfl))<|za R R<|zn<|zs<|zr<|za R R<|zn<|Ah<|?_
 refine Aw (α := Nat) (fun k => k ≤ 10 ∧ ∀ i, i < 4 * k → Cg (Dv i) ≠ d) (fun k => mkF [(0, .d (dI d)), (2, .ptr 2 0 0), (4, .d (dI ((k : Int) - 1)))]) (fun k => mkH [(2, .box [.d (dI 0), .d (dI 0)])]) (fun k => 10 - k) (0) (⟨Nat.zero_le _, fun i h => absurd h (Nat.not_lt_zero _)⟩) ?_ ?_ ?_
 exact fz ⟨sr, sr, .same (sI (by decide)), trivial⟩
 exact gz ⟨R, trivial⟩
 intro k hk0
 obtain ⟨hk, hall⟩ := hk0
 refine zs<|zr<|zm R R<|zp (Fd R R R)<|zn<|?_
 refine zd R (fun c8 => ?_) (fun c8 => ?_)
 refine zi<|zs<|Ah<|zr<|za R R<|zn<|Ah<|?_
 refine Aw (α := Nat) (fun j => j ≤ 4 ∧ ∀ i, i < 4 * k + j → Cg (Dv i) ≠ d) (fun j => mkF [(0, .d (dI d)), (2, .ptr 2 0 0), (4, .d (dI ((k : Int) - 1))), (5, .d (dI (j : Nat)))]) (fun j => mkH [(2, .box [.d (dI 0), .d (dI 0)])]) (fun j => 4 - j) (0) (⟨Nat.zero_le _, fun i h => hall i (by omega)⟩) ?_ ?_ ?_
 exact fz ⟨sr, sr, sr, sr, trivial⟩
 exact gz ⟨R, trivial⟩
 intro j hk2
 obtain ⟨hj, hall2⟩ := hk2
 refine zs<|zr<|zm R R<|zp (Fd R R R)<|zn<|?_
 refine zd R (fun c12 => ?_) (fun c12 => ?_)
 have hj4 : j < 4 := by omega
 have hkj := Aku k j hj4
 have hve : C8 ⟨(k : Int) - 1, (j : Int)⟩ = 0 := (P5 ⟨by show -1 ≤ (k : Int) - 1; omega, by show (k : Int) - 1 ≤ 8; omega, by show (0 : Int) ≤ (j : Int); omega, by show (j : Int) ≤ 3; omega⟩).symm
 refine zi<|zs<|Ah<|zr<|zm R R<|zm R R<|zp (Ae (s' := .d (.agg [dI ((k : Int) - 1), dI (j : Nat)])) (Ac (Bc R Iz Dd R)) (by kernel_rfl))<|XL.step R (A0 6 (l := [.d (dI 0), .d (dI 0)]) R Dd (by kernel_rfl))<|XL.step R (Ag (l' := [.d (dI ((k : Int) - 1)), .d (dI (j : Nat))]) R R R R Dk R lb (by kernel_rfl))<|znr<|?_
 refine zp (Ae (s' := .d (.agg [dI ((k : Int) - 1), dI (j : Nat)])) (Ac (Ad R R Cf R lb)) (by kernel_rfl))<|XL.call1 R R (Agw ⟨(k : Int) - 1, (j : Int)⟩ hve) R<|zm R R<|zp (A1 R R R)<|zn<|?_
 refine zd R (fun c21 => ?_) (fun c21 => ?_)
 refine zr<|zp (Ae (s' := .d (.agg [dI ((k : Int) - 1), dI (j : Nat)])) (Ac (Ad R R Cf R lb)) (by kernel_rfl))<|XL.step R (Ag (l' := [.d (dI ((k : Int) - 1)), .d (dI (j : Nat))]) R R R R Dk R lb (by kernel_rfl))<|za R R<|zn<|zt<|?_
 exact Bl R (RV.cells R R R Cf lb R) (RV.tmp R R) (Anp (v := ⟨(k : Int) - 1, (j : Int)⟩) (by rw [← hkj]; exact Aq2 (by omega) hall2 (by rw [hkj]; exact c21)))
 refine zi<|Af (by kernel_rfl)<|zm R R<|zp (Aj R R R (by omega) (by omega))<|za R R<|zn<|?_
 exact Al (j + 1) (⟨by omega, fun i hi => by by_cases e : i = 4 * k + j; (· rw [e, hkj]; exact c21); (· exact hall2 i (by omega))⟩) (by omega) (fz ⟨sr, sr, sr, sr, trivial⟩) (gz ⟨rfl, trivial⟩)
 refine Ap<|Af (by kernel_rfl)<|zm R R<|zp (Aj R R R (by omega) (by omega))<|za R R<|zn<|?_
 exact Al (k + 1) (⟨by omega, fun i hi => hall2 i (by omega)⟩) (by omega) (fz ⟨sr, sr, .same (sI (by omega)), trivial⟩) (gz ⟨rfl, trivial⟩)
 refine Ap<|zr<|zp (Ae (s' := .d (.agg [dI 0, dI 0])) (Ac (Bc R Iz Dd R)) (by kernel_rfl))<|XL.step R (Ag (l' := [.d (dI 0), .d (dI 0)]) R R R R Dk R lb (by kernel_rfl))<|za R R<|zn<|zt<|?_
 exact Bl R (RV.cells R R R Cf lb R) (RV.tmp R R) (Apq (Apa (fun i hi => hall i (by omega))))
def stl (p : Int × Int × Bool) : Int := if p.2.2 = true then p.2.1 else 99
theorem Xk {p : Int × Int × Bool} (h : p.2.2 = true) : stl p = p.2.1 := by rw [stl, if_pos h]
theorem Amx {p : Int × Int × Bool} (h : ¬ p.2.2 = true) : stl p = 99 := by rw [stl, if_neg h]
theorem Aim {m : Me} {a : Int} {k : Nat} (h : m.level (a + 7560 * (k + 1)) < stl (D8 m a k)) : D8 m a (k + 1) = (a + 7560 * (k + 1), m.level (a + 7560 * (k + 1)), true) := by
 refine Ib ?_
 by_cases c : (D8 m a k).2.2 = true
 ·rw [Xk c] at h; exact .inr h
 ·exact .inl (by simpa using c)
theorem Amy {m : Me} {a : Int} {k : Nat} (h : ¬ m.level (a + 7560 * (k + 1)) < stl (D8 m a k)) : D8 m a (k + 1) = D8 m a k := by
 have hl := Pk m (a + 7560 * (k + 1))
 by_cases c : (D8 m a k).2.2 = true
 ·rw [Xk c] at h; exact Ra c h
 ·rw [Amx c] at h; omega
theorem Ac0 (m : Me) (a b : Int) (h : Mok m) (ha : 0 ≤ a ∧ a ≤ 4398046511104) (hb : b ≤ 4398046511104) : XC Tryz.prog 124 [.agg (Me.c m), .v (.int .i64 a), .v (.int .i64 b)] (fun r => r = .tup [dI (m.strong a b).1, dI (stl (m.strong a b))]) := by
 have hN : C6 a b = ((b - a - 1) / 7560).toNat := rfl
 refine An Abs Tryz.func124 R R lb<|zr<|XL.step R (As 3 (l := [.d (dI m.count), .d (dI m.unit), .d (dI m.g0), .d (dI m.g1), .d (dI m.g2), .d (dI m.g3), .d (dI m.g4), .d (dI m.g5)]) R R (by kernel_rfl))<|za R R<|za R R<|znr<|za R R<|zn<|zs<|zr<|zm R R<|zp (Aj R R R (by omega) (by omega))<|za R R<|zn<|?_
 refine Ah<|?_
 refine Aw (α := Nat) (fun k => k ≤ C6 a b) (fun k => mkF [(2, .d (dI b)), (3, .ptr 3 0 0), (6, .d (dI (D8 m a k).1)), (7, .d (dI (stl (D8 m a k)))), (8, .d (dI (a + 7560 * (k + 1))))]) (fun k => mkH [(3, .box ((Me.c m).map S.d))]) (fun k => C6 a b - k) (0) (Nat.zero_le _) ?_ ?_ ?_
 exact fz ⟨sr, sr, sr, sr, .same (sI (by omega)), trivial⟩
 exact gz ⟨R, trivial⟩
 intro k hk0
 refine zs<|zr<|zm R R<|zm R R<|zp (Ar R R R)<|zn<|?_
 refine zd R (fun c14 => ?_) (fun c14 => ?_)
 have hlt : k < C6 a b := by omega
 refine zi<|zs<|Ah<|zr<|zp (Ae (s' := .d (.agg (Me.c m))) (Ac (Ad R R Bj R lb)) (by kernel_rfl))<|zm R R<|XL.call1 R R (O4 _ _ (by assumption) (by omega)) R<|za R R<|znr<|zm R R<|zm R R<|zp (Ar R R R)<|zn<|?_
 refine zd R (fun c22 => ?_) (fun c22 => ?_)
 refine Af (by kernel_rfl)<|zm R R<|zm R R<|za R R<|za R R<|zn<|Af (by kernel_rfl)<|zm R R<|zp (Aj R R R (by omega) (by omega))<|za R R<|zn<|?_
 exact Al (k + 1) (by omega) (by omega) (fz ⟨sr, sr, .same (sI (by rw [Aim c22])), .same (sI (by rw [Aim c22]; rfl)), .same (sI (by omega)), trivial⟩) (gz ⟨R, trivial⟩)
 refine zi<|Af (by kernel_rfl)<|zm R R<|zp (Aj R R R (by omega) (by omega))<|za R R<|zn<|?_
 exact Al (k + 1) (by omega) (by omega) (fz ⟨sr, sr, .same (sI (by rw [Amy c22])), .same (sI (by rw [Amy c22])), .same (sI (by omega)), trivial⟩) (gz ⟨R, trivial⟩)
 have hk : k = C6 a b := by omega
 refine Ap<|zr<|zm R R<|zm R R<|za R R<|za R R<|zn<|zt<|?_
 exact Bl R (RV.tmp R R) (RV.tmp R R) (by rw [hk]; rfl)
theorem Aht : (Cd 7560).dots = 0 := by decide +kernel
theorem O5 {m : Me} {a b : Int} (hab : a ≤ b) (hne : ¬ a = b) (ha : a % 7560 = 0) (hb : b % 7560 = 0) (h : ¬ ((En (b - a) = 0 ∧ (Cd (b - a)).dots ≤ 2) ∧ m.level a ≤ stl (m.strong a b) ∧ (0 < (Cd (b - a)).dots ∨ m.level b ≤ stl (m.strong a b)))) : (m.strong a b).2.2 = true := by
 refine Decidable.not_not.1 fun c => h ?_
 have hn := Rv (m := m) (a := a) (b := b) (by simpa using c)
 unfold C6 at hn
 have hd : b - a = 7560 := by omega
 have h1 := Pk m a
 have h2 := Pk m b
 rw [hd, Amx c, W4, Aht]
 omega
theorem Mz {m : Me} {a b : Int} (h : (En (b - a) = 0 ∧ (Cd (b - a)).dots ≤ 2) ∧ m.level a ≤ stl (m.strong a b) ∧ (0 < (Cd (b - a)).dots ∨ m.level b ≤ stl (m.strong a b))) : m.simp a b ∨ (m.strong a b).2.2 = false := by
 by_cases c : (m.strong a b).2.2 = true
 ·rw [Xk c] at h
  exact .inl ⟨h.1.1, h.1.2, fun _ => h.2⟩
 ·exact .inr (by simpa using c)
theorem M0 {m : Me} {a b : Int} (hw : (m.strong a b).2.2 = true) (h : ¬ ((En (b - a) = 0 ∧ (Cd (b - a)).dots ≤ 2) ∧ m.level a ≤ stl (m.strong a b) ∧ (0 < (Cd (b - a)).dots ∨ m.level b ≤ stl (m.strong a b)))) : ¬ m.simp a b := fun ⟨k1, k2, k3⟩ => h ⟨⟨k1, k2⟩, by rw [Xk hw]; exact k3 hw⟩
theorem L5 {m : Me} {a b : Int} (ha : a % 7560 = 0) (hw : (m.strong a b).2.2 = true) : (m.strong a b).1 % 7560 = 0 := by
 obtain ⟨j, _, hj⟩ := P8 hw
 rw [hj]; omega
theorem Yt (m : Me) (h : Mok m) (f : Nat) (ih : ∀ a b, SpP f a b → a % 7560 = 0 → b % 7560 = 0 → XS Tryz.prog 76 [.agg (Me.c m), dI a, dI b] (.own 7001) [(7001, .row 56 2 ((D9 m f a b).map Val.c))]) (a b : Int) (hp : SpP (f + 1) a b) (hma : a % 7560 = 0) (hmb : b % 7560 = 0) : XS Tryz.prog 76 [.agg (Me.c m), .v (.int .i64 a), .v (.int .i64 b)] (.own 7001) [(7001, .row 56 2 ((D9 m (f + 1) a b).map Val.c))] := by
 obtain ⟨ha, hab, hb, hd, hf⟩ := id hp
 refine Jf Adr Tryz.func76 R R lb (by kernel_rfl) (by kernel_rfl)<|zr<|XL.step R (As 3 (l := [.d (dI m.count), .d (dI m.unit), .d (dI m.g0), .d (dI m.g1), .d (dI m.g2), .d (dI m.g3), .d (dI m.g4), .d (dI m.g5)]) R R (by kernel_rfl))<|za R R<|zn<|zs<|zr<|zm R R<|zm R R<|zp (A1 R R R)<|zn<|?_
 refine zd R (fun c13 => ?_) (fun c13 => ?_)
 refine zr<|za R R<|zn<|C7 7001 6 56 2 R<|zt<|?_
 exact ⟨Ea R (RVS.tmp R R), HSub.cons (by first | exact Dh (by rw [Cn c13]; rfl) | exact Fc (Co c13 (M0 hw hno) hw) | exact Dh (by rw [Cm c13 (Mz ⟨⟨by omega, by omega⟩, by omega, by omega⟩)]; rfl)) (HSub.nil)⟩
 refine zi<|zr<|zp (Ae (s' := .d (.agg (Me.c m))) (Ac (Ad R R Bj R lb)) (by kernel_rfl))<|zm R R<|zm R R<|XL.call1 R R (Ac0 _ _ _ (by assumption) (by omega) (by omega)) R<|zm R R<|zp (Ba R R R)<|zp (Ba R R R)<|za R R<|za R R<|znr<|zm R R<|zm R R<|?_
 refine zp (Do R R R (by omega) (by omega))<|XL.call1 R R (Agv _) R<|zm R R<|zp (Ba R R R)<|zp (Ba R R R)<|XL.step R (A0 9 (l := [.d (dI 0), .d (dI 0)]) R Dd (by kernel_rfl))<|XL.step R (Ag (l' := [.d (dI (Cd (b - a)).log), .d (dI (Cd (b - a)).dots)]) R R R R Dk R lb (by kernel_rfl))<|za R R<|zn<|zs<|zr<|zm R R<|zm R R<|?_
 refine XL.bool 29 R (fun g29 => ?_) (fun g29 => ?_)
 have g29 := of_decide_eq_true g29
 refine zp (Ab R R Hi)<|zp (Aa R R Ai R R)<|zp (Fd R R R)<|zq R R R<|zm R R<|?_
 refine XL.dec 34 R (fun g34 => ?_) (fun g34 => ?_)
 refine zm R R<|zp (Ae (s' := .d (.agg (Me.c m))) (Ac (Ad R R Bj R lb)) (by kernel_rfl))<|zm R R<|XL.call1 R R (O4 _ _ (by assumption) (by omega)) R<|zp (Dp R R R)<|zq R R R<|zm R R<|?_
 refine XL.dec 41 R (fun g41 => ?_) (fun g41 => ?_)
 refine zp (Ab R R Hi)<|zp (Aa R R Ai R R)<|zp (A7 R R R)<|zm R R<|?_
 refine XL.dec 45 R (fun g45 => ?_) (fun g45 => ?_)
 refine zk 5 R<|zq R R R<|zq R R R<|zn<|Aq (by kernel_rfl) R<|zr<|zp (Ae (s' := .d (.agg (Val.c (Cd (b - a))))) (Ac (Ad R R Cf R lb)) (by kernel_rfl))<|XL.step R (Bg 7001 R Tryz.underlying106 Dk Dd R R (by omega) (by omega))<|zp (Ao R (by conv => lhs; whnf))<|?_
 refine zn<|zt<|?_
 exact ⟨Ea R (RVS.tmp R R), HSub.cons (by first | exact Dh (by rw [Cn c13]; rfl) | exact Fc (Co c13 (M0 hw hno) hw) | exact Dh (by rw [Cm c13 (Mz ⟨⟨by omega, by omega⟩, by omega, by omega⟩)]; rfl)) (HSub.nil)⟩
 refine zm R R<|zp (Ae (s' := .d (.agg (Me.c m))) (Ac (Ad R R Bj R lb)) (by kernel_rfl))<|zm R R<|XL.call1 R R (O4 _ _ (by assumption) (by omega)) R<|zp (Dp R R R)<|zq R R R<|zq R R R<|zn<|?_
 refine zd R (fun c52 => ?_) (fun c52 => ?_)
 refine zr<|zp (Ae (s' := .d (.agg (Val.c (Cd (b - a))))) (Ac (Ad R R Cf R lb)) (by kernel_rfl))<|XL.step R (Bg 7001 R Tryz.underlying106 Dk Dd R R (by omega) (by omega))<|zp (Ao R (by conv => lhs; whnf))<|?_
 refine zn<|zt<|?_
 exact ⟨Ea R (RVS.tmp R R), HSub.cons (by first | exact Dh (by rw [Cn c13]; rfl) | exact Fc (Co c13 (M0 hw hno) hw) | exact Dh (by rw [Cm c13 (Mz ⟨⟨by omega, by omega⟩, by omega, by omega⟩)]; rfl)) (HSub.nil)⟩
 refine zi<|zs<|?_
 have hno : ¬ ((En (b - a) = 0 ∧ (Cd (b - a)).dots ≤ 2) ∧ m.level a ≤ stl (m.strong a b) ∧ (0 < (Cd (b - a)).dots ∨ m.level b ≤ stl (m.strong a b))) := by omega
 have hw := O5 hab c13 hma hmb hno
 have hmc := L5 hma hw
 obtain ⟨hp1, hp2, hp3⟩ := Ft hp hw
 have hl1 := Cr (m := m) f _ _ hp1
 have hl2 := Cr (m := m) f _ _ hp2
 have hN : C6 a b ≤ 2048 := by unfold C6; omega
 refine C0 7 [7001] (by kernel_rfl) (by kernel_rfl) (by kernel_rfl) (by kernel_rfl) (by decide)<|yp (Ae (s' := .d (.agg (Me.c m))) (Ac (Ad R R Bj R lb)) (by kernel_rfl))<|ym R R<|ym R R<|ChK.cons R (CStep.callS R ((ih _ _ hp1 hma hmc).lab 7001) R (Eq (by kernel_rfl)))<|yp (Ae (s' := .d (.agg (Me.c m))) (Ac (Ad R R Bj R lb)) (by kernel_rfl))<|?_
 refine ym R R<|ym R R<|?_
 refine ChK.nil ⟨by kernel_rfl, ?_⟩
 refine XL.callS R R ((ih _ _ hp2 hmc hmb).lab 7002) R<|XL.step R (A4 R Io (.own R) (Src.own R) (by simp only [List.length_map]; unfold maxLen; omega) (by simp only [List.length_map]; omega))<|zp (Ao R (by conv => lhs; whnf))<|?_
 refine zn<|zt<|?_
 exact ⟨Ea R (RVS.tmp R R), HSub.cons (by first | exact Dh (by rw [Cn c13]; rfl) | exact Fc (Co c13 (M0 hw hno) hw) | exact Dh (by rw [Cm c13 (Mz ⟨⟨by omega, by omega⟩, by omega, by omega⟩)]; rfl)) (HSub.nil)⟩
 refine zk 10 R<|zq R R R<|zn<|A3 (by kernel_rfl) R<|zi<|zs<|?_
 have hno : ¬ ((En (b - a) = 0 ∧ (Cd (b - a)).dots ≤ 2) ∧ m.level a ≤ stl (m.strong a b) ∧ (0 < (Cd (b - a)).dots ∨ m.level b ≤ stl (m.strong a b))) := by omega
 have hw := O5 hab c13 hma hmb hno
 have hmc := L5 hma hw
 obtain ⟨hp1, hp2, hp3⟩ := Ft hp hw
 have hl1 := Cr (m := m) f _ _ hp1
 have hl2 := Cr (m := m) f _ _ hp2
 have hN : C6 a b ≤ 2048 := by unfold C6; omega
 refine C0 7 [7001] (by kernel_rfl) (by kernel_rfl) (by kernel_rfl) (by kernel_rfl) (by decide)<|yp (Ae (s' := .d (.agg (Me.c m))) (Ac (Ad R R Bj R lb)) (by kernel_rfl))<|ym R R<|ym R R<|ChK.cons R (CStep.callS R ((ih _ _ hp1 hma hmc).lab 7001) R (Eq (by kernel_rfl)))<|yp (Ae (s' := .d (.agg (Me.c m))) (Ac (Ad R R Bj R lb)) (by kernel_rfl))<|?_
 refine ym R R<|ym R R<|?_
 refine ChK.nil ⟨by kernel_rfl, ?_⟩
 refine XL.callS R R ((ih _ _ hp2 hmc hmb).lab 7003) R<|XL.step R (A4 R Io (.own R) (Src.own R) (by simp only [List.length_map]; unfold maxLen; omega) (by simp only [List.length_map]; omega))<|zp (Ao R (by conv => lhs; whnf))<|?_
 refine zn<|zt<|?_
 exact ⟨Ea R (RVS.tmp R R), HSub.cons (by first | exact Dh (by rw [Cn c13]; rfl) | exact Fc (Co c13 (M0 hw hno) hw) | exact Dh (by rw [Cm c13 (Mz ⟨⟨by omega, by omega⟩, by omega, by omega⟩)]; rfl)) (HSub.nil)⟩
 refine zk 5 R<|zq R R R<|zm R R<|zk 10 R<|zq R R R<|zn<|A3 (by kernel_rfl) R<|zi<|zs<|?_
 have hno : ¬ ((En (b - a) = 0 ∧ (Cd (b - a)).dots ≤ 2) ∧ m.level a ≤ stl (m.strong a b) ∧ (0 < (Cd (b - a)).dots ∨ m.level b ≤ stl (m.strong a b))) := by omega
 have hw := O5 hab c13 hma hmb hno
 have hmc := L5 hma hw
 obtain ⟨hp1, hp2, hp3⟩ := Ft hp hw
 have hl1 := Cr (m := m) f _ _ hp1
 have hl2 := Cr (m := m) f _ _ hp2
 have hN : C6 a b ≤ 2048 := by unfold C6; omega
 refine C0 7 [7001] (by kernel_rfl) (by kernel_rfl) (by kernel_rfl) (by kernel_rfl) (by decide)<|yp (Ae (s' := .d (.agg (Me.c m))) (Ac (Ad R R Bj R lb)) (by kernel_rfl))<|ym R R<|ym R R<|ChK.cons R (CStep.callS R ((ih _ _ hp1 hma hmc).lab 7001) R (Eq (by kernel_rfl)))<|yp (Ae (s' := .d (.agg (Me.c m))) (Ac (Ad R R Bj R lb)) (by kernel_rfl))<|?_
 refine ym R R<|ym R R<|?_
 refine ChK.nil ⟨by kernel_rfl, ?_⟩
 refine XL.callS R R ((ih _ _ hp2 hmc hmb).lab 7004) R<|XL.step R (A4 R Io (.own R) (Src.own R) (by simp only [List.length_map]; unfold maxLen; omega) (by simp only [List.length_map]; omega))<|zp (Ao R (by conv => lhs; whnf))<|?_
 refine zn<|zt<|?_
 exact ⟨Ea R (RVS.tmp R R), HSub.cons (by first | exact Dh (by rw [Cn c13]; rfl) | exact Fc (Co c13 (M0 hw hno) hw) | exact Dh (by rw [Cm c13 (Mz ⟨⟨by omega, by omega⟩, by omega, by omega⟩)]; rfl)) (HSub.nil)⟩
 have g29 := of_decide_eq_false g29
 refine zk 3 R<|zq R R R<|zm R R<|zk 5 R<|zq R R R<|zm R R<|zk 10 R<|zq R R R<|zn<|A3 (by kernel_rfl) R<|zi<|zs<|?_
 have hno : ¬ ((En (b - a) = 0 ∧ (Cd (b - a)).dots ≤ 2) ∧ m.level a ≤ stl (m.strong a b) ∧ (0 < (Cd (b - a)).dots ∨ m.level b ≤ stl (m.strong a b))) := by omega
 have hw := O5 hab c13 hma hmb hno
 have hmc := L5 hma hw
 obtain ⟨hp1, hp2, hp3⟩ := Ft hp hw
 have hl1 := Cr (m := m) f _ _ hp1
 have hl2 := Cr (m := m) f _ _ hp2
 have hN : C6 a b ≤ 2048 := by unfold C6; omega
 refine C0 7 [7001] (by kernel_rfl) (by kernel_rfl) (by kernel_rfl) (by kernel_rfl) (by decide)<|yp (Ae (s' := .d (.agg (Me.c m))) (Ac (Ad R R Bj R lb)) (by kernel_rfl))<|ym R R<|ym R R<|ChK.cons R (CStep.callS R ((ih _ _ hp1 hma hmc).lab 7001) R (Eq (by kernel_rfl)))<|yp (Ae (s' := .d (.agg (Me.c m))) (Ac (Ad R R Bj R lb)) (by kernel_rfl))<|?_
 refine ym R R<|ym R R<|?_
 refine ChK.nil ⟨by kernel_rfl, ?_⟩
 refine XL.callS R R ((ih _ _ hp2 hmc hmb).lab 7005) R<|XL.step R (A4 R Io (.own R) (Src.own R) (by simp only [List.length_map]; unfold maxLen; omega) (by simp only [List.length_map]; omega))<|zp (Ao R (by conv => lhs; whnf))<|?_
 refine zn<|zt<|?_
 exact ⟨Ea R (RVS.tmp R R), HSub.cons (by first | exact Dh (by rw [Cn c13]; rfl) | exact Fc (Co c13 (M0 hw hno) hw) | exact Dh (by rw [Cm c13 (Mz ⟨⟨by omega, by omega⟩, by omega, by omega⟩)]; rfl)) (HSub.nil)⟩
theorem Tz (m : Me) (h : Mok m) : ∀ (f : Nat) (a b : Int), SpP f a b → a % 7560 = 0 → b % 7560 = 0 → XS Tryz.prog 76 [.agg (Me.c m), dI a, dI b] (.own 7001) [(7001, .row 56 2 ((D9 m f a b).map Val.c))]
 | 0, a, b, hp, _, _ => by have := hp.2.2.2.2; omega
 | f + 1, a, b, hp, h1, h2 => Yt m h f (Tz m h f) a b hp h1 h2
theorem Rw (m : Me) (a b : Int) (h : m.splitE a b = 0) : XS Tryz.prog 76 [.agg (Me.c m), dI a, dI b] (.own 7001) [(7001, .row 56 2 ((m.split a b).map Val.c))] := by
 obtain ⟨h0, h1, h2, h3, h4, h5, h6, h7⟩ := Vt h
 rw [h7]
 exact Tz m (Aji (by omega)) _ a b ⟨h1, h2, h3, h6, Nat.le_refl _⟩ h4 h5
end Go.Proofs.YtcihalbakenleaaGreat
namespace Go.Proofs.YtcihalbakenleaaGreat
open Go.RowKit
theorem Jj (l : List Hd) (h : l.length ≤ 1000) : XC Tryz.prog 51 [.sl 5 (l.map Hd.c)] (fun r => r = .sl 5 ((l.map Hd.tie).map Hd.c)) := by
 refine An Aed Tryz.func51 R R lb<|zr<|za R R<|znr<|za R R<|zn<|zs<|zr<|za R R<|zn<|Ah<|C7 900 3 91 5 R<|?_
 refine Aw (α := Nat) (fun k => k ≤ l.length) (fun k => mkF [(0, .d (.sl 5 (l.map Hd.c))), (2, .d (.v (.slice none 0 0))), (3, .own 900), (4, .d (dI k))]) (fun k => mkH [(900, .row 91 5 (((l.take k).map Hd.tie).map Hd.c))]) (fun k => l.length - k) (0) (Nat.zero_le _) ?_ ?_ ?_
 exact fz ⟨sr, sr, sr, sr, trivial⟩
 exact gz ⟨R, trivial⟩
 intro k hk0
 refine zs<|zr<|zm R R<|zm R R<|XL.len R R R Tryz.underlying48 fun hl7=>zp (Ar R R R)<|zn<|?_
 refine zd R (fun c8 => ?_) (fun c8 => ?_)
 have hk0a : k < l.length := by omega
 obtain ⟨x0, hx0⟩ := Av hk0a
 have htl : ((l.take k).map Hd.tie).length = k := by rw [List.length_map, List.length_take]; omega
 refine zi<|zs<|Ah<|C0 13 [] (by kernel_rfl) (by kernel_rfl) (by kernel_rfl) (by kernel_rfl) (by decide)<|yp (Ax R (by conv => lhs; whnf))<|?_
 refine ym R R<|ym R R<|yp (Am R R R Gh hx0)<|yp (Bm R R Ik)<|yp (Ae (s' := .d (.agg (Pit.c x0.p))) (Au R R Fp lb) (by kernel_rfl))<|ym R R<|ym R R<|yp (Am R R R Gh hx0)<|yp (Bm R R Pp)<|yp (Ay R R Ai)<|?_
 refine yp (Ae (s' := .d (.agg [dI x0.p.step, dI x0.p.alter, dI x0.p.oct, dB true, dI x0.sh])) (Ac (Bc R Yd Je R)) (by kernel_rfl))<|ChK.cons R (CStep.slice R Tryz.underlying48 Q8 Je R R (by omega) (by omega))<|?_
 refine ChK.nil ⟨by kernel_rfl, ?_⟩
 refine XL.step R (A4 R Zw (.own R) (Src.sl (by omega)) (by unfold maxLen; simp; omega) (by simp; omega))<|zp (Ao R (by conv => lhs; whnf))<|?_
 refine zn<|Af (by kernel_rfl)<|zm R R<|zp (Aj R R R (by omega) (by omega))<|za R R<|zn<|?_
 exact Al (k + 1) (by omega) (by omega) (fz ⟨sr, sr, sr, sr, trivial⟩) (gz ⟨Ec (a := Hd.tie x0) R (by rw [Bk hx0, List.map_append]; rfl), trivial⟩)
 have hk0b : k = l.length := by omega
 have ht : l.take k = l := by rw [hk0b, List.take_length]
 refine Ap<|zr<|zp (Ax R (by conv => lhs; whnf))<|?_
 refine zp (Ao R (by conv => lhs; whnf))<|?_
 exact zn<|zt<|Bh (i := 900) R<|z1 R R (rSl (by rw [ht]))
theorem Ac1 (l : List Hd) (h : l.length ≤ 1000) : XC Tryz.prog 96 [.sl 5 (l.map Hd.c)] (fun r => r = .sl 5 ((l.map Hd.plain).map Hd.c)) := by
 refine An Adb Tryz.func96 R R lb<|zr<|za R R<|znr<|za R R<|zn<|zs<|zr<|za R R<|zn<|Ah<|C7 900 3 91 5 R<|?_
 refine Aw (α := Nat) (fun k => k ≤ l.length) (fun k => mkF [(0, .d (.sl 5 (l.map Hd.c))), (2, .d (.v (.slice none 0 0))), (3, .own 900), (4, .d (dI k))]) (fun k => mkH [(900, .row 91 5 (((l.take k).map Hd.plain).map Hd.c))]) (fun k => l.length - k) (0) (Nat.zero_le _) ?_ ?_ ?_
 exact fz ⟨sr, sr, sr, sr, trivial⟩
 exact gz ⟨R, trivial⟩
 intro k hk0
 refine zs<|zr<|zm R R<|zm R R<|XL.len R R R Tryz.underlying48 fun hl7=>zp (Ar R R R)<|zn<|?_
 refine zd R (fun c8 => ?_) (fun c8 => ?_)
 have hk0a : k < l.length := by omega
 obtain ⟨x0, hx0⟩ := Av hk0a
 have htl : ((l.take k).map Hd.plain).length = k := by rw [List.length_map, List.length_take]; omega
 refine zi<|zs<|Ah<|C0 13 [] (by kernel_rfl) (by kernel_rfl) (by kernel_rfl) (by kernel_rfl) (by decide)<|yp (Ax R (by conv => lhs; whnf))<|?_
 refine ym R R<|ym R R<|yp (Am R R R Gh hx0)<|yp (Bm R R Ik)<|yp (Ae (s' := .d (.agg (Pit.c x0.p))) (Au R R Fp lb) (by kernel_rfl))<|ym R R<|ym R R<|yp (Am R R R Gh hx0)<|yp (Bm R R J4)<|yp (Ay R R Oz)<|?_
 refine yp (Ae (s' := .d (.agg [dI x0.p.step, dI x0.p.alter, dI x0.p.oct, dB x0.tied, dI 0])) (Ac (Bc R Yd Je R)) (by kernel_rfl))<|ChK.cons R (CStep.slice R Tryz.underlying48 Q8 Je R R (by omega) (by omega))<|?_
 refine ChK.nil ⟨by kernel_rfl, ?_⟩
 refine XL.step R (A4 R Zw (.own R) (Src.sl (by omega)) (by unfold maxLen; simp; omega) (by simp; omega))<|zp (Ao R (by conv => lhs; whnf))<|?_
 refine zn<|Af (by kernel_rfl)<|zm R R<|zp (Aj R R R (by omega) (by omega))<|za R R<|zn<|?_
 exact Al (k + 1) (by omega) (by omega) (fz ⟨sr, sr, sr, sr, trivial⟩) (gz ⟨Ec (a := Hd.plain x0) R (by rw [Bk hx0, List.map_append]; rfl), trivial⟩)
 have hk0b : k = l.length := by omega
 have ht : l.take k = l := by rw [hk0b, List.take_length]
 refine Ap<|zr<|zp (Ax R (by conv => lhs; whnf))<|?_
 refine zp (Ao R (by conv => lhs; whnf))<|?_
 exact zn<|zt<|Bh (i := 900) R<|z1 R R (rSl (by rw [ht]))
def Ev.furV (x : Ev) : Ev := ⟨0, 0, x.kind, x.v, x.heads.map Hd.plain, [], 0, 0, 0, [], x.stem, 0⟩
theorem Nk (x : Ev) (h : x.fit) : XC Tryz.prog 52 [.agg (Ev.c x)] (fun r => r = .agg (Ev.c x.furV)) := by
 have h1 := h.1
 refine An Aec Tryz.func52 R R lb<|zr<|XL.step R (As 1 (l := [.d (dI x.site), .d (dI x.num), .d (dI x.kind), .d (dI x.v.log), .d (dI x.v.dots), .d (.sl 5 (x.heads.map Hd.c)), .d (.sl 5 (x.graces.map Gr.c)), .d (dI x.art), .d (dI x.orn), .d (dI x.dyn), .d (.sl 2 (x.lyr.map Sy.c)), .d (dI x.stem), .d (dI x.beam)]) R R (by kernel_rfl))<|?_
 refine XL.step R (A0 2 (l := [.d (dI 0), .d (dI 0), .d (dI 0), .d (dI 0), .d (dI 0), .d (.v (.slice none 0 0)), .d (.v (.slice none 0 0)), .d (dI 0), .d (dI 0), .d (dI 0), .d (.v (.slice none 0 0)), .d (dI 0), .d (dI 0)]) R B2 (by kernel_rfl))<|zn<|zs<|C0 9 [] (by kernel_rfl) (by kernel_rfl) (by kernel_rfl) (by kernel_rfl) (by decide)<|yp (Ab R R B3)<|?_
 refine yp (Aa R R Ai R R)<|yp (Ab R R Ce)<|yp (Ae (s' := .d (.agg (Val.c x.v))) (Ac (Ad R R Cf R lb)) (by kernel_rfl))<|yp (Ab R R Bp)<|yp (Aa R R Dg R R)<|ChK.cons R (CStep.call R (Ac1 _ (by omega)) R)<|yp (Ab R R Ed)<|yp (Aa R R Ai R R)<|?_
 refine ChK.nil ⟨by kernel_rfl, ?_⟩
 refine zp (Ae (s' := .d (.agg [dI 0, dI 0, dI x.kind, dI x.v.log, dI x.v.dots, .sl 5 ((x.heads.map Hd.plain).map Hd.c), .v (.slice none 0 0), dI 0, dI 0, dI 0, .v (.slice none 0 0), dI x.stem, dI 0])) (Ac (Bc R Mq B2 R)) (by kernel_rfl))<|?_
 refine XL.step R (Ag (l' := [.d (dI 0), .d (dI 0), .d (dI x.kind), .d (dI x.v.log), .d (dI x.v.dots), .d (.sl 5 ((x.heads.map Hd.plain).map Hd.c)), .d (.v (.slice none 0 0)), .d (dI 0), .d (dI 0), .d (dI 0), .d (.v (.slice none 0 0)), .d (dI x.stem), .d (dI 0)]) R R R R B4 R lb (by kernel_rfl))<|zn<|zt<|?_
 exact Fv R (RV.sub (RV.cells R R R Az lb R) (.agg (.cons (.same R) (.cons (.same R) (.cons (.same R) (.cons (.same R) (.cons (.same R) (.cons (.same R) (.cons (.nil 5) (.cons (.same R) (.cons (.same R) (.cons (.same R) (.cons (.nil 2) (.cons (.same R) (.cons (.same R) (.nil)))))))))))))))) (R)
theorem V2 (x : Ev) (m : Me) (a b : Int) (h : x.fit) (hs : m.splitE a b = 0) : XC Tryz.prog 37 [.agg (Ev.c x), .agg (Me.c m), .v (.int .i64 a), .v (.int .i64 b)] (fun r => r = .sl 13 ((Bn x (m.split a b) false).map Ev.c)) := by
 have hf1 := h.1
 have hsl := I0 m a b
 refine An Sa Tryz.func37 R R lb<|zr<|XL.step R (As 4 (l := [.d (dI x.site), .d (dI x.num), .d (dI x.kind), .d (dI x.v.log), .d (dI x.v.dots), .d (.sl 5 (x.heads.map Hd.c)), .d (.sl 5 (x.graces.map Gr.c)), .d (dI x.art), .d (dI x.orn), .d (dI x.dyn), .d (.sl 2 (x.lyr.map Sy.c)), .d (dI x.stem), .d (dI x.beam)]) R R (by kernel_rfl))<|?_
 refine XL.step R (As 5 (l := [.d (dI m.count), .d (dI m.unit), .d (dI m.g0), .d (dI m.g1), .d (dI m.g2), .d (dI m.g3), .d (dI m.g4), .d (dI m.g5)]) R R (by kernel_rfl))<|za R R<|znr<|zp (Ae (s' := .d (.agg (Me.c m))) (Ac (Ad R R Bj R lb)) (by kernel_rfl))<|zm R R<|zm R R<|XL.callS R R ((Rw _ _ _ (by assumption)).lab 7001) R<|zp (Ao R (by conv => lhs; whnf))<|?_
 refine znr<|XL.freeze (i := 7001) R<|za R R<|zn<|zs<|zr<|za R R<|zn<|Ah<|C7 900 10 60 13 R<|?_
 refine Aw (α := Nat) (fun k => k ≤ (m.split a b).length) (fun k => mkF [(4, .ptr 4 0 0), (8, .d (.v (.slice none 0 0))), (9, .d (.sl 2 ((m.split a b).map Val.c))), (10, .own 900), (11, .d (dI k))]) (fun k => mkH [(4, .box ((Ev.c x).map S.d)), (900, .row 60 13 ((Fk x (m.split a b) false k).map Ev.c))]) (fun k => (m.split a b).length - k) (0) (Nat.zero_le _) ?_ ?_ ?_
 exact fz ⟨sr, sr, sr, sr, sr, trivial⟩
 exact gz ⟨R, R, trivial⟩
 intro k hk0
 refine zs<|zr<|zm R R<|zm R R<|XL.len R R R Tryz.underlying106 fun hl19=>zp (Ar R R R)<|zn<|?_
 refine zd R (fun c20 => ?_) (fun c20 => ?_)
 have hk0a : k < (m.split a b).length := by omega
 obtain ⟨x0, hx0⟩ := Av hk0a
 have hnl : (Fk x (m.split a b) false k).length = k := by rw [Fk, List.length_mapIdx, List.length_take]; omega
 have hpl : (x.heads.map Hd.plain).length ≤ 1000 := by rw [List.length_map]; exact hf1
 have hpl2 : x.furV.heads.length ≤ 1000 := hpl
 refine zi<|zs<|Ah<|zr<|zp (Ae (s' := .d (.agg (Ev.c x))) (Ac (Ad R R Az R lb)) (by kernel_rfl))<|XL.step R (A0 12 (l := [.d (dI 0), .d (dI 0), .d (dI 0), .d (dI 0), .d (dI 0), .d (.v (.slice none 0 0)), .d (.v (.slice none 0 0)), .d (dI 0), .d (dI 0), .d (dI 0), .d (.v (.slice none 0 0)), .d (dI 0), .d (dI 0)]) R B2 (by kernel_rfl))<|?_
 refine XL.step R (Ag (l' := [.d (dI x.site), .d (dI x.num), .d (dI x.kind), .d (dI x.v.log), .d (dI x.v.dots), .d (.sl 5 (x.heads.map Hd.c)), .d (.sl 5 (x.graces.map Gr.c)), .d (dI x.art), .d (dI x.orn), .d (dI x.dyn), .d (.sl 2 (x.lyr.map Sy.c)), .d (dI x.stem), .d (dI x.beam)]) R R R R B4 R lb (by kernel_rfl))<|zn<|zs<|zr<|zm R R<|zp (A7 R R R)<|zn<|?_
 refine zd R (fun c25 => ?_) (fun c25 => ?_)
 refine Af (by kernel_rfl)<|zp (Ae (s' := .d (.agg (Ev.c x))) (Ac (Ad R R Az R lb)) (by kernel_rfl))<|XL.call1 R R (Nk _ (by assumption)) R<|?_
 refine XL.step R (Ag (l' := [.d (dI x.furV.site), .d (dI x.furV.num), .d (dI x.furV.kind), .d (dI x.furV.v.log), .d (dI x.furV.v.dots), .d (.sl 5 (x.furV.heads.map Hd.c)), .d (.sl 5 (x.furV.graces.map Gr.c)), .d (dI x.furV.art), .d (dI x.furV.orn), .d (dI x.furV.dyn), .d (.sl 2 (x.furV.lyr.map Sy.c)), .d (dI x.furV.stem), .d (dI x.furV.beam)]) R R R R B4 R lb (by kernel_rfl))<|zn<|zs<|zr<|?_
 refine zm R R<|zp (Aj R R R (by omega) (by omega))<|zm R R<|XL.len R R R Tryz.underlying106 fun hl31=>zp (Ar R R R)<|zn<|?_
 refine zd R (fun c32 => ?_) (fun c32 => ?_)
 refine Af (by kernel_rfl)<|zp (Ab R R Bp)<|zp (Aa R R Dg R R)<|XL.call1 R R (Jj _ (by omega)) R<|zp (Ab R R Bp)<|?_
 refine XL.step R (Ag (l' := [.d (dI x.furV.site), .d (dI x.furV.num), .d (dI x.furV.kind), .d (dI x.furV.v.log), .d (dI x.furV.v.dots), .d (.sl 5 ((x.furV.heads.map Hd.tie).map Hd.c)), .d (.sl 5 (x.furV.graces.map Gr.c)), .d (dI x.furV.art), .d (dI x.furV.orn), .d (dI x.furV.dyn), .d (.sl 2 (x.furV.lyr.map Sy.c)), .d (dI x.furV.stem), .d (dI x.furV.beam)]) R R R R Jh R lb (by kernel_rfl))<|?_
 refine znr<|zm R R<|zm R R<|zp (Am R R R Kq hx0)<|zp (Ae (s' := .d (.agg (Val.c x0))) (Au R R Cf lb) (by kernel_rfl))<|zp (Ab R R Ce)<|?_
 refine XL.step R (Ag (l' := [.d (dI x.furV.site), .d (dI x.furV.num), .d (dI x.furV.kind), .d (dI x0.log), .d (dI x0.dots), .d (.sl 5 ((x.furV.heads.map Hd.tie).map Hd.c)), .d (.sl 5 (x.furV.graces.map Gr.c)), .d (dI x.furV.art), .d (dI x.furV.orn), .d (dI x.furV.dyn), .d (.sl 2 (x.furV.lyr.map Sy.c)), .d (dI x.furV.stem), .d (dI x.furV.beam)]) R R R R Dk R lb (by kernel_rfl))<|zng<|?_
 refine zp (Ax R (by conv => lhs; whnf))<|?_
 refine zp (Ae (s' := .d (.agg [dI x.furV.site, dI x.furV.num, dI x.furV.kind, dI x0.log, dI x0.dots, .sl 5 ((x.furV.heads.map Hd.tie).map Hd.c), .sl 5 (x.furV.graces.map Gr.c), dI x.furV.art, dI x.furV.orn, dI x.furV.dyn, .sl 2 (x.furV.lyr.map Sy.c), dI x.furV.stem, dI x.furV.beam])) (Ac (Ad R R Az R lb)) (by kernel_rfl))<|?_
 refine XL.step R (Bg 44 R Tryz.underlying22 B4 B2 R R (by omega) (by omega))<|XL.step R (A4 R Du (.own R) (Src.own R) (by unfold maxLen; simp; omega) (by simp; omega))<|zp (Ao R (by conv => lhs; whnf))<|?_
 refine zn<|Af (by kernel_rfl)<|zm R R<|zp (Aj R R R (by omega) (by omega))<|za R R<|zn<|?_
 exact Al (k + 1) (by omega) (by omega) (fz ⟨sr, sr, sr, sr, sr, trivial⟩) (gz ⟨R, Ec R (Dx hx0 (T8 (.inl c25) c32)), trivial⟩)
 refine zi<|zr<|zm R R<|zm R R<|zp (Am R R R Kq hx0)<|zp (Ae (s' := .d (.agg (Val.c x0))) (Au R R Cf lb) (by kernel_rfl))<|zp (Ab R R Ce)<|?_
 refine XL.step R (Ag (l' := [.d (dI x.furV.site), .d (dI x.furV.num), .d (dI x.furV.kind), .d (dI x0.log), .d (dI x0.dots), .d (.sl 5 (x.furV.heads.map Hd.c)), .d (.sl 5 (x.furV.graces.map Gr.c)), .d (dI x.furV.art), .d (dI x.furV.orn), .d (dI x.furV.dyn), .d (.sl 2 (x.furV.lyr.map Sy.c)), .d (dI x.furV.stem), .d (dI x.furV.beam)]) R R R R Dk R lb (by kernel_rfl))<|zng<|?_
 refine zp (Ax R (by conv => lhs; whnf))<|?_
 refine zp (Ae (s' := .d (.agg [dI x.furV.site, dI x.furV.num, dI x.furV.kind, dI x0.log, dI x0.dots, .sl 5 (x.furV.heads.map Hd.c), .sl 5 (x.furV.graces.map Gr.c), dI x.furV.art, dI x.furV.orn, dI x.furV.dyn, .sl 2 (x.furV.lyr.map Sy.c), dI x.furV.stem, dI x.furV.beam])) (Ac (Ad R R Az R lb)) (by kernel_rfl))<|?_
 refine XL.step R (Bg 44 R Tryz.underlying22 B4 B2 R R (by omega) (by omega))<|XL.step R (A4 R Du (.own R) (Src.own R) (by unfold maxLen; simp; omega) (by simp; omega))<|zp (Ao R (by conv => lhs; whnf))<|?_
 refine zn<|Af (by kernel_rfl)<|zm R R<|zp (Aj R R R (by omega) (by omega))<|za R R<|zn<|?_
 exact Al (k + 1) (by omega) (by omega) (fz ⟨sr, sr, sr, sr, sr, trivial⟩) (gz ⟨R, Ec R (Dx hx0 (T7 (.inl c25) c32)), trivial⟩)
 refine zi<|zs<|zr<|zm R R<|zp (Aj R R R (by omega) (by omega))<|zm R R<|XL.len R R R Tryz.underlying106 fun hl31=>zp (Ar R R R)<|zn<|?_
 refine zd R (fun c32 => ?_) (fun c32 => ?_)
 refine Af (by kernel_rfl)<|zp (Ab R R Bp)<|zp (Aa R R Dg R R)<|XL.call1 R R (Jj _ (by omega)) R<|zp (Ab R R Bp)<|?_
 refine XL.step R (Ag (l' := [.d (dI x.site), .d (dI x.num), .d (dI x.kind), .d (dI x.v.log), .d (dI x.v.dots), .d (.sl 5 ((x.heads.map Hd.tie).map Hd.c)), .d (.sl 5 (x.graces.map Gr.c)), .d (dI x.art), .d (dI x.orn), .d (dI x.dyn), .d (.sl 2 (x.lyr.map Sy.c)), .d (dI x.stem), .d (dI x.beam)]) R R R R Jh R lb (by kernel_rfl))<|znr<|zm R R<|zm R R<|zp (Am R R R Kq hx0)<|?_
 refine zp (Ae (s' := .d (.agg (Val.c x0))) (Au R R Cf lb) (by kernel_rfl))<|zp (Ab R R Ce)<|?_
 refine XL.step R (Ag (l' := [.d (dI x.site), .d (dI x.num), .d (dI x.kind), .d (dI x0.log), .d (dI x0.dots), .d (.sl 5 ((x.heads.map Hd.tie).map Hd.c)), .d (.sl 5 (x.graces.map Gr.c)), .d (dI x.art), .d (dI x.orn), .d (dI x.dyn), .d (.sl 2 (x.lyr.map Sy.c)), .d (dI x.stem), .d (dI x.beam)]) R R R R Dk R lb (by kernel_rfl))<|zng<|zp (Ax R (by conv => lhs; whnf))<|?_
 refine zp (Ae (s' := .d (.agg [dI x.site, dI x.num, dI x.kind, dI x0.log, dI x0.dots, .sl 5 ((x.heads.map Hd.tie).map Hd.c), .sl 5 (x.graces.map Gr.c), dI x.art, dI x.orn, dI x.dyn, .sl 2 (x.lyr.map Sy.c), dI x.stem, dI x.beam])) (Ac (Ad R R Az R lb)) (by kernel_rfl))<|XL.step R (Bg 44 R Tryz.underlying22 B4 B2 R R (by omega) (by omega))<|?_
 refine XL.step R (A4 R Du (.own R) (Src.own R) (by unfold maxLen; simp; omega) (by simp; omega))<|zp (Ao R (by conv => lhs; whnf))<|?_
 refine zn<|Af (by kernel_rfl)<|zm R R<|zp (Aj R R R (by omega) (by omega))<|za R R<|zn<|?_
 exact Al (k + 1) (by omega) (by omega) (fz ⟨sr, sr, sr, sr, sr, trivial⟩) (gz ⟨R, Ec R (Dx hx0 (Y7 c25 R c32)), trivial⟩)
 refine zi<|zr<|zm R R<|zm R R<|zp (Am R R R Kq hx0)<|zp (Ae (s' := .d (.agg (Val.c x0))) (Au R R Cf lb) (by kernel_rfl))<|zp (Ab R R Ce)<|?_
 refine XL.step R (Ag (l' := [.d (dI x.site), .d (dI x.num), .d (dI x.kind), .d (dI x0.log), .d (dI x0.dots), .d (.sl 5 (x.heads.map Hd.c)), .d (.sl 5 (x.graces.map Gr.c)), .d (dI x.art), .d (dI x.orn), .d (dI x.dyn), .d (.sl 2 (x.lyr.map Sy.c)), .d (dI x.stem), .d (dI x.beam)]) R R R R Dk R lb (by kernel_rfl))<|zng<|zp (Ax R (by conv => lhs; whnf))<|?_
 refine zp (Ae (s' := .d (.agg [dI x.site, dI x.num, dI x.kind, dI x0.log, dI x0.dots, .sl 5 (x.heads.map Hd.c), .sl 5 (x.graces.map Gr.c), dI x.art, dI x.orn, dI x.dyn, .sl 2 (x.lyr.map Sy.c), dI x.stem, dI x.beam])) (Ac (Ad R R Az R lb)) (by kernel_rfl))<|XL.step R (Bg 44 R Tryz.underlying22 B4 B2 R R (by omega) (by omega))<|?_
 refine XL.step R (A4 R Du (.own R) (Src.own R) (by unfold maxLen; simp; omega) (by simp; omega))<|zp (Ao R (by conv => lhs; whnf))<|?_
 refine zn<|Af (by kernel_rfl)<|zm R R<|zp (Aj R R R (by omega) (by omega))<|za R R<|zn<|?_
 exact Al (k + 1) (by omega) (by omega) (fz ⟨sr, sr, sr, sr, sr, trivial⟩) (gz ⟨R, Ec R (Dx hx0 (Y6 c25 R c32)), trivial⟩)
 have hk0b : k = (m.split a b).length := by omega
 have ht : Fk x (m.split a b) false k = Bn x (m.split a b) false := by rw [Fk, hk0b, List.take_length]; rfl
 refine Ap<|zr<|zp (Ax R (by conv => lhs; whnf))<|?_
 refine zp (Ao R (by conv => lhs; whnf))<|?_
 exact zn<|zt<|Bh (i := 900) R<|z1 R R (rSl ht)
def evV (l : List Ev) : Vo := ⟨l, []⟩
theorem Aio (m : Me) (a b : Int) : (m.err ≠ 0 → m.splitE a b = m.err) ∧ (m.err = 0 → (a < 0 ∨ b < a ∨ 4398046511104 < b) → m.splitE a b = 2) ∧ (m.err = 0 → ¬ (a < 0 ∨ b < a ∨ 4398046511104 < b) → (a % 7560 ≠ 0 ∨ b % 7560 ≠ 0) → m.splitE a b = 16) ∧ (m.err = 0 → ¬ (a < 0 ∨ b < a ∨ 4398046511104 < b) → ¬ (a % 7560 ≠ 0 ∨ b % 7560 ≠ 0) → 15482880 < b - a → m.splitE a b = 5) ∧ (m.err = 0 → ¬ (a < 0 ∨ b < a ∨ 4398046511104 < b) → ¬ (a % 7560 ≠ 0 ∨ b % 7560 ≠ 0) → ¬ 15482880 < b - a → m.splitE a b = 0) :=
 ⟨fun h => (Oy h).1, fun h h2 => (Ox (fun k => k h) h2).1, fun h h2 h3 => (Ow (fun k => k h) h2 h3).1, fun h h2 h3 h4 => (Ov (fun k => k h) h2 h3 h4).1, fun h h2 h3 h4 => (Ou (fun k => k h) h2 h3 h4).1⟩
end Go.Proofs.YtcihalbakenleaaGreat
namespace Go.Proofs.YtcihalbakenleaaGreat
open Go.RowKit
def Pm (l : List Tp) (n : Int) : Bool := l.any fun t => decide (t.has n)
theorem Zg {l : List Tp} {k : Nat} {t : Tp} {n : Int} (h : l[k]? = some t) (ht : t.has n) : true = Pm l n := by
 symm; rw [Pm, List.any_eq_true]; exact ⟨t, List.mem_of_getElem? h, by simpa using ht⟩
theorem Ao1 {l : List Tp} {n : Int} (h : ∀ t ∈ l, ¬ t.has n) : false = Pm l n := by
 symm; rw [Pm, List.any_eq_false]; exact fun t ht => by simpa using h t ht
theorem Ajw {l : List Tp} {n : Int} : Pm l n = true ↔ hits l n ≠ 0 := by
 rw [Pm, List.any_eq_true, hits, ← List.countP_eq_length_filter, ← Nat.pos_iff_ne_zero, List.countP_pos_iff]
def Ii (a c : Int) (t : Tp) : Tp := if a ≤ t.first then ⟨t.first + c, t.count, t.actual, t.normal⟩ else if t.has a then ⟨t.first, t.count + c, t.actual, t.normal⟩ else t
theorem Ajv {a c : Int} {t : Tp} (h : a ≤ t.first) : Ii a c t = ⟨t.first + c, t.count, t.actual, t.normal⟩ := by rw [Ii, if_pos h]
theorem Aqy {a c : Int} {t : Tp} (h : ¬ a ≤ t.first) (h2 : t.has a) : Ii a c t = ⟨t.first, t.count + c, t.actual, t.normal⟩ := by rw [Ii, if_neg h, if_pos h2]
theorem Aju {a c : Int} {t : Tp} (h : ¬ a ≤ t.first) (h2 : ¬ t.has a) : Ii a c t = t := by rw [Ii, if_neg h, if_neg h2]
theorem Qo {a c : Int} {l : List Tp} {k : Nat} {t u : Tp} (h : l[k]? = some t) (hu : Ii a c t = u) : (l.take (k + 1)).map (Ii a c) = (l.take k).map (Ii a c) ++ [u] := by
 rw [Bk h, List.map_append, ← hu]; rfl
theorem An9 (l : List Tp) (n : Int) (hl : ∀ t ∈ l, t.ok) : XC Tryz.prog 50 [.sl 4 (l.map Tp.c), .v (.int .i64 n)] (fun r => r = dB (Pm l n)) := by
 refine An Aee Tryz.func50 R R lb<|zr<|za R R<|zn<|zs<|zr<|za R R<|zn<|Ah<|?_
 refine Aw (α := Nat) (fun k => k ≤ l.length ∧ ∀ t ∈ l.take k, ¬ t.has n) (fun k => mkF [(0, .d (.sl 4 (l.map Tp.c))), (1, .d (dI n)), (5, .d (dI k))]) (fun k => mkH []) (fun k => l.length - k) (0) (⟨Nat.zero_le _, fun t ht => (by cases ht)⟩) ?_ ?_ ?_
 exact fz ⟨sr, sr, sr, trivial⟩
 exact HSub.nil
 intro k hk0
 obtain ⟨hk, hall⟩ := hk0
 refine zs<|zr<|zm R R<|zm R R<|XL.len R R R Tryz.underlying23 fun hl8=>zp (Ar R R R)<|zn<|?_
 refine zd R (fun c9 => ?_) (fun c9 => ?_)
 have hk0a : k < l.length := by omega
 obtain ⟨x0, hx0⟩ := Av hk0a
 have hok := hl x0 (List.mem_of_getElem? hx0)
 simp only [Tp.ok] at hok
 refine zi<|zs<|Ah<|zs<|?_
 by_cases q18 : (x0.first : Int) ≤ (n : Int)
 refine Bi [] (by kernel_rfl) (by kernel_rfl) (by kernel_rfl) (by decide)<|ym R R<|ym R R<|ym R R<|yp (Am R R R D7 hx0)<|yp (Bm R R Br)<|yp (Ay R R Ai)<|yp (D5 (Dp R R R) (q18))<|ym R R<|ym R R<|ym R R<|ym R R<|yp (Am R R R D7 hx0)<|yp (Bm R R Br)<|?_
 refine yp (Ay R R Ai)<|ym R R<|ym R R<|yp (Am R R R D7 hx0)<|yp (Bm R R Dc)<|yp (Ay R R Ai)<|yp (Aj R R R (by omega) (by omega))<|yp (Ar R R R)<|yp (A9 R R (by conv => lhs; whnf))<|?_
 refine ChK.nil ⟨by kernel_rfl, ?_⟩
 refine zd R (fun c33 => ?_) (fun c33 => ?_)
 exact zr<|za R R<|zn<|zt<|z1 R R (rB (Zg hx0 (by unfold Tp.has; omega)))
 refine zi<|Af (by kernel_rfl)<|zm R R<|zp (Aj R R R (by omega) (by omega))<|za R R<|zn<|?_
 exact Al (k + 1) (⟨by omega, fun t ht => by rw [Bk hx0] at ht; rcases List.mem_append.1 ht with q | q; (· exact hall t q); (· rw [List.mem_singleton.1 q]; unfold Tp.has; omega)⟩) (by omega) (fz ⟨sr, sr, sr, trivial⟩) (HSub.nil)
 refine Bi [] (by kernel_rfl) (by kernel_rfl) (by kernel_rfl) (by decide)<|ym R R<|ym R R<|ym R R<|yp (Am R R R D7 hx0)<|yp (Bm R R Br)<|yp (Ay R R Ai)<|yp (Gi (Dp R R R) (q18))<|ym R R<|ChK.skip R<|ChK.skip R<|ChK.skip R<|ChK.skip R<|ChK.skip R<|?_
 refine ChK.skip R<|ChK.skip R<|ChK.skip R<|ChK.skip R<|ChK.skip R<|ChK.skip R<|ChK.skip R<|ChK.skip R<|yp (A9 R R (by conv => lhs; whnf))<|?_
 refine ChK.nil ⟨by kernel_rfl, ?_⟩
 refine A3 (by kernel_rfl) R<|zi<|Af (by kernel_rfl)<|zm R R<|zp (Aj R R R (by omega) (by omega))<|za R R<|zn<|?_
 exact Al (k + 1) (⟨by omega, fun t ht => by rw [Bk hx0] at ht; rcases List.mem_append.1 ht with q | q; (· exact hall t q); (· rw [List.mem_singleton.1 q]; unfold Tp.has; omega)⟩) (by omega) (fz ⟨sr, sr, sr, trivial⟩) (HSub.nil)
 have hk0b : k = l.length := by omega
 have ht : l.take k = l := by rw [hk0b, List.take_length]
 rw [ht] at hall
 exact Ap<|zr<|za R R<|zn<|zt<|z1 R R (rB (Ao1 hall))
theorem Yq (l : List Tp) (h : l.length ≤ 1000) : XC Tryz.prog 53 [.sl 4 (l.map Tp.c)] (fun r => r = .sl 4 (l.map Tp.c)) := by
 refine An Aeb Tryz.func53 R R lb<|zr<|za R R<|znr<|za R R<|zn<|zs<|zr<|za R R<|zn<|Ah<|C7 900 3 102 4 R<|?_
 refine Aw (α := Nat) (fun k => k ≤ l.length) (fun k => mkF [(0, .d (.sl 4 (l.map Tp.c))), (2, .d (.v (.slice none 0 0))), (3, .own 900), (4, .d (dI k))]) (fun k => mkH [(900, .row 102 4 ((l.take k).map Tp.c))]) (fun k => l.length - k) (0) (Nat.zero_le _) ?_ ?_ ?_
 exact fz ⟨sr, sr, sr, sr, trivial⟩
 exact gz ⟨R, trivial⟩
 intro k hk0
 refine zs<|zr<|zm R R<|zm R R<|XL.len R R R Tryz.underlying98 fun hl7=>zp (Ar R R R)<|zn<|?_
 refine zd R (fun c8 => ?_) (fun c8 => ?_)
 have hk0a : k < l.length := by omega
 obtain ⟨x0, hx0⟩ := Av hk0a
 have htl : (l.take k).length = k := by rw [List.length_take]; omega
 refine zi<|zs<|Ah<|C0 23 [] (by kernel_rfl) (by kernel_rfl) (by kernel_rfl) (by kernel_rfl) (by decide)<|yp (Ax R (by conv => lhs; whnf))<|?_
 refine ym R R<|ym R R<|yp (Am R R R Hs hx0)<|yp (Bm R R Eb)<|yp (Ay R R Ai)<|ym R R<|ym R R<|yp (Am R R R Hs hx0)<|yp (Bm R R Ge)<|yp (Ay R R Ai)<|ym R R<|ym R R<|yp (Am R R R Hs hx0)<|yp (Bm R R Kf)<|?_
 refine yp (Ay R R Ai)<|ym R R<|ym R R<|yp (Am R R R Hs hx0)<|yp (Bm R R Lq)<|yp (Ay R R Ai)<|yp (Ae (s' := .d (.agg [dI x0.first, dI x0.count, dI x0.actual, dI x0.normal])) (Ac (Bc R An2 Df R)) (by kernel_rfl))<|ChK.cons R (CStep.slice R Tryz.underlying23 Ep Df R R (by omega) (by omega))<|?_
 refine ChK.nil ⟨by kernel_rfl, ?_⟩
 refine XL.step R (A4 R G6 (.own R) (Src.sl (by omega)) (by unfold maxLen; simp; omega) (by simp; omega))<|zp (Ao R (by conv => lhs; whnf))<|?_
 refine zn<|Af (by kernel_rfl)<|zm R R<|zp (Aj R R R (by omega) (by omega))<|za R R<|zn<|?_
 exact Al (k + 1) (by omega) (by omega) (fz ⟨sr, sr, sr, sr, trivial⟩) (gz ⟨Ec R (Bk hx0), trivial⟩)
 have hk0b : k = l.length := by omega
 have ht : l.take k = l := by rw [hk0b, List.take_length]
 refine Ap<|zr<|zp (Ax R (by conv => lhs; whnf))<|?_
 refine zp (Ao R (by conv => lhs; whnf))<|?_
 exact zn<|zt<|Bh (i := 900) R<|z1 R R (rSl (by rw [ht]))
theorem Ty (l : List Tp) (a c : Int) (hl : ∀ t ∈ l, t.ok) (h : l.length ≤ 1000) (hc : -1 ≤ c ∧ c ≤ 100000) : XC Tryz.prog 54 [.sl 4 (l.map Tp.c), .v (.int .i64 a), .v (.int .i64 c)] (fun r => r = .sl 4 ((l.map (Ii a c)).map Tp.c)) := by
 refine An Aea Tryz.func54 R R lb<|zr<|za R R<|znr<|za R R<|zn<|zs<|zr<|za R R<|zn<|Ah<|C7 900 7 135 4 R<|?_
 refine Aw (α := Nat) (fun k => k ≤ l.length) (fun k => mkF [(0, .d (.sl 4 (l.map Tp.c))), (1, .d (dI a)), (2, .d (dI c)), (6, .d (.v (.slice none 0 0))), (7, .own 900), (8, .d (dI k))]) (fun k => mkH [(900, .row 135 4 (((l.take k).map (Ii a c)).map Tp.c))]) (fun k => l.length - k) (0) (Nat.zero_le _) ?_ ?_ ?_
 exact fz ⟨sr, sr, sr, sr, sr, sr, trivial⟩
 exact gz ⟨R, trivial⟩
 intro k hk0
 refine zs<|zr<|zm R R<|zm R R<|XL.len R R R Tryz.underlying98 fun hl12=>zp (Ar R R R)<|zn<|?_
 refine zd R (fun c13 => ?_) (fun c13 => ?_)
 have hk0a : k < l.length := by omega
 obtain ⟨x0, hx0⟩ := Av hk0a
 have htl : ((l.take k).map (Ii a c)).length = k := by rw [List.length_map, List.length_take]; omega
 have hok := hl x0 (List.mem_of_getElem? hx0)
 have hok2 := hok
 simp only [Tp.ok] at hok2
 refine zi<|zs<|Ah<|zr<|zm R R<|zm R R<|zp (Am R R R Hs hx0)<|zp (Ae (s' := .d (.agg (Tp.c x0))) (Au R R E0 lb) (by kernel_rfl))<|XL.step R (A0 9 (l := [.d (dI 0), .d (dI 0), .d (dI 0), .d (dI 0)]) R Jy (by kernel_rfl))<|?_
 refine XL.step R (Ag (l' := [.d (dI x0.first), .d (dI x0.count), .d (dI x0.actual), .d (dI x0.normal)]) R R R R Ob R lb (by kernel_rfl))<|zn<|zs<|zr<|zp (Ab R R Eb)<|zp (Aa R R Ai R R)<|zm R R<|zp (Dp R R R)<|zn<|?_
 refine zd R (fun c23 => ?_) (fun c23 => ?_)
 refine Af (by kernel_rfl)<|zp (Ab R R Eb)<|zp (Aa R R Ai R R)<|zm R R<|zp (Aj R R R (by omega) (by omega))<|zp (Ab R R Eb)<|XL.step R (Ag (l' := [.d (dI (x0.first + c)), .d (dI x0.count), .d (dI x0.actual), .d (dI x0.normal)]) R R R R Cw R lb (by kernel_rfl))<|zng<|zp (Ax R (by conv => lhs; whnf))<|?_
 refine zp (Ae (s' := .d (.agg [dI (x0.first + c), dI x0.count, dI x0.actual, dI x0.normal])) (Ac (Ad R R E0 R lb)) (by kernel_rfl))<|XL.step R (Bg 39 R Tryz.underlying98 Ob Jy R R (by omega) (by omega))<|XL.step R (A4 R Uq (.own R) (Src.own R) (by unfold maxLen; simp; omega) (by simp; omega))<|zp (Ao R (by conv => lhs; whnf))<|?_
 refine zn<|Af (by kernel_rfl)<|zm R R<|zp (Aj R R R (by omega) (by omega))<|za R R<|zn<|?_
 exact Al (k + 1) (by omega) (by omega) (fz ⟨sr, sr, sr, sr, sr, sr, trivial⟩) (gz ⟨Ec R (Qo hx0 (Ajv (by omega))), trivial⟩)
 refine zr<|zp (Ae (s' := .d (.agg (Tp.c x0))) (Ac (Ad R R E0 R lb)) (by kernel_rfl))<|zm R R<|XL.call1 R R (My _ _ (by assumption)) R<|zn<|?_
 refine zd R (fun c31 => ?_) (fun c31 => ?_)
 refine Af (by kernel_rfl)<|zp (Ab R R Ge)<|zp (Aa R R Ai R R)<|zm R R<|zp (Aj R R R (by omega) (by omega))<|zp (Ab R R Ge)<|XL.step R (Ag (l' := [.d (dI x0.first), .d (dI (x0.count + c)), .d (dI x0.actual), .d (dI x0.normal)]) R R R R Cw R lb (by kernel_rfl))<|zng<|zp (Ax R (by conv => lhs; whnf))<|?_
 refine zp (Ae (s' := .d (.agg [dI x0.first, dI (x0.count + c), dI x0.actual, dI x0.normal])) (Ac (Ad R R E0 R lb)) (by kernel_rfl))<|XL.step R (Bg 39 R Tryz.underlying98 Ob Jy R R (by omega) (by omega))<|XL.step R (A4 R Uq (.own R) (Src.own R) (by unfold maxLen; simp; omega) (by simp; omega))<|zp (Ao R (by conv => lhs; whnf))<|?_
 refine zn<|Af (by kernel_rfl)<|zm R R<|zp (Aj R R R (by omega) (by omega))<|za R R<|zn<|?_
 exact Al (k + 1) (by omega) (by omega) (fz ⟨sr, sr, sr, sr, sr, sr, trivial⟩) (gz ⟨Ec R (Qo hx0 (Aqy (by omega) c31)), trivial⟩)
 refine zi<|Af (by kernel_rfl)<|zp (Ax R (by conv => lhs; whnf))<|?_
 refine zp (Ae (s' := .d (.agg (Tp.c x0))) (Ac (Ad R R E0 R lb)) (by kernel_rfl))<|XL.step R (Bg 39 R Tryz.underlying98 Ob Jy R R (by omega) (by omega))<|XL.step R (A4 R Uq (.own R) (Src.own R) (by unfold maxLen; simp; omega) (by simp; omega))<|zp (Ao R (by conv => lhs; whnf))<|?_
 refine zn<|Af (by kernel_rfl)<|zm R R<|zp (Aj R R R (by omega) (by omega))<|za R R<|zn<|?_
 exact Al (k + 1) (by omega) (by omega) (fz ⟨sr, sr, sr, sr, sr, sr, trivial⟩) (gz ⟨Ec R (Qo hx0 (Aju (by omega) c31)), trivial⟩)
 have hk0b : k = l.length := by omega
 have ht : l.take k = l := by rw [hk0b, List.take_length]
 refine Ap<|zr<|zp (Ax R (by conv => lhs; whnf))<|?_
 refine zp (Ao R (by conv => lhs; whnf))<|?_
 exact zn<|zt<|Bh (i := 900) R<|z1 R R (rSl (by rw [ht]))
theorem V1 (x : Ev) (m : Me) (a b : Int) (h : x.fit) (hs : m.splitE a b = 0) : XS Tryz.prog 37 [.agg (Ev.c x), .agg (Me.c m), .v (.int .i64 a), .v (.int .i64 b)] (.own 900) [(900, .row 60 13 ((Bn x (m.split a b) false).map Ev.c))] := by
 have hf1 := h.1
 have hsl := I0 m a b
 refine Jf Sa Tryz.func37 R R lb (by kernel_rfl) (by kernel_rfl)<|zr<|XL.step R (As 4 (l := [.d (dI x.site), .d (dI x.num), .d (dI x.kind), .d (dI x.v.log), .d (dI x.v.dots), .d (.sl 5 (x.heads.map Hd.c)), .d (.sl 5 (x.graces.map Gr.c)), .d (dI x.art), .d (dI x.orn), .d (dI x.dyn), .d (.sl 2 (x.lyr.map Sy.c)), .d (dI x.stem), .d (dI x.beam)]) R R (by kernel_rfl))<|?_
 refine XL.step R (As 5 (l := [.d (dI m.count), .d (dI m.unit), .d (dI m.g0), .d (dI m.g1), .d (dI m.g2), .d (dI m.g3), .d (dI m.g4), .d (dI m.g5)]) R R (by kernel_rfl))<|za R R<|znr<|zp (Ae (s' := .d (.agg (Me.c m))) (Ac (Ad R R Bj R lb)) (by kernel_rfl))<|zm R R<|zm R R<|XL.callS R R ((Rw _ _ _ (by assumption)).lab 7001) R<|zp (Ao R (by conv => lhs; whnf))<|?_
 refine znr<|XL.freeze (i := 7001) R<|za R R<|zn<|zs<|zr<|za R R<|zn<|Ah<|C7 900 10 60 13 R<|?_
 refine Aw (α := Nat) (fun k => k ≤ (m.split a b).length) (fun k => mkF [(4, .ptr 4 0 0), (8, .d (.v (.slice none 0 0))), (9, .d (.sl 2 ((m.split a b).map Val.c))), (10, .own 900), (11, .d (dI k))]) (fun k => mkH [(4, .box ((Ev.c x).map S.d)), (900, .row 60 13 ((Fk x (m.split a b) false k).map Ev.c))]) (fun k => (m.split a b).length - k) (0) (Nat.zero_le _) ?_ ?_ ?_
 exact fz ⟨sr, sr, sr, sr, sr, trivial⟩
 exact gz ⟨R, R, trivial⟩
 intro k hk0
 refine zs<|zr<|zm R R<|zm R R<|XL.len R R R Tryz.underlying106 fun hl19=>zp (Ar R R R)<|zn<|?_
 refine zd R (fun c20 => ?_) (fun c20 => ?_)
 have hk0a : k < (m.split a b).length := by omega
 obtain ⟨x0, hx0⟩ := Av hk0a
 have hnl : (Fk x (m.split a b) false k).length = k := by rw [Fk, List.length_mapIdx, List.length_take]; omega
 have hpl : (x.heads.map Hd.plain).length ≤ 1000 := by rw [List.length_map]; exact hf1
 have hpl2 : x.furV.heads.length ≤ 1000 := hpl
 refine zi<|zs<|Ah<|zr<|zp (Ae (s' := .d (.agg (Ev.c x))) (Ac (Ad R R Az R lb)) (by kernel_rfl))<|XL.step R (A0 12 (l := [.d (dI 0), .d (dI 0), .d (dI 0), .d (dI 0), .d (dI 0), .d (.v (.slice none 0 0)), .d (.v (.slice none 0 0)), .d (dI 0), .d (dI 0), .d (dI 0), .d (.v (.slice none 0 0)), .d (dI 0), .d (dI 0)]) R B2 (by kernel_rfl))<|?_
 refine XL.step R (Ag (l' := [.d (dI x.site), .d (dI x.num), .d (dI x.kind), .d (dI x.v.log), .d (dI x.v.dots), .d (.sl 5 (x.heads.map Hd.c)), .d (.sl 5 (x.graces.map Gr.c)), .d (dI x.art), .d (dI x.orn), .d (dI x.dyn), .d (.sl 2 (x.lyr.map Sy.c)), .d (dI x.stem), .d (dI x.beam)]) R R R R B4 R lb (by kernel_rfl))<|zn<|zs<|zr<|zm R R<|zp (A7 R R R)<|zn<|?_
 refine zd R (fun c25 => ?_) (fun c25 => ?_)
 refine Af (by kernel_rfl)<|zp (Ae (s' := .d (.agg (Ev.c x))) (Ac (Ad R R Az R lb)) (by kernel_rfl))<|XL.call1 R R (Nk _ (by assumption)) R<|?_
 refine XL.step R (Ag (l' := [.d (dI x.furV.site), .d (dI x.furV.num), .d (dI x.furV.kind), .d (dI x.furV.v.log), .d (dI x.furV.v.dots), .d (.sl 5 (x.furV.heads.map Hd.c)), .d (.sl 5 (x.furV.graces.map Gr.c)), .d (dI x.furV.art), .d (dI x.furV.orn), .d (dI x.furV.dyn), .d (.sl 2 (x.furV.lyr.map Sy.c)), .d (dI x.furV.stem), .d (dI x.furV.beam)]) R R R R B4 R lb (by kernel_rfl))<|zn<|zs<|zr<|?_
 refine zm R R<|zp (Aj R R R (by omega) (by omega))<|zm R R<|XL.len R R R Tryz.underlying106 fun hl31=>zp (Ar R R R)<|zn<|?_
 refine zd R (fun c32 => ?_) (fun c32 => ?_)
 refine Af (by kernel_rfl)<|zp (Ab R R Bp)<|zp (Aa R R Dg R R)<|XL.call1 R R (Jj _ (by omega)) R<|zp (Ab R R Bp)<|?_
 refine XL.step R (Ag (l' := [.d (dI x.furV.site), .d (dI x.furV.num), .d (dI x.furV.kind), .d (dI x.furV.v.log), .d (dI x.furV.v.dots), .d (.sl 5 ((x.furV.heads.map Hd.tie).map Hd.c)), .d (.sl 5 (x.furV.graces.map Gr.c)), .d (dI x.furV.art), .d (dI x.furV.orn), .d (dI x.furV.dyn), .d (.sl 2 (x.furV.lyr.map Sy.c)), .d (dI x.furV.stem), .d (dI x.furV.beam)]) R R R R Jh R lb (by kernel_rfl))<|?_
 refine znr<|zm R R<|zm R R<|zp (Am R R R Kq hx0)<|zp (Ae (s' := .d (.agg (Val.c x0))) (Au R R Cf lb) (by kernel_rfl))<|zp (Ab R R Ce)<|?_
 refine XL.step R (Ag (l' := [.d (dI x.furV.site), .d (dI x.furV.num), .d (dI x.furV.kind), .d (dI x0.log), .d (dI x0.dots), .d (.sl 5 ((x.furV.heads.map Hd.tie).map Hd.c)), .d (.sl 5 (x.furV.graces.map Gr.c)), .d (dI x.furV.art), .d (dI x.furV.orn), .d (dI x.furV.dyn), .d (.sl 2 (x.furV.lyr.map Sy.c)), .d (dI x.furV.stem), .d (dI x.furV.beam)]) R R R R Dk R lb (by kernel_rfl))<|zng<|?_
 refine zp (Ax R (by conv => lhs; whnf))<|?_
 refine zp (Ae (s' := .d (.agg [dI x.furV.site, dI x.furV.num, dI x.furV.kind, dI x0.log, dI x0.dots, .sl 5 ((x.furV.heads.map Hd.tie).map Hd.c), .sl 5 (x.furV.graces.map Gr.c), dI x.furV.art, dI x.furV.orn, dI x.furV.dyn, .sl 2 (x.furV.lyr.map Sy.c), dI x.furV.stem, dI x.furV.beam])) (Ac (Ad R R Az R lb)) (by kernel_rfl))<|?_
 refine XL.step R (Bg 44 R Tryz.underlying22 B4 B2 R R (by omega) (by omega))<|XL.step R (A4 R Du (.own R) (Src.own R) (by unfold maxLen; simp; omega) (by simp; omega))<|zp (Ao R (by conv => lhs; whnf))<|?_
 refine zn<|Af (by kernel_rfl)<|zm R R<|zp (Aj R R R (by omega) (by omega))<|za R R<|zn<|?_
 exact Al (k + 1) (by omega) (by omega) (fz ⟨sr, sr, sr, sr, sr, trivial⟩) (gz ⟨R, Ec R (Dx hx0 (T8 (.inl c25) c32)), trivial⟩)
 refine zi<|zr<|zm R R<|zm R R<|zp (Am R R R Kq hx0)<|zp (Ae (s' := .d (.agg (Val.c x0))) (Au R R Cf lb) (by kernel_rfl))<|zp (Ab R R Ce)<|?_
 refine XL.step R (Ag (l' := [.d (dI x.furV.site), .d (dI x.furV.num), .d (dI x.furV.kind), .d (dI x0.log), .d (dI x0.dots), .d (.sl 5 (x.furV.heads.map Hd.c)), .d (.sl 5 (x.furV.graces.map Gr.c)), .d (dI x.furV.art), .d (dI x.furV.orn), .d (dI x.furV.dyn), .d (.sl 2 (x.furV.lyr.map Sy.c)), .d (dI x.furV.stem), .d (dI x.furV.beam)]) R R R R Dk R lb (by kernel_rfl))<|zng<|?_
 refine zp (Ax R (by conv => lhs; whnf))<|?_
 refine zp (Ae (s' := .d (.agg [dI x.furV.site, dI x.furV.num, dI x.furV.kind, dI x0.log, dI x0.dots, .sl 5 (x.furV.heads.map Hd.c), .sl 5 (x.furV.graces.map Gr.c), dI x.furV.art, dI x.furV.orn, dI x.furV.dyn, .sl 2 (x.furV.lyr.map Sy.c), dI x.furV.stem, dI x.furV.beam])) (Ac (Ad R R Az R lb)) (by kernel_rfl))<|?_
 refine XL.step R (Bg 44 R Tryz.underlying22 B4 B2 R R (by omega) (by omega))<|XL.step R (A4 R Du (.own R) (Src.own R) (by unfold maxLen; simp; omega) (by simp; omega))<|zp (Ao R (by conv => lhs; whnf))<|?_
 refine zn<|Af (by kernel_rfl)<|zm R R<|zp (Aj R R R (by omega) (by omega))<|za R R<|zn<|?_
 exact Al (k + 1) (by omega) (by omega) (fz ⟨sr, sr, sr, sr, sr, trivial⟩) (gz ⟨R, Ec R (Dx hx0 (T7 (.inl c25) c32)), trivial⟩)
 refine zi<|zs<|zr<|zm R R<|zp (Aj R R R (by omega) (by omega))<|zm R R<|XL.len R R R Tryz.underlying106 fun hl31=>zp (Ar R R R)<|zn<|?_
 refine zd R (fun c32 => ?_) (fun c32 => ?_)
 refine Af (by kernel_rfl)<|zp (Ab R R Bp)<|zp (Aa R R Dg R R)<|XL.call1 R R (Jj _ (by omega)) R<|zp (Ab R R Bp)<|?_
 refine XL.step R (Ag (l' := [.d (dI x.site), .d (dI x.num), .d (dI x.kind), .d (dI x.v.log), .d (dI x.v.dots), .d (.sl 5 ((x.heads.map Hd.tie).map Hd.c)), .d (.sl 5 (x.graces.map Gr.c)), .d (dI x.art), .d (dI x.orn), .d (dI x.dyn), .d (.sl 2 (x.lyr.map Sy.c)), .d (dI x.stem), .d (dI x.beam)]) R R R R Jh R lb (by kernel_rfl))<|znr<|zm R R<|zm R R<|zp (Am R R R Kq hx0)<|?_
 refine zp (Ae (s' := .d (.agg (Val.c x0))) (Au R R Cf lb) (by kernel_rfl))<|zp (Ab R R Ce)<|?_
 refine XL.step R (Ag (l' := [.d (dI x.site), .d (dI x.num), .d (dI x.kind), .d (dI x0.log), .d (dI x0.dots), .d (.sl 5 ((x.heads.map Hd.tie).map Hd.c)), .d (.sl 5 (x.graces.map Gr.c)), .d (dI x.art), .d (dI x.orn), .d (dI x.dyn), .d (.sl 2 (x.lyr.map Sy.c)), .d (dI x.stem), .d (dI x.beam)]) R R R R Dk R lb (by kernel_rfl))<|zng<|zp (Ax R (by conv => lhs; whnf))<|?_
 refine zp (Ae (s' := .d (.agg [dI x.site, dI x.num, dI x.kind, dI x0.log, dI x0.dots, .sl 5 ((x.heads.map Hd.tie).map Hd.c), .sl 5 (x.graces.map Gr.c), dI x.art, dI x.orn, dI x.dyn, .sl 2 (x.lyr.map Sy.c), dI x.stem, dI x.beam])) (Ac (Ad R R Az R lb)) (by kernel_rfl))<|XL.step R (Bg 44 R Tryz.underlying22 B4 B2 R R (by omega) (by omega))<|?_
 refine XL.step R (A4 R Du (.own R) (Src.own R) (by unfold maxLen; simp; omega) (by simp; omega))<|zp (Ao R (by conv => lhs; whnf))<|?_
 refine zn<|Af (by kernel_rfl)<|zm R R<|zp (Aj R R R (by omega) (by omega))<|za R R<|zn<|?_
 exact Al (k + 1) (by omega) (by omega) (fz ⟨sr, sr, sr, sr, sr, trivial⟩) (gz ⟨R, Ec R (Dx hx0 (Y7 c25 R c32)), trivial⟩)
 refine zi<|zr<|zm R R<|zm R R<|zp (Am R R R Kq hx0)<|zp (Ae (s' := .d (.agg (Val.c x0))) (Au R R Cf lb) (by kernel_rfl))<|zp (Ab R R Ce)<|?_
 refine XL.step R (Ag (l' := [.d (dI x.site), .d (dI x.num), .d (dI x.kind), .d (dI x0.log), .d (dI x0.dots), .d (.sl 5 (x.heads.map Hd.c)), .d (.sl 5 (x.graces.map Gr.c)), .d (dI x.art), .d (dI x.orn), .d (dI x.dyn), .d (.sl 2 (x.lyr.map Sy.c)), .d (dI x.stem), .d (dI x.beam)]) R R R R Dk R lb (by kernel_rfl))<|zng<|zp (Ax R (by conv => lhs; whnf))<|?_
 refine zp (Ae (s' := .d (.agg [dI x.site, dI x.num, dI x.kind, dI x0.log, dI x0.dots, .sl 5 (x.heads.map Hd.c), .sl 5 (x.graces.map Gr.c), dI x.art, dI x.orn, dI x.dyn, .sl 2 (x.lyr.map Sy.c), dI x.stem, dI x.beam])) (Ac (Ad R R Az R lb)) (by kernel_rfl))<|XL.step R (Bg 44 R Tryz.underlying22 B4 B2 R R (by omega) (by omega))<|?_
 refine XL.step R (A4 R Du (.own R) (Src.own R) (by unfold maxLen; simp; omega) (by simp; omega))<|zp (Ao R (by conv => lhs; whnf))<|?_
 refine zn<|Af (by kernel_rfl)<|zm R R<|zp (Aj R R R (by omega) (by omega))<|za R R<|zn<|?_
 exact Al (k + 1) (by omega) (by omega) (fz ⟨sr, sr, sr, sr, sr, trivial⟩) (gz ⟨R, Ec R (Dx hx0 (Y6 c25 R c32)), trivial⟩)
 have hk0b : k = (m.split a b).length := by omega
 have ht : Fk x (m.split a b) false k = Bn x (m.split a b) false := by rw [Fk, hk0b, List.take_length]; rfl
 refine Ap<|zr<|zp (Ax R (by conv => lhs; whnf))<|?_
 refine zp (Ao R (by conv => lhs; whnf))<|?_
 refine zn<|zt<|?_
 exact ⟨Ea R (RVS.tmp R R), HSub.cons (by rw [ht]; rfl) (HSub.nil)⟩
theorem Ap8 {v : Vo} {L t a : Int} {k : Nat} (h : ckE v L = 0) (hat : atS (ckL v L) t (ckL v L).length = ((k : Int), a)) : XC Tryz.prog 24 [.agg (Vo.c v), dI L, dI t] (fun r => r = .tup [dI k, dI a]) := by
 have := Ap7 v L t h
 rw [hat] at this
 exact this
theorem Aoi {v : Vo} {L : Int} (h : ckE v L = 0) : XC Tryz.prog 32 [.agg (Vo.c v), dI L] (fun r => r = .sl 1 (By (ckL v L))) := by
 obtain ⟨h1, h2, h3⟩ := Rq h
 have := Lw v L h2 h3
 rw [h1] at this
 exact this
theorem Arp {v : Vo} {L t a : Int} {k : Nat} (h : ckE v L = 0) (hne : v.evs.length ≠ 0) (h0 : 0 ≤ t) (h1 : t < L) (hat : atS (ckL v L) t (ckL v L).length = ((k : Int), a)) : ∃ w, (ckL v L)[k]? = some w ∧ a ≤ t ∧ t < a + w ∧ a + w ≤ L := by
 have hne2 : v.evs ≠ [] := fun k => hne (by rw [k]; rfl)
 obtain ⟨j, w, hw, k1, k2⟩ := Aip h0 (by rw [Akf h hne2]; exact h1)
 have hp := Ok h
 have hjl := (List.getElem?_eq_some_iff.1 hw).1
 have hj := Ah8 hp (t := t) (j := j + 1) (by omega) (fun i hi => by have := Mp hp (j := i) (k := j) (by omega); omega) (.inr (by rw [Bk hw, H9]; omega)) (ckL v L).length (by omega) (Nat.le_refl _)
 rw [hj] at hat
 have e1 : ((j : Nat) : Int) = k := congrArg Prod.fst hat
 have e2 : tot ((ckL v L).take j) = a := congrArg Prod.snd hat
 have e3 : j = k := by omega
 subst e3
 have hm := Mp hp (j := j + 1) (k := (ckL v L).length) (by omega)
 rw [Bk hw, H9, List.take_length, Akf h hne2] at hm
 exact ⟨w, hw, by omega, by omega, by omega⟩
theorem Vg {v : Vo} {L : Int} (h : ckE v L = 0) (h0 : v.evs.length = 0) : v.tups = [] := by
 obtain ⟨ws, ls, hT⟩ := Px h
 by_cases c : v.rest
 ·exact absurd c.2 (by omega)
 ·have hv := ((Lg c).1 ⟨h, rfl⟩).2.2.1
  cases ht : v.tups with
  | nil => rfl
  | cons t l =>
   have := hv.tl.tv.inR t (by rw [ht]; exact List.mem_cons_self)
   have h2 : (wrS v.evs).length = v.evs.length := Im _
   unfold Tp.inR at this
   omega
theorem Af9 {v : Vo} {L : Int} (h : ckE v L = 0) : ∀ t ∈ v.tups, t.ok := by
 obtain ⟨ws, ls, hT⟩ := Px h
 exact fun t ht => (hT.tv.inR t ht).ok (by have := hT.wl; omega)
theorem Z1 {v : Vo} {L : Int} (h : ckE v L = 0) (k : Int) : Pm v.tups k = true ↔ 0 < Gf v.tups k := by
 obtain ⟨ws, ls, hT⟩ := Px h
 rw [Mb hT, Ajw]; omega
theorem Aj3 (x : Ev) (n i : Nat) (v : Val) : Fl x.furV n false i v = Fl x n true i v := by
 have e : x.furV.further = x.further := by
  have hp : (x.heads.map Hd.plain).map Hd.plain = x.heads.map Hd.plain := by rw [List.map_map]; exact List.map_congr_left fun h _ => rfl
  unfold Ev.further Ev.furV
  simp only [hp]
 have e2 : ∀ t, x.furV.put v t = x.further.put v t := fun t => rfl
 unfold Fl
 rw [e, if_pos (show 0 < (i : Int) ∨ true = true from .inr rfl)]
 split
 ·rfl
 ·exact e2 _
theorem Un (x : Ev) (vs : List Val) : Bn x.furV vs false = Bn x vs true := by
 unfold Bn
 refine List.ext_getElem? fun i => ?_
 rw [List.getElem?_mapIdx, List.getElem?_mapIdx]
 cases vs[i]? with
 | none => rfl
 | some v => exact congrArg some (Aj3 x _ i v)
theorem Zo {x : Ev} (h : x.fit) : x.furV.fit := ⟨by show (x.heads.map Hd.plain).length ≤ 1000; rw [List.length_map]; exact h.1, Nat.zero_le _, Nat.zero_le _⟩
theorem Xm {p : Pl} {t a w : Int} {x : Ev} (h : x.kind = 3) : Bn x.asRest.tiedE (p.m.split (p.off + a) (p.off + t)) false ++ Bn x.asRest.furV (p.m.split (p.off + t) (p.off + (a + w))) false = Dj p t a w x := by rw [Un, Pu h]
theorem Xn {p : Pl} {t a w : Int} {x : Ev} (h : ¬ x.kind = 3) : Bn x.tiedE (p.m.split (p.off + a) (p.off + t)) false ++ Bn x.furV (p.m.split (p.off + t) (p.off + (a + w))) false = Dj p t a w x := by rw [Un, Pv h]
theorem Al3 {l : List Tp} {k : Nat} {c : Int} (ho : l.Pairwise Tp.bef) (hok : ∀ t ∈ l, t.ok) (hd : ∀ t ∈ l, ¬ t.has k) :
  l.map (Ii ((k : Int) + 1) c) = C4 (fun t => decide (t.first < (k : Int))) 0 l ++ C4 (fun t => decide ((k : Int) + 1 ≤ t.first)) c l := by
 induction l with
 | nil => rfl
 | cons t l ih =>
  have h1 := ih (List.pairwise_cons.1 ho).2 (fun u hu => hok u (List.mem_cons_of_mem _ hu)) (fun u hu => hd u (List.mem_cons_of_mem _ hu))
  have h2 := hd t List.mem_cons_self
  have h3 := hok t List.mem_cons_self
  have h4 := (List.pairwise_cons.1 ho).1
  unfold Tp.has at h2
  unfold Tp.ok at h3
  unfold C4 at h1 ⊢
  by_cases q : t.first < (k : Int)
  ·rw [List.map_cons, h1, List.filter_cons_of_pos (by simpa using q), List.filter_cons_of_neg (by simp; omega), List.map_cons, List.cons_append, Aju (by omega) (by unfold Tp.has; omega)]
   have : Tp.mv 0 t = t := by unfold Tp.mv; rw [Int.add_zero]
   rw [this]
  ·have e : l.filter (fun t => decide (t.first < (k : Int))) = [] := by
    rw [List.filter_eq_nil_iff]
    intro u hu
    have := (h4 u hu).first
    simp; omega
   rw [e] at h1
   rw [List.map_cons, h1, List.filter_cons_of_neg (by simpa using q), List.filter_cons_of_pos (by simp; omega), e, Ajv (by omega)]
   rfl
theorem Alc {v : Vo} {L : Int} {k : Nat} {l : List Ev} (h : ckE v L = 0) (hd : ¬ Pm v.tups k = true) : B7 v k 1 ⟨l, []⟩ = ⟨v.evs.take k ++ l ++ v.evs.drop (k + 1), v.tups.map (Ii ((k : Int) + 1) ((l.length : Int) - 1))⟩ := by
 obtain ⟨ws, ls, hT⟩ := Px h
 have hd2 : ∀ t ∈ v.tups, ¬ t.has k := fun t ht hh => hd (by obtain ⟨j, hj⟩ := List.getElem?_of_mem ht; exact (Zg hj hh).symm)
 rw [Al3 hT.tv.ord (Af9 h) hd2]
 unfold B7
 rw [Lo, List.append_nil]; rfl
theorem Xt {m : Me} {a b : Int} (hm : m.err = 0) (h1 : 0 ≤ a) (h2 : a ≤ b) (h3 : b ≤ 30965760) (h4 : b - a ≤ 15482880) : m.splitE a b = if a % 7560 ≠ 0 ∨ b % 7560 ≠ 0 then 16 else 0 := by
 obtain ⟨_, _, hS3, _, hS5⟩ := Aio m a b
 split
 ·exact hS3 hm (by omega) (by assumption)
 ·exact hS5 hm (by omega) (by assumption) (by omega)
end Go.Proofs.YtcihalbakenleaaGreat
namespace Go.Proofs.YtcihalbakenleaaGreat
open Go.RowKit
theorem Ar0 {v : Vo} {p : Pl} {t : Int} (hc : p.chk v = 0) (h : (v.evs.length : Int) = 0) : H3 v p t = (⟨[], []⟩, 10) := Art (by omega) ⟨by omega, by rw [Vg (Es hc).2.2 (by omega)]; rfl⟩
theorem Am2 {v : Vo} {p : Pl} {t : Int} (hc : p.chk v = 0) (h0 : ¬ (v.evs.length : Int) = 0) (h : t < 0 ∨ p.len < t) : H3 v p t = (⟨[], []⟩, 2) := Amo (by omega) (fun k => h0 (by have := k.1; omega)) h
theorem Km {v : Vo} {p : Pl} {t : Int} (hc : p.chk v = 0) (h0 : ¬ (v.evs.length : Int) = 0) (h : ¬ (t < 0 ∨ p.len < t)) : H3 v p t = Ak v p t := Ars (by omega) (fun k => h0 (by have := k.1; omega)) h
theorem Am1 {v : Vo} {p : Pl} {t : Int} {k : Nat} {a : Int} (hc : p.chk v = 0) (h0 : ¬ (v.evs.length : Int) = 0) (h : ¬ (t < 0 ∨ p.len < t)) (hat : atS (ckL v p.len) t (ckL v p.len).length = ((k : Int), a)) (h2 : t = p.len ∨ a = t) : H3 v p t = (v, 0) := by
 rw [Km hc h0 h]
 obtain ⟨hA1, hA2, hA3, hA4⟩ := Aki v p.len t
 have hck := (Es hc).2.2
 by_cases c : t = p.len
 ·unfold Ak
  rw [if_pos (.inl (by rw [hA3 hck (by omega) (by omega)]; decide))]
 ·have he := hA4 hck (by omega) (by omega)
  exact Nx (by rw [Aro he]; exact hat) (.inr (by omega))
theorem Rf {v : Vo} {L : Int} {k k1 : Nat} {l : List Ev} (hck : ckE v L = 0) (hnd : ¬ 0 < Gf v.tups k) (hk1 : k1 = k + 1) : B7 v k 1 ⟨l, []⟩ = ⟨v.evs.take k ++ l ++ v.evs.drop k1, v.tups.map (Ii ((k : Int) + 1) ((l.length : Int) - 1))⟩ := by
 subst hk1; exact Alc hck fun h => hnd ((Z1 hck k).1 h)
theorem Agz {v : Vo} {p : Pl} {t a w : Int} {k : Nat} {x : Ev} (hme : p.m.err = 0) (h0 : 0 ≤ p.off + a) (h1 : a ≤ t) (h2 : t ≤ a + w) (h3 : p.off + (a + w) ≤ 30965760) (h4 : w ≤ 15482880) (hd : ¬ 0 < Gf v.tups k) (h : (p.off + a) % 7560 ≠ 0 ∨ (p.off + t) % 7560 ≠ 0 ∨ (p.off + (a + w)) % 7560 ≠ 0) : Kr v p t k a w x = (⟨[], []⟩, 16) := by
 have e1 := Xt hme h0 (show p.off + a ≤ p.off + t by omega) (by omega) (by omega)
 have e2 := Xt hme (show 0 ≤ p.off + t by omega) (show p.off + t ≤ p.off + (a + w) by omega) h3 (by omega)
 by_cases c : (p.off + a) % 7560 ≠ 0 ∨ (p.off + t) % 7560 ≠ 0
 ·rw [if_pos c] at e1
  rw [Are hd (by rw [e1]; decide), e1]
 ·rw [if_neg c] at e1
  rw [if_pos (by omega)] at e2
  rw [Ard hd (by omega) (by rw [e2]; decide), e2]
theorem Agu (v : Vo) (p : Pl) (t : Int) (hF : v.fit) (hc : p.chk v = 0) : XC Tryz.prog 17 [.agg (Vo.c v), .agg (Pl.c p), .v (.int .i64 t)] (fun r => r = .tup [.agg (Vo.c (H3 v p t).1), dI (H3 v p t).2]) := by
 obtain ⟨k, hat0, hk0⟩ := Vi (ckL v p.len) t (ckL v p.len).length
 obtain ⟨a, ha⟩ : ∃ a, a = tot ((ckL v p.len).take k) := ⟨_, rfl⟩
 have hat1 := hat0
 rw [← ha] at hat1
 obtain ⟨hme, hpb, hck⟩ := Es hc
 obtain ⟨hsv, hev⟩ := Ks hck
 have hcl := Jp hck
 have hN := Ie v p.len
 unfold Pl.bad at hpb
 have htok := Af9 hck
 obtain ⟨hA1, hA2, hA3, hA4⟩ := Aki v p.len t
 obtain ⟨hlL, hl0, hl1⟩ := Rq hck
 refine An Aex Tryz.func17 R R lb<|zr<|XL.step R (As 3 (l := [.d (.sl 13 (v.evs.map Ev.c)), .d (.sl 4 (v.tups.map Tp.c))]) R R (by kernel_rfl))<|XL.step R (As 4 (l := [.d (dI p.m.count), .d (dI p.m.unit), .d (dI p.m.g0), .d (dI p.m.g1), .d (dI p.m.g2), .d (dI p.m.g3), .d (dI p.m.g4), .d (dI p.m.g5), .d (dI p.off), .d (dI p.len)]) R R (by kernel_rfl))<|?_
 refine XL.step R (A0 6 (l := [.d (.v (.slice none 0 0)), .d (.v (.slice none 0 0))]) R Bb (by kernel_rfl))<|za R R<|zn<|zs<|zr<|zp (Ab R R A5)<|zp (Aa R R Bw R R)<|XL.len R R R Tryz.underlying22 fun hl17=>zp (A1 R R R)<|zn<|?_
 refine zd R (fun c18 => ?_) (fun c18 => ?_)
 refine zr<|zp (Ae (s' := .d (.agg [.v (.slice none 0 0), .v (.slice none 0 0)])) (Ac (Bc R Ca Bb R)) (by kernel_rfl))<|XL.step R (Ag (l' := [.d (.v (.slice none 0 0)), .d (.v (.slice none 0 0))]) R R R R Bo R lb (by kernel_rfl))<|za R R<|zn<|zt<|?_
 exact Bl R (RV.sub (RV.cells R R R At lb R) (.agg (.cons (.nil 13) (.cons (.nil 4) (.nil))))) (RV.tmp R R) (r2v (Ar0 hc c18))
 refine zi<|zs<|zr<|zm R R<|zp (Ar R R R)<|zm R R<|?_
 refine XL.dec 22 R (fun g22 => ?_) (fun g22 => ?_)
 refine zk 4 R<|zq R R R<|zn<|Aq (by kernel_rfl) R<|zr<|zp (Ae (s' := .d (.agg [.v (.slice none 0 0), .v (.slice none 0 0)])) (Ac (Bc R Ca Bb R)) (by kernel_rfl))<|XL.step R (Ag (l' := [.d (.v (.slice none 0 0)), .d (.v (.slice none 0 0))]) R R R R Bo R lb (by kernel_rfl))<|za R R<|zn<|zt<|?_
 exact Bl R (RV.sub (RV.cells R R R At lb R) (.agg (.cons (.nil 13) (.cons (.nil 4) (.nil))))) (RV.tmp R R) (r2v (Am2 hc c18 (by omega)))
 refine zm R R<|zp (Ab R R I9)<|zp (Aa R R Ai R R)<|zp (A7 R R R)<|zq R R R<|zn<|?_
 refine zd R (fun c27 => ?_) (fun c27 => ?_)
 refine zr<|zp (Ae (s' := .d (.agg [.v (.slice none 0 0), .v (.slice none 0 0)])) (Ac (Bc R Ca Bb R)) (by kernel_rfl))<|XL.step R (Ag (l' := [.d (.v (.slice none 0 0)), .d (.v (.slice none 0 0))]) R R R R Bo R lb (by kernel_rfl))<|za R R<|zn<|zt<|?_
 exact Bl R (RV.sub (RV.cells R R R At lb R) (.agg (.cons (.nil 13) (.cons (.nil 4) (.nil))))) (RV.tmp R R) (r2v (Am2 hc c18 (by omega)))
 refine zi<|zr<|zp (Ae (s' := .d (.agg (Vo.c v))) (Ac (Ad R R At R lb)) (by kernel_rfl))<|zp (Ab R R I9)<|zp (Aa R R Ai R R)<|zm R R<|XL.call1 R R (Ap8 hck hat1) R<|zm R R<|zp (Ba R R R)<|zp (Ba R R R)<|za R R<|za R R<|zn<|zs<|?_
 refine zr<|zm R R<|zp (Ab R R I9)<|zp (Aa R R Ai R R)<|zp (A1 R R R)<|zm R R<|?_
 refine XL.dec 41 R (fun g41 => ?_) (fun g41 => ?_)
 refine zk 3 R<|zq R R R<|zn<|Aq (by kernel_rfl) R<|zr<|zp (Ae (s' := .d (.agg (Vo.c v))) (Ac (Ad R R At R lb)) (by kernel_rfl))<|XL.step R (Ag (l' := [.d (.sl 13 (v.evs.map Ev.c)), .d (.sl 4 (v.tups.map Tp.c))]) R R R R Bo R lb (by kernel_rfl))<|za R R<|zn<|zt<|?_
 exact Bl R (RV.cells R R R At lb R) (RV.tmp R R) (r2v (Am1 hc c18 (by omega) hat1 (by omega)))
 refine zm R R<|zm R R<|zp (A1 R R R)<|zq R R R<|zn<|?_
 refine zd R (fun c45 => ?_) (fun c45 => ?_)
 refine zr<|zp (Ae (s' := .d (.agg (Vo.c v))) (Ac (Ad R R At R lb)) (by kernel_rfl))<|XL.step R (Ag (l' := [.d (.sl 13 (v.evs.map Ev.c)), .d (.sl 4 (v.tups.map Tp.c))]) R R R R Bo R lb (by kernel_rfl))<|za R R<|zn<|zt<|?_
 exact Bl R (RV.cells R R R At lb R) (RV.tmp R R) (r2v (Am1 hc c18 (by omega) hat1 (by omega)))
 refine zi<|zs<|?_
 have he0 := hA4 hck (by omega) (by omega)
 have hat : atV v p.len t = ((k : Int), a) := by rw [Aro he0]; exact hat1
 have hne : ¬ (atE v p.len t ≠ 0 ∨ a = t) := by omega
 have hkl : k < (ckL v p.len).length := by omega
 obtain ⟨w, hw, hat3, hat4, hat5⟩ := Arp hck (by omega) (by omega) (by omega) hat1
 obtain ⟨x, hx⟩ : ∃ x, v.evs[k]? = some x := Av (by omega)
 have hwb := hN.bd w (List.mem_of_getElem? hw)
 have hxf : x.fit := hF.ev x (List.mem_of_getElem? hx)
 have hxh := hxf.1
 have hab := hN.take k
 have hab2 := hab.tot
 refine Af (by kernel_rfl)<|zm R R<|zp (Ae (s' := .d (.agg (Vo.c v))) (Ac (Ad R R At R lb)) (by kernel_rfl))<|zp (Ab R R I9)<|zp (Aa R R Ai R R)<|XL.call1 R R (Aoi hck) R<|zm R R<|zp (Am R R R Cv (hw))<|zp (Ay R R Ai)<|zp (Aj R R R (by omega) (by omega))<|za R R<|zn<|zs<|zr<|?_
 refine zp (Ab R R Bz)<|zp (Aa R R B5 R R)<|zm R R<|XL.call1 R R (An9 _ _ (by assumption)) R<|zn<|?_
 refine Ds (by kernel_rfl) R (fun c59 => ?_) (fun c59 => ?_)
 refine zr<|zp (Ae (s' := .d (.agg [.v (.slice none 0 0), .v (.slice none 0 0)])) (Ac (Bc R Ca Bb R)) (by kernel_rfl))<|XL.step R (Ag (l' := [.d (.v (.slice none 0 0)), .d (.v (.slice none 0 0))]) R R R R Bo R lb (by kernel_rfl))<|za R R<|zn<|zt<|?_
 exact Bl R (RV.sub (RV.cells R R R At lb R) (.agg (.cons (.nil 13) (.cons (.nil 4) (.nil))))) (RV.tmp R R) (r2v ((Km hc c18 (by omega)).trans ((Fs hat hne hx hw).trans (Arf ((Z1 hck k).1 c59)))))
 have hnd : ¬ 0 < Gf v.tups k := fun h => Age c59 ((Z1 hck k).2 h)
 refine zi<|zs<|zr<|zp (Ab R R F2)<|zp (Aa R R Ai R R)<|zm R R<|zp (Aj R R R (by omega) (by omega))<|zp (D6 R R R (by omega) (by omega))<|zp (Bf R R R)<|zm R R<|?_
 refine XL.dec 67 R (fun g67 => ?_) (fun g67 => ?_)
 refine zk 6 R<|zq R R R<|zm R R<|zk 6 R<|zq R R R<|zn<|Aq (by kernel_rfl) R<|zr<|zp (Ae (s' := .d (.agg [.v (.slice none 0 0), .v (.slice none 0 0)])) (Ac (Bc R Ca Bb R)) (by kernel_rfl))<|XL.step R (Ag (l' := [.d (.v (.slice none 0 0)), .d (.v (.slice none 0 0))]) R R R R Bo R lb (by kernel_rfl))<|za R R<|zn<|zt<|?_
 exact Bl R (RV.sub (RV.cells R R R At lb R) (.agg (.cons (.nil 13) (.cons (.nil 4) (.nil))))) (RV.tmp R R) (r2v ((Km hc c18 (by omega)).trans ((Fs hat hne hx hw).trans (Agz hme (by omega) (by omega) (by omega) (by omega) (by omega) hnd (by omega)))))
 refine zp (Ab R R F2)<|zp (Aa R R Ai R R)<|zm R R<|zp (Aj R R R (by omega) (by omega))<|zp (D6 R R R (by omega) (by omega))<|zp (Bf R R R)<|zq R R R<|zm R R<|?_
 refine XL.dec 75 R (fun g75 => ?_) (fun g75 => ?_)
 refine zk 6 R<|zq R R R<|zn<|Aq (by kernel_rfl) R<|zr<|zp (Ae (s' := .d (.agg [.v (.slice none 0 0), .v (.slice none 0 0)])) (Ac (Bc R Ca Bb R)) (by kernel_rfl))<|XL.step R (Ag (l' := [.d (.v (.slice none 0 0)), .d (.v (.slice none 0 0))]) R R R R Bo R lb (by kernel_rfl))<|za R R<|zn<|zt<|?_
 exact Bl R (RV.sub (RV.cells R R R At lb R) (.agg (.cons (.nil 13) (.cons (.nil 4) (.nil))))) (RV.tmp R R) (r2v ((Km hc c18 (by omega)).trans ((Fs hat hne hx hw).trans (Agz hme (by omega) (by omega) (by omega) (by omega) (by omega) hnd (by omega)))))
 refine zp (Ab R R F2)<|zp (Aa R R Ai R R)<|zm R R<|zp (Aj R R R (by omega) (by omega))<|zp (D6 R R R (by omega) (by omega))<|zp (Bf R R R)<|zq R R R<|zn<|?_
 refine zd R (fun c82 => ?_) (fun c82 => ?_)
 refine zr<|zp (Ae (s' := .d (.agg [.v (.slice none 0 0), .v (.slice none 0 0)])) (Ac (Bc R Ca Bb R)) (by kernel_rfl))<|XL.step R (Ag (l' := [.d (.v (.slice none 0 0)), .d (.v (.slice none 0 0))]) R R R R Bo R lb (by kernel_rfl))<|za R R<|zn<|zt<|?_
 exact Bl R (RV.sub (RV.cells R R R At lb R) (.agg (.cons (.nil 13) (.cons (.nil 4) (.nil))))) (RV.tmp R R) (r2v ((Km hc c18 (by omega)).trans ((Fs hat hne hx hw).trans (Agz hme (by omega) (by omega) (by omega) (by omega) (by omega) hnd (by omega)))))
 refine zi<|zs<|?_
 have hs1 : p.m.splitE (p.off + a) (p.off + t) = 0 := by rw [Xt hme (by omega) (by omega) (by omega) (by omega), if_neg (by omega)]
 have hs2 : p.m.splitE (p.off + t) (p.off + (a + w)) = 0 := by rw [Xt hme (by omega) (by omega) (by omega) (by omega), if_neg (by omega)]
 have hq1 := I0 p.m (p.off + a) (p.off + t)
 have hq2 := I0 p.m (p.off + t) (p.off + (a + w))
 have hdl : (Dj p t a w x).length = (p.m.split (p.off + a) (p.off + t)).length + (p.m.split (p.off + t) (p.off + (a + w))).length := by rw [Dj, List.length_append, Ct, Ct]
 have htl := hsv.tups
 obtain ⟨k1, hk1⟩ : ∃ k1 : Nat, k1 = k + 1 := ⟨_, rfl⟩
 refine Af (by kernel_rfl)<|zp (Ab R R A5)<|zp (Aa R R Bw R R)<|zm R R<|zp (Am R R R Cy (hx))<|zp (Ae (s' := .d (.agg (Ev.c x))) (Au R R Az lb) (by kernel_rfl))<|?_
 refine XL.step R (A0 11 (l := [.d (dI 0), .d (dI 0), .d (dI 0), .d (dI 0), .d (dI 0), .d (.v (.slice none 0 0)), .d (.v (.slice none 0 0)), .d (dI 0), .d (dI 0), .d (dI 0), .d (.v (.slice none 0 0)), .d (dI 0), .d (dI 0)]) R B2 (by kernel_rfl))<|?_
 refine XL.step R (Ag (l' := [.d (dI x.site), .d (dI x.num), .d (dI x.kind), .d (dI x.v.log), .d (dI x.v.dots), .d (.sl 5 (x.heads.map Hd.c)), .d (.sl 5 (x.graces.map Gr.c)), .d (dI x.art), .d (dI x.orn), .d (dI x.dyn), .d (.sl 2 (x.lyr.map Sy.c)), .d (dI x.stem), .d (dI x.beam)]) R R R R B4 R lb (by kernel_rfl))<|zn<|zs<|zr<|zp (Ab R R B3)<|zp (Aa R R Ai R R)<|?_
 refine zp (A1 R R R)<|zn<|?_
 refine zd R (fun c91 => ?_) (fun c91 => ?_)
 refine Af (by kernel_rfl)<|zp (Ab R R B3)<|XL.step R (Ag (l' := [.d (dI x.site), .d (dI x.num), .d (dI 2), .d (dI x.v.log), .d (dI x.v.dots), .d (.sl 5 (x.heads.map Hd.c)), .d (.sl 5 (x.graces.map Gr.c)), .d (dI x.art), .d (dI x.orn), .d (dI x.dyn), .d (.sl 2 (x.lyr.map Sy.c)), .d (dI x.stem), .d (dI x.beam)]) R R R R Cw R lb (by kernel_rfl))<|znr<|?_
 refine zp (Ae (s' := .d (.agg [dI x.site, dI x.num, dI 2, dI x.v.log, dI x.v.dots, .sl 5 (x.heads.map Hd.c), .sl 5 (x.graces.map Gr.c), dI x.art, dI x.orn, dI x.dyn, .sl 2 (x.lyr.map Sy.c), dI x.stem, dI x.beam])) (Ac (Ad R R Az R lb)) (by kernel_rfl))<|?_
 refine XL.step R (A0 12 (l := [.d (dI 0), .d (dI 0), .d (dI 0), .d (dI 0), .d (dI 0), .d (.v (.slice none 0 0)), .d (.v (.slice none 0 0)), .d (dI 0), .d (dI 0), .d (dI 0), .d (.v (.slice none 0 0)), .d (dI 0), .d (dI 0)]) R B2 (by kernel_rfl))<|?_
 refine XL.step R (Ag (l' := [.d (dI x.site), .d (dI x.num), .d (dI 2), .d (dI x.v.log), .d (dI x.v.dots), .d (.sl 5 (x.heads.map Hd.c)), .d (.sl 5 (x.graces.map Gr.c)), .d (dI x.art), .d (dI x.orn), .d (dI x.dyn), .d (.sl 2 (x.lyr.map Sy.c)), .d (dI x.stem), .d (dI x.beam)]) R R R R B4 R lb (by kernel_rfl))<|znr<|zp (Ab R R Bp)<|zp (Aa R R Dg R R)<|?_
 refine XL.call1 R R (Jj _ (by omega)) R<|zp (Ab R R Bp)<|XL.step R (Ag (l' := [.d (dI x.site), .d (dI x.num), .d (dI 2), .d (dI x.v.log), .d (dI x.v.dots), .d (.sl 5 ((x.heads.map Hd.tie).map Hd.c)), .d (.sl 5 (x.graces.map Gr.c)), .d (dI x.art), .d (dI x.orn), .d (dI x.dyn), .d (.sl 2 (x.lyr.map Sy.c)), .d (dI x.stem), .d (dI x.beam)]) R R R R Jh R lb (by kernel_rfl))<|?_
 refine zn<|zs<|C0 24 [7001] (by kernel_rfl) (by kernel_rfl) (by kernel_rfl) (by kernel_rfl) (by decide)<|yp (Ae (s' := .d (.agg [dI x.site, dI x.num, dI 2, dI x.v.log, dI x.v.dots, .sl 5 ((x.heads.map Hd.tie).map Hd.c), .sl 5 (x.graces.map Gr.c), dI x.art, dI x.orn, dI x.dyn, .sl 2 (x.lyr.map Sy.c), dI x.stem, dI x.beam])) (Ac (Ad R R Az R lb)) (by kernel_rfl))<|?_
 refine yp (Ab R R M8)<|yp (Ae (s' := .d (.agg (Me.c p.m))) (Ac (Ad R R Bj R lb)) (by kernel_rfl))<|yp (Ab R R F2)<|yp (Aa R R Ai R R)<|ym R R<|yp (Aj R R R (by omega) (by omega))<|yp (Ab R R F2)<|yp (Aa R R Ai R R)<|ym R R<|yp (Aj R R R (by omega) (by omega))<|?_
 refine ChK.cons R (CStep.callS R ((V1 (x.asRest.tiedE) p.m (p.off + a) (p.off + t) hxf.rest.tied hs1).lab 7001) R (Eq (by kernel_rfl)))<|?_
 refine yp (Ae (s' := .d (.agg [dI x.site, dI x.num, dI 2, dI x.v.log, dI x.v.dots, .sl 5 (x.heads.map Hd.c), .sl 5 (x.graces.map Gr.c), dI x.art, dI x.orn, dI x.dyn, .sl 2 (x.lyr.map Sy.c), dI x.stem, dI x.beam])) (Ac (Ad R R Az R lb)) (by kernel_rfl))<|ChK.cons R (CStep.call R (Nk x.asRest hxf.rest) R)<|yp (Ab R R M8)<|?_
 refine yp (Ae (s' := .d (.agg (Me.c p.m))) (Ac (Ad R R Bj R lb)) (by kernel_rfl))<|yp (Ab R R F2)<|yp (Aa R R Ai R R)<|ym R R<|yp (Aj R R R (by omega) (by omega))<|yp (Ab R R F2)<|yp (Aa R R Ai R R)<|ym R R<|yp (Aj R R R (by omega) (by omega))<|?_
 refine ChK.nil ⟨by kernel_rfl, ?_⟩
 refine XL.call1 R R (V2 (x.asRest.furV) p.m (p.off + t) (p.off + (a + w)) (Zo hxf.rest) hs2) R<|?_
 refine XL.step R (A4 R Du (.own R) (Src.sl (by omega)) (by simp only [List.length_append, List.length_map, Ct, List.length_take, List.length_drop, List.length_nil]; unfold maxLen; omega) (by simp only [List.length_append, List.length_map, Ct, List.length_take, List.length_drop, List.length_nil]; omega))<|zp (Ao R (by conv => lhs; whnf))<|?_
 refine znr<|XL.step R (Bg 124 R Tryz.underlying22 B4 B2 R R (by omega) (by omega))<|zp (Ab R R A5)<|zp (Aa R R Bw R R)<|zm R R<|zp (Ek R R Cy Bd.no (Bd.at R) (by omega) (by omega))<|XL.step R (A4 R Du (.own R) (Src.sl (by omega)) (by unfold maxLen; simp; omega) (by simp; omega))<|zp (Ac (Bc R Ca Bb R))<|?_
 refine XL.step R (A0 14 (l := [.d (.v (.slice none 0 0)), .d (.v (.slice none 0 0))]) R Bb (by kernel_rfl))<|XL.step R (Ag (l' := [.own 124, .d (.v (.slice none 0 0))]) R R R R Bo R lb (by kernel_rfl))<|zn<|zs<|?_
 refine Jz 3 9 [] (S.kill 124) 124 (Sx 124 (.row 60 13 ((v.evs.take k ++ Dj p t a w x).map Ev.c))) (by kernel_rfl) (by kernel_rfl) (by kernel_rfl) (by kernel_rfl) (by decide)<|ChMK.bf R (CStep.pure (Ab R R A5)) (by conv => lhs; whnf)<|?_
 refine ChMK.bf R (CStep.pure (Aa R R Bw R R)) (by conv => lhs; whnf)<|?_
 refine ChMK.bf R (CStep.pure (Ax R (by conv => lhs; whnf))) (by conv => lhs; whnf)<|?_
 refine ChMK.mu R (Pg (l2 := (v.evs.take k ++ Dj p t a w x).map Ev.c) R Du (.own R) (Src.own R) (by simp only [List.length_append, List.length_map, Ct, List.length_take, List.length_drop, List.length_nil]; unfold maxLen; omega) (by simp only [List.length_append, List.length_map, Ct, List.length_take, List.length_drop, List.length_nil]; omega) (by first | (rw [← Xm c91]; simp only [List.map_append, List.nil_append, List.drop_zero]) | (rw [← Xn c91]; simp only [List.map_append, List.nil_append, List.drop_zero])))<|?_
 refine ChMK.fr R R (CStep.pure (Ab R R A5)) (CStep.pure (Ab R R A5)) (by exact rfl)<|ChMK.fr R R (CStep.pure (Aa R R Bw R R)) (CStep.pure (Aa R R Bw R R)) (by exact rfl)<|ChMK.fr R R (CStep.pure (Ax R (by conv => lhs; whnf))) (CStep.pure (Ax R (by conv => lhs; whnf))) (by exact rfl)<|?_
 refine ChMK.fr R R (CStep.pure (Ae (s' := .d (dI (k1 : Nat))) (Aj R R R (by omega) (by omega)) (sI (by omega)))) (CStep.pure (Ae (s' := .d (dI (k1 : Nat))) (Aj R R R (by omega) (by omega)) (sI (by omega)))) (by exact rfl)<|?_
 refine ChMK.fr R R (CStep.pure (Ek R R Cy (Bd.at R) Bd.no (by omega) (Nat.le_refl _))) (CStep.pure (Ek R R Cy (Bd.at R) Bd.no (by omega) (Nat.le_refl _))) (by exact rfl)<|?_
 refine ChMK.nil ⟨⟨by kernel_rfl, by kernel_rfl, by kernel_rfl⟩, ?_⟩
 refine XL.step R (A4 R Du (.own R) (Src.sl (by omega)) (by simp only [List.length_append, List.length_map, Ct, List.length_take, List.length_drop, List.length_nil]; unfold maxLen; omega) (by simp only [List.length_append, List.length_map, Ct, List.length_take, List.length_drop, List.length_nil]; omega))<|zp (Ab R R A5)<|?_
 refine XL.step R (Ag (l' := [.own 124, .d (.v (.slice none 0 0))]) R R R R Tl R lb (by kernel_rfl))<|znr<|zp (Ab R R Bz)<|zp (Aa R R B5 R R)<|XL.call1 R R (Mx _ (by omega)) R<|zm R R<|zp (Aj R R R (by omega) (by omega))<|zp (Ax R (by conv => lhs; whnf))<|?_
 refine zp (Ae (s' := .d (dI ((Dj p t a w x).length : Nat))) (Ll R R R Tryz.underlying22) (by first | (rw [← Xm c91]; simp only [List.length_append, List.length_map]) | (rw [← Xn c91]; simp only [List.length_append, List.length_map])))<|zp (Do R R R (by omega) (by omega))<|XL.call1 R R (Ty _ _ _ (by assumption) (by omega) (by omega)) R<|?_
 refine XL.call1 R R (Yq _ (by rw [List.length_map]; omega)) R<|zp (Ab R R Bz)<|XL.step R (Ag (l' := [.own 124, .d (.sl 4 ((v.tups.map (Ii ((k : Nat) + 1) (((Dj p t a w x).length : Nat) - 1))).map Tp.c))]) R R R R G7 R lb (by kernel_rfl))<|zn<|zs<|zr<|zp (Ab R R A5)<|zp (Aa R R Bw R R)<|?_
 refine zp (Ae (s' := .d (dI ((v.evs.take k ++ Dj p t a w x ++ v.evs.drop k1).length : Nat))) (Ll R R R Tryz.underlying22) (by simp only [List.length_append, List.length_map, List.take_length]))<|zp (A7 R R R)<|zn<|?_
 refine zd R (fun c156 => ?_) (fun c156 => ?_)
 refine zr<|zp (Ae (s' := .d (.agg [.v (.slice none 0 0), .v (.slice none 0 0)])) (Ac (Bc R Ca Bb R)) (by kernel_rfl))<|XL.step R (Ag (l' := [.d (.v (.slice none 0 0)), .d (.v (.slice none 0 0))]) R R R R Bo R lb (by kernel_rfl))<|za R R<|zn<|zt<|?_
 exact Bl R (RV.sub (RV.cells R R R At lb R) (.agg (.cons (.nil 13) (.cons (.nil 4) (.nil))))) (RV.tmp R R) (r2v ((Km hc c18 (by omega)).trans ((Fs hat hne hx hw).trans (Ahy hnd (by omega) (by omega) R (by rw [Rf hck hnd hk1]; exact c156)))))
 refine zi<|zr<|zp (Ac (Ad R R At R lb))<|XL.step R (Ag (l' := [.own 124, .d (.sl 4 ((v.tups.map (Ii ((k : Nat) + 1) (((Dj p t a w x).length : Nat) - 1))).map Tp.c))]) R R R R Bo R lb (by kernel_rfl))<|za R R<|zn<|zt<|Bh (i := 124) R<|?_
 exact Bl R (RV.cells R R R At lb R) (RV.tmp R R) (by rw [Km hc c18 (by omega), Fs hat hne hx hw, Ahx hnd (by omega) (by omega) rfl (by rw [Rf hck hnd hk1]; exact c156), Rf hck hnd hk1]; simp only [Vo.c, List.map_append, List.take_length]; rfl)
 refine zi<|zr<|zp (Ae (s' := .d (.agg (Ev.c x))) (Ac (Ad R R Az R lb)) (by kernel_rfl))<|XL.step R (A0 12 (l := [.d (dI 0), .d (dI 0), .d (dI 0), .d (dI 0), .d (dI 0), .d (.v (.slice none 0 0)), .d (.v (.slice none 0 0)), .d (dI 0), .d (dI 0), .d (dI 0), .d (.v (.slice none 0 0)), .d (dI 0), .d (dI 0)]) R B2 (by kernel_rfl))<|?_
 refine XL.step R (Ag (l' := [.d (dI x.site), .d (dI x.num), .d (dI x.kind), .d (dI x.v.log), .d (dI x.v.dots), .d (.sl 5 (x.heads.map Hd.c)), .d (.sl 5 (x.graces.map Gr.c)), .d (dI x.art), .d (dI x.orn), .d (dI x.dyn), .d (.sl 2 (x.lyr.map Sy.c)), .d (dI x.stem), .d (dI x.beam)]) R R R R B4 R lb (by kernel_rfl))<|znr<|zp (Ab R R Bp)<|zp (Aa R R Dg R R)<|?_
 refine XL.call1 R R (Jj _ (by omega)) R<|zp (Ab R R Bp)<|?_
 refine XL.step R (Ag (l' := [.d (dI x.site), .d (dI x.num), .d (dI x.kind), .d (dI x.v.log), .d (dI x.v.dots), .d (.sl 5 ((x.heads.map Hd.tie).map Hd.c)), .d (.sl 5 (x.graces.map Gr.c)), .d (dI x.art), .d (dI x.orn), .d (dI x.dyn), .d (.sl 2 (x.lyr.map Sy.c)), .d (dI x.stem), .d (dI x.beam)]) R R R R Jh R lb (by kernel_rfl))<|zn<|zs<|?_
 refine C0 24 [7001] (by kernel_rfl) (by kernel_rfl) (by kernel_rfl) (by kernel_rfl) (by decide)<|yp (Ae (s' := .d (.agg [dI x.site, dI x.num, dI x.kind, dI x.v.log, dI x.v.dots, .sl 5 ((x.heads.map Hd.tie).map Hd.c), .sl 5 (x.graces.map Gr.c), dI x.art, dI x.orn, dI x.dyn, .sl 2 (x.lyr.map Sy.c), dI x.stem, dI x.beam])) (Ac (Ad R R Az R lb)) (by kernel_rfl))<|?_
 refine yp (Ab R R M8)<|yp (Ae (s' := .d (.agg (Me.c p.m))) (Ac (Ad R R Bj R lb)) (by kernel_rfl))<|yp (Ab R R F2)<|yp (Aa R R Ai R R)<|ym R R<|yp (Aj R R R (by omega) (by omega))<|yp (Ab R R F2)<|yp (Aa R R Ai R R)<|ym R R<|yp (Aj R R R (by omega) (by omega))<|?_
 refine ChK.cons R (CStep.callS R ((V1 (x.tiedE) p.m (p.off + a) (p.off + t) hxf.tied hs1).lab 7001) R (Eq (by kernel_rfl)))<|yp (Ae (s' := .d (.agg (Ev.c x))) (Ac (Ad R R Az R lb)) (by kernel_rfl))<|ChK.cons R (CStep.call R (Nk x hxf) R)<|yp (Ab R R M8)<|?_
 refine yp (Ae (s' := .d (.agg (Me.c p.m))) (Ac (Ad R R Bj R lb)) (by kernel_rfl))<|yp (Ab R R F2)<|yp (Aa R R Ai R R)<|ym R R<|yp (Aj R R R (by omega) (by omega))<|yp (Ab R R F2)<|yp (Aa R R Ai R R)<|ym R R<|yp (Aj R R R (by omega) (by omega))<|?_
 refine ChK.nil ⟨by kernel_rfl, ?_⟩
 refine XL.call1 R R (V2 (x.furV) p.m (p.off + t) (p.off + (a + w)) (Zo hxf) hs2) R<|?_
 refine XL.step R (A4 R Du (.own R) (Src.sl (by omega)) (by simp only [List.length_append, List.length_map, Ct, List.length_take, List.length_drop, List.length_nil]; unfold maxLen; omega) (by simp only [List.length_append, List.length_map, Ct, List.length_take, List.length_drop, List.length_nil]; omega))<|zp (Ao R (by conv => lhs; whnf))<|?_
 refine znr<|XL.step R (Bg 124 R Tryz.underlying22 B4 B2 R R (by omega) (by omega))<|zp (Ab R R A5)<|zp (Aa R R Bw R R)<|zm R R<|zp (Ek R R Cy Bd.no (Bd.at R) (by omega) (by omega))<|XL.step R (A4 R Du (.own R) (Src.sl (by omega)) (by unfold maxLen; simp; omega) (by simp; omega))<|zp (Ac (Bc R Ca Bb R))<|?_
 refine XL.step R (A0 14 (l := [.d (.v (.slice none 0 0)), .d (.v (.slice none 0 0))]) R Bb (by kernel_rfl))<|XL.step R (Ag (l' := [.own 124, .d (.v (.slice none 0 0))]) R R R R Bo R lb (by kernel_rfl))<|zn<|zs<|?_
 refine Jz 3 9 [] (S.kill 124) 124 (Sx 124 (.row 60 13 ((v.evs.take k ++ Dj p t a w x).map Ev.c))) (by kernel_rfl) (by kernel_rfl) (by kernel_rfl) (by kernel_rfl) (by decide)<|ChMK.bf R (CStep.pure (Ab R R A5)) (by conv => lhs; whnf)<|?_
 refine ChMK.bf R (CStep.pure (Aa R R Bw R R)) (by conv => lhs; whnf)<|?_
 refine ChMK.bf R (CStep.pure (Ax R (by conv => lhs; whnf))) (by conv => lhs; whnf)<|?_
 refine ChMK.mu R (Pg (l2 := (v.evs.take k ++ Dj p t a w x).map Ev.c) R Du (.own R) (Src.own R) (by simp only [List.length_append, List.length_map, Ct, List.length_take, List.length_drop, List.length_nil]; unfold maxLen; omega) (by simp only [List.length_append, List.length_map, Ct, List.length_take, List.length_drop, List.length_nil]; omega) (by first | (rw [← Xm c91]; simp only [List.map_append, List.nil_append, List.drop_zero]) | (rw [← Xn c91]; simp only [List.map_append, List.nil_append, List.drop_zero])))<|?_
 refine ChMK.fr R R (CStep.pure (Ab R R A5)) (CStep.pure (Ab R R A5)) (by exact rfl)<|ChMK.fr R R (CStep.pure (Aa R R Bw R R)) (CStep.pure (Aa R R Bw R R)) (by exact rfl)<|ChMK.fr R R (CStep.pure (Ax R (by conv => lhs; whnf))) (CStep.pure (Ax R (by conv => lhs; whnf))) (by exact rfl)<|?_
 refine ChMK.fr R R (CStep.pure (Ae (s' := .d (dI (k1 : Nat))) (Aj R R R (by omega) (by omega)) (sI (by omega)))) (CStep.pure (Ae (s' := .d (dI (k1 : Nat))) (Aj R R R (by omega) (by omega)) (sI (by omega)))) (by exact rfl)<|?_
 refine ChMK.fr R R (CStep.pure (Ek R R Cy (Bd.at R) Bd.no (by omega) (Nat.le_refl _))) (CStep.pure (Ek R R Cy (Bd.at R) Bd.no (by omega) (Nat.le_refl _))) (by exact rfl)<|?_
 refine ChMK.nil ⟨⟨by kernel_rfl, by kernel_rfl, by kernel_rfl⟩, ?_⟩
 refine XL.step R (A4 R Du (.own R) (Src.sl (by omega)) (by simp only [List.length_append, List.length_map, Ct, List.length_take, List.length_drop, List.length_nil]; unfold maxLen; omega) (by simp only [List.length_append, List.length_map, Ct, List.length_take, List.length_drop, List.length_nil]; omega))<|zp (Ab R R A5)<|?_
 refine XL.step R (Ag (l' := [.own 124, .d (.v (.slice none 0 0))]) R R R R Tl R lb (by kernel_rfl))<|znr<|zp (Ab R R Bz)<|zp (Aa R R B5 R R)<|XL.call1 R R (Mx _ (by omega)) R<|zm R R<|zp (Aj R R R (by omega) (by omega))<|zp (Ax R (by conv => lhs; whnf))<|?_
 refine zp (Ae (s' := .d (dI ((Dj p t a w x).length : Nat))) (Ll R R R Tryz.underlying22) (by first | (rw [← Xm c91]; simp only [List.length_append, List.length_map]) | (rw [← Xn c91]; simp only [List.length_append, List.length_map])))<|zp (Do R R R (by omega) (by omega))<|XL.call1 R R (Ty _ _ _ (by assumption) (by omega) (by omega)) R<|?_
 refine XL.call1 R R (Yq _ (by rw [List.length_map]; omega)) R<|zp (Ab R R Bz)<|XL.step R (Ag (l' := [.own 124, .d (.sl 4 ((v.tups.map (Ii ((k : Nat) + 1) (((Dj p t a w x).length : Nat) - 1))).map Tp.c))]) R R R R G7 R lb (by kernel_rfl))<|zn<|zs<|zr<|zp (Ab R R A5)<|zp (Aa R R Bw R R)<|?_
 refine zp (Ae (s' := .d (dI ((v.evs.take k ++ Dj p t a w x ++ v.evs.drop k1).length : Nat))) (Ll R R R Tryz.underlying22) (by simp only [List.length_append, List.length_map, List.take_length]))<|zp (A7 R R R)<|zn<|?_
 refine zd R (fun c156 => ?_) (fun c156 => ?_)
 refine zr<|zp (Ae (s' := .d (.agg [.v (.slice none 0 0), .v (.slice none 0 0)])) (Ac (Bc R Ca Bb R)) (by kernel_rfl))<|XL.step R (Ag (l' := [.d (.v (.slice none 0 0)), .d (.v (.slice none 0 0))]) R R R R Bo R lb (by kernel_rfl))<|za R R<|zn<|zt<|?_
 exact Bl R (RV.sub (RV.cells R R R At lb R) (.agg (.cons (.nil 13) (.cons (.nil 4) (.nil))))) (RV.tmp R R) (r2v ((Km hc c18 (by omega)).trans ((Fs hat hne hx hw).trans (Ahy hnd (by omega) (by omega) R (by rw [Rf hck hnd hk1]; exact c156)))))
 refine zi<|zr<|zp (Ac (Ad R R At R lb))<|XL.step R (Ag (l' := [.own 124, .d (.sl 4 ((v.tups.map (Ii ((k : Nat) + 1) (((Dj p t a w x).length : Nat) - 1))).map Tp.c))]) R R R R Bo R lb (by kernel_rfl))<|za R R<|zn<|zt<|Bh (i := 124) R<|?_
 exact Bl R (RV.cells R R R At lb R) (RV.tmp R R) (by rw [Km hc c18 (by omega), Fs hat hne hx hw, Ahx hnd (by omega) (by omega) rfl (by rw [Rf hck hnd hk1]; exact c156), Rf hck hnd hk1]; simp only [Vo.c, List.map_append, List.take_length]; rfl)
end Go.Proofs.YtcihalbakenleaaGreat
namespace Go.Proofs.YtcihalbakenleaaGreat
open Go.RowKit
theorem Aqk {l : List Int} (hp : ∀ x ∈ l, 0 < x) {j k : Nat} {x y : Int} (hjk : j < k) (hx : (Be l)[j]? = some x) (hy : (Be l)[k]? = some y) : x < y := by
 have h1 := G2 hx
 have h2 := G2 hy
 have hjl : j < l.length := by have := (List.getElem?_eq_some_iff.1 hx).1; rwa [J0] at this
 obtain ⟨w, hw⟩ := Av hjl
 have h3 := Mp hp (j := j + 1) (k := k) (by omega)
 rw [Bk hw, H9] at h3
 have := hp w (List.mem_of_getElem? hw)
 omega
theorem J5 {l : List Int} (hp : ∀ x ∈ l, 0 < x) {j : Nat} {x a : Int} (hx : (Be l)[j]? = some x) : x < a ↔ j < Bs (Be l) a := by
 have e := (List.getElem?_eq_some_iff.1 hx).2
 constructor
 ·intro h
  rw [← Nat.not_le]; intro hle
  have hjl := (List.getElem?_eq_some_iff.1 hx).1
  have hlt : Bs (Be l) a < (Be l).length := by omega
  have h1 : decide (a ≤ (Be l)[Bs (Be l) a]) = true := List.findIdx_getElem (w := hlt)
  obtain ⟨y, hy⟩ := Av hlt
  have hy2 : (Be l)[Bs (Be l) a] = y := (List.getElem?_eq_some_iff.1 hy).2
  rw [hy2] at h1
  have h1 := of_decide_eq_true h1
  rcases Nat.lt_or_eq_of_le hle with k | k
  ·have := Aqk hp k hy hx; omega
  ·rw [k, hx] at hy; cases hy; omega
 ·intro h
  have := List.not_of_lt_findIdx (p := fun x => decide (a ≤ x)) h
  rw [e] at this
  simpa using this
theorem Uo {l : List Int} (hp : ∀ x ∈ l, 0 < x) {a b : Int} (hab : a ≤ b) : Bs (Be l) a ≤ Bs (Be l) b := by
 rw [← Nat.not_lt]; intro h
 obtain ⟨y, hy⟩ := Av (show Bs (Be l) b < (Be l).length from Nat.lt_of_lt_of_le h (Jb _ _))
 have h1 := (J5 hp hy (a := a)).2 h
 have h2 := (J5 hp hy (a := b)).1 (by omega)
 omega
theorem Ui {l : List Int} (hp : ∀ x ∈ l, 0 < x) {a b : Int} (hab : a ≤ b) : Ga (Be l) a b = Bs (Be l) b := by
 refine M5 (Uo hp hab) (Jb _ _) (fun j x h1 h2 hx => ?_) ?_
 ·have h3 := (J5 hp hx (a := b)).2 h2
  have h4 : ¬ x < a := fun h => by have := (J5 hp hx (a := a)).1 h; omega
  exact decide_eq_true ⟨by omega, h3⟩
 ·by_cases c : Bs (Be l) b = (Be l).length
  ·exact .inl c
  ·obtain ⟨y, hy⟩ := Av (show Bs (Be l) b < (Be l).length by have := Jb (Be l) b; omega)
   refine .inr ⟨y, hy, decide_eq_false fun h => ?_⟩
   have := (J5 hp hy (a := b)).1 h.2; omega
theorem Ve {v : Vo} {p : Pl} {t : Int} (hc : p.chk v = 0) (hn : v.evs ≠ []) (h : (Ak v p t).2 = 0) : (Ak v p t).1.evs ≠ [] := by
 obtain ⟨hme, hpb, hck⟩ := Es hc
 rcases Amh hc t with h | ⟨h', _⟩ | ⟨k, a, w, x, hk, hw, ha, hat, hat2, hne, hd, h1, h2, hl, he⟩
 ·rw [h]; exact hn
 ·exact absurd h h'
 ·rw [he]
  intro e
  have e2 : v.evs.take k ++ Dj p t a w x ++ v.evs.drop (k + 1) = [] := e
  have e3 : Dj p t a w x = [] := by
   have := List.append_eq_nil_iff.1 e2
   exact (List.append_eq_nil_iff.1 this.1).2
  have hxe := (Ml hck).1 x (List.mem_of_getElem? hk)
  obtain ⟨_, q⟩ := Af8 hxe h1 h2 (by rw [e3]; exact Nat.zero_le _)
  have := Ok hck w (List.mem_of_getElem? hw)
  rw [e3] at q
  have q2 : (0 : Int) = w := q
  omega
structure RegOk (v : Vo) (p : Pl) (a b : Int) (d : Vo) (f l : Nat) : Prop where
 hc : p.chk v = 0
 ne : v.evs ≠ []
 d2 : d = (Ak (Ak v p a).1 p b).1
 e1 : (Ak v p a).2 = 0
 e2 : (Ak (Ak v p a).1 p b).2 = 0
 c1 : p.chk (Ak v p a).1 = 0
 n1 : (Ak v p a).1.evs ≠ []
 chk : p.chk d = 0
 dne : d.evs ≠ []
 fit : v.fit → d.fit
 fl : f ≤ l
 ll : l ≤ d.evs.length
 fe : f = Bs (Be (ckL d p.len)) a
 le : l = Bs (Be (ckL d p.len)) b
 no : ∀ t ∈ d.tups, ¬ Dn t f l
 rng : 0 ≤ a ∧ a ≤ b ∧ b ≤ p.len
theorem Apl {v : Vo} {p : Pl} (hc : p.chk v = 0) (h : ¬ v.absent) : v.evs ≠ [] := fun e => h ⟨by rw [e]; rfl, by rw [Vg (Es hc).2.2 (by rw [e]; rfl)]; rfl⟩
theorem Yp (v : Vo) (p : Pl) (a b : Int) : ∃ (d : Vo) (f l : Nat) (e : Int), Gc v p a b = (d, (f : Int), (l : Int), e) ∧ (e = 0 → RegOk v p a b d f l) := by
 by_cases c1 : p.chk v ≠ 0
 ·exact ⟨_, 0, 0, _, Ala c1, fun h => absurd h c1⟩
 by_cases c2 : v.absent
 ·exact ⟨_, 0, 0, _, Ak9 c1 c2, fun h => by cases h⟩
 by_cases c3 : a < 0 ∨ b < a ∨ p.len < b
 ·exact ⟨_, 0, 0, _, Sn c1 c2 c3, fun h => by cases h⟩
 rw [Et c1 c2 c3]
 by_cases c4 : (Ak v p a).2 ≠ 0
 ·exact ⟨_, 0, 0, _, Ak8 c4, fun h => absurd h c4⟩
 by_cases c5 : (Ak (Ak v p a).1 p b).2 ≠ 0
 ·exact ⟨_, 0, 0, _, Ak7 c4 c5, fun h => absurd h c5⟩
 rw [Fj c4 c5]
 have hc0 : p.chk v = 0 := by omega
 have hn0 := Apl hc0 c2
 have hc1 := Lb (t := a) hc0 (by omega)
 have hn1 := Ve (t := a) hc0 hn0 (by omega)
 have hc2 := Lb (t := b) hc1 (by omega)
 have hn2 := Ve (t := b) hc1 hn1 (by omega)
 obtain ⟨d, hd⟩ : ∃ d, d = (Ak (Ak v p a).1 p b).1 := ⟨_, rfl⟩
 rw [← hd] at hc2 hn2 ⊢
 have hp := Ok (Es hc2).2.2
 have hl := Ui hp (show a ≤ b by omega)
 by_cases c6 : ∃ t ∈ d.tups, Dn t (Bs (Be (ckL d p.len)) a) (Ga (Be (ckL d p.len)) a b)
 ·exact ⟨_, 0, 0, _, by rw [Qd, if_pos c6]; rfl, fun h => by cases h⟩
 ·refine ⟨d, Bs (Be (ckL d p.len)) a, Ga (Be (ckL d p.len)) a b, 0, by rw [Qd, if_neg c6], fun _ => ?_⟩
  exact ⟨hc0, hn0, hd, by omega, by omega, hc1, hn1, hc2, hn2, fun hF => by rw [hd]; exact M9 hc1 (M9 hc0 hF (by omega)) (by omega), by rw [hl]; exact Uo hp (by omega),
   by have := Zf (Be (ckL d p.len)) a b; rw [J0, Jp (Es hc2).2.2] at this; exact this.2, rfl, hl, fun t ht hs => c6 ⟨t, ht, hs⟩, by omega⟩
theorem Ap6 {v : Vo} {p : Pl} {a b : Int} {d : Vo} {f l : Nat} {e : Int} (hE : Evs v.evs) (hF : v.fit) (h : Gc v p a b = (d, (f : Int), (l : Int), e)) : XC Tryz.prog 83 [.agg (Vo.c v), .agg (Pl.c p), dI a, dI b] (fun r => r = .tup [.agg (Vo.c d), dI (f : Nat), dI (l : Nat), dI e]) := by
 have := Ai3 v p a b hE hF
 rw [h] at this
 exact this
def Vf (d : Vo) (f l : Nat) : Vo := ⟨(d.evs.take l).drop f, C4 (fun t => decide ((f : Int) ≤ t.first ∧ t.first < l)) (-f) d.tups⟩
def N8 (v : Vo) (p : Pl) (a b : Int) : Vo × Int := if (Gc v p a b).2.2.2 ≠ 0 then (⟨[], []⟩, (Gc v p a b).2.2.2) else (Vf (Gc v p a b).1 (Gc v p a b).2.1.toNat (Gc v p a b).2.2.1.toNat, 0)
theorem Ark {v : Vo} {p : Pl} {a b : Int} {d : Vo} {f l : Nat} {e : Int} (h : Gc v p a b = (d, (f : Int), (l : Int), e)) (he : e ≠ 0) : N8 v p a b = (⟨[], []⟩, e) := by rw [N8, h, if_pos he]
theorem Arj {v : Vo} {p : Pl} {a b : Int} {d : Vo} {f l : Nat} {e : Int} (h : Gc v p a b = (d, (f : Int), (l : Int), e)) (he : ¬ e ≠ 0) : N8 v p a b = (Vf d f l, 0) := by rw [N8, h, if_neg he]; rfl
theorem Ami {d : Vo} {f l : Nat} (h : d.fit) : (Vf d f l).fit := by
 refine ⟨?_, ?_, fun e he => h.ev e (List.mem_of_mem_take (List.mem_of_mem_drop he))⟩
 ·show ((d.evs.take l).drop f).length ≤ 1000
  rw [List.length_drop, List.length_take]; have := h.evs; omega
 ·exact Nat.le_trans (H4 _ _ _) h.tups
theorem Ari (v : Vo) (p : Pl) (a b : Int) (hE : Evs v.evs) (hF : v.fit) : XC Tryz.prog 39 [.agg (Vo.c v), .agg (Pl.c p), .v (.int .i64 a), .v (.int .i64 b)] (fun r => r = .tup [.agg (Vo.c (N8 v p a b).1), dI (N8 v p a b).2]) := by
 obtain ⟨d, f, l, e, hreg, hok⟩ := Yp v p a b
 refine An Aek Tryz.func39 R R lb<|zr<|XL.step R (As 4 (l := [.d (.sl 13 (v.evs.map Ev.c)), .d (.sl 4 (v.tups.map Tp.c))]) R R (by kernel_rfl))<|XL.step R (As 5 (l := [.d (dI p.m.count), .d (dI p.m.unit), .d (dI p.m.g0), .d (dI p.m.g1), .d (dI p.m.g2), .d (dI p.m.g3), .d (dI p.m.g4), .d (dI p.m.g5), .d (dI p.off), .d (dI p.len)]) R R (by kernel_rfl))<|?_
 refine XL.step R (A0 8 (l := [.d (.v (.slice none 0 0)), .d (.v (.slice none 0 0))]) R Bb (by kernel_rfl))<|za R R<|znr<|zp (Ae (s' := .d (.agg (Vo.c v))) (Ac (Ad R R At R lb)) (by kernel_rfl))<|zp (Ae (s' := .d (.agg (Pl.c p))) (Ac (Ad R R H0 R lb)) (by kernel_rfl))<|zm R R<|zm R R<|XL.call1 R R (Ap6 hE hF hreg) R<|zm R R<|?_
 refine zp (Ba R R R)<|zp (Ba R R R)<|zp (Ba R R R)<|zp (Ba R R R)<|XL.step R (A0 10 (l := [.d (.v (.slice none 0 0)), .d (.v (.slice none 0 0))]) R Bb (by kernel_rfl))<|XL.step R (A0 11 (l := [.d (dI 0)]) R Ee (by kernel_rfl))<|XL.step R (A0 12 (l := [.d (dI 0)]) R Ee (by kernel_rfl))<|?_
 refine XL.step R (Ag (l' := [.d (.sl 13 (d.evs.map Ev.c)), .d (.sl 4 (d.tups.map Tp.c))]) R R R R Bo R lb (by kernel_rfl))<|XL.step R (Ag (l' := [.d (dI (f : Nat))]) R R R R Cw R lb (by kernel_rfl))<|XL.step R (Ag (l' := [.d (dI (l : Nat))]) R R R R Cw R lb (by kernel_rfl))<|za R R<|zn<|zs<|zr<|zm R R<|zp (Bf R R R)<|zn<|?_
 refine zd R (fun c26 => ?_) (fun c26 => ?_)
 refine zr<|zp (Ae (s' := .d (.agg [.v (.slice none 0 0), .v (.slice none 0 0)])) (Ac (Bc R Ca Bb R)) (by kernel_rfl))<|zm R R<|XL.step R (Ag (l' := [.d (.v (.slice none 0 0)), .d (.v (.slice none 0 0))]) R R R R Bo R lb (by kernel_rfl))<|za R R<|zn<|zt<|?_
 exact Bl R (RV.sub (RV.cells R R R At lb R) (.agg (.cons (.nil 13) (.cons (.nil 4) (.nil))))) (RV.tmp R R) (r2v (Ark hreg c26))
 refine zi<|zs<|?_
 have hO := hok (by omega)
 have hFd := hO.fit hF
 obtain ⟨hsd, hdl⟩ := Ks (Es hO.chk).2.2
 have hfl := hO.fl
 have hll := hO.ll
 have hdt := hsd.tups
 have hcf := Ami (f := f) (l := l) hFd
 refine Af (by kernel_rfl)<|zp (Ab R R A5)<|zp (Aa R R Bw R R)<|zp (Aa R R Ai R R)<|zp (Aa R R Ai R R)<|zp (Ek R R Cy (Bd.at R) (Bd.at R) (by omega) (by omega))<|zp (Ae (s' := .d (.agg [.sl 13 (((d.evs.take (l : Nat)).drop (f : Nat)).map Ev.c), .v (.slice none 0 0)])) (Ac (Bc R Ca Bb R)) (by kernel_rfl))<|?_
 refine XL.step R (A0 14 (l := [.d (.v (.slice none 0 0)), .d (.v (.slice none 0 0))]) R Bb (by kernel_rfl))<|XL.step R (Ag (l' := [.d (.sl 13 (((d.evs.take (l : Nat)).drop (f : Nat)).map Ev.c)), .d (.v (.slice none 0 0))]) R R R R Bo R lb (by kernel_rfl))<|znr<|XL.freezeP 11 (ds := [dI (f : Nat)]) R (by kernel_rfl) (by kernel_rfl)<|?_
 refine XL.freezeP 12 (ds := [dI (l : Nat)]) R (by kernel_rfl) (by kernel_rfl)<|zp (Ab R R Bz)<|zp (Aa R R B5 R R)<|zp (Rh (pd := []) (cd := [_, _]) R R R)<|zp (Ay R R Ai)<|zp (Ar6 R R (by omega) (by omega))<|?_
 refine XL.call1 R R (Pe d.tups 85 [.pt [dI (f : Nat)], .pt [dI (l : Nat)]] (fun t => decide (((f : Nat) : Int) ≤ t.first ∧ t.first < ((l : Nat) : Int))) (-(f : Nat)) (fun t _ => Api t f l) (by omega) (fun t ht _ => by have := hsd.bd t ht; omega)) rfl<|zp (Ab R R Bz)<|?_
 refine XL.step R (Ag (l' := [.d (.sl 13 (((d.evs.take (l : Nat)).drop (f : Nat)).map Ev.c)), .d (.sl 4 ((C4 (fun t => decide (((f : Nat) : Int) ≤ t.first ∧ t.first < ((l : Nat) : Int))) (-(f : Nat)) d.tups).map Tp.c))]) R R R R G7 R lb (by kernel_rfl))<|znr<|zp (Ae (s' := .d (.agg (Vo.c (Vf d f l)))) (Ac (Ad R R At R lb)) (by kernel_rfl))<|?_
 refine XL.call1 R R (Ix _ (by assumption)) R<|XL.step R (Ag (l' := [.d (.sl 13 ((Vf d f l).evs.map Ev.c)), .d (.sl 4 ((Vf d f l).tups.map Tp.c))]) R R R R Bo R lb (by kernel_rfl))<|za R R<|zn<|zt<|?_
 exact Bl R (RV.cells R R R At lb R) (RV.tmp R R) (r2v (Arj hreg c26))
end Go.Proofs.YtcihalbakenleaaGreat
namespace Go.Proofs.YtcihalbakenleaaGreat
open Go.RowKit
theorem Afk {v : Vo} {p : Pl} {t : Int} {q : Vo × Int} (hF : v.fit) (hc : p.chk v = 0) (h : H3 v p t = q) : XC Tryz.prog 17 [.agg (Vo.c v), .agg (Pl.c p), dI t] (fun r => r = .tup [.agg (Vo.c q.1), dI q.2]) := by
 subst h; exact Agu v p t hF hc
theorem An8 {v : Vo} {L : Int} (h : ckE v L = 0) : XC Tryz.prog 33 [.agg (Vo.c v), dI L] (fun r => r = .sl 1 (By (Be (ckL v L)))) := by
 obtain ⟨h1, h2, h3⟩ := Rq h
 have := Tx v L h2 h3
 rw [h1] at this
 exact this
def mn (k F : Nat) : Int := min (k : Int) (F : Int)
theorem Ua {k F : Nat} (h : k < F) : mn k F + 1 = mn (k + 1) F := by unfold mn; omega
theorem Xu {k F : Nat} (h : ¬ k < F) : mn k F = mn (k + 1) F := by unfold mn; omega
theorem Am5 (k F : Nat) : 0 ≤ mn k F ∧ mn k F ≤ k := by unfold mn; omega
def inC (a f l m : Int) : Int := max 0 (min (a + m) l - max a f)
theorem Ao2 {a f l m : Int} (h : f ≤ a + m) (h2 : a + m < l) (h0 : 0 ≤ m) : inC a f l m + 1 = inC a f l (m + 1) := by unfold inC; omega
theorem Ajz {a f l m : Int} (h : ¬ (f ≤ a + m ∧ a + m < l)) (h0 : 0 ≤ m) : inC a f l m = inC a f l (m + 1) := by unfold inC; omega
theorem Aqz (a f l m : Int) (h : 0 ≤ m) : 0 ≤ inC a f l m ∧ inC a f l m ≤ m := by unfold inC; omega
theorem Ajy {t : Tp} {f l : Int} (h : 1 ≤ t.count) : Dn t f l ↔ 0 < inC t.first f l t.count ∧ inC t.first f l t.count < t.count := by unfold Dn inC; omega
theorem Agq (v : Vo) (p : Pl) (a b : Int) (hF : v.fit) (hc : p.chk v = 0) : XC Tryz.prog 86 [.agg (Vo.c v), .agg (Pl.c p), .v (.int .i64 a), .v (.int .i64 b)] (fun r => r = .tup [.agg (Vo.c (Gc v p a b).1), dI (Gc v p a b).2.1, dI (Gc v p a b).2.2.1, dI (Gc v p a b).2.2.2]) := by
 refine An Adh Tryz.func86 R R lb<|zr<|XL.step R (As 4 (l := [.d (.sl 13 (v.evs.map Ev.c)), .d (.sl 4 (v.tups.map Tp.c))]) R R (by kernel_rfl))<|XL.step R (As 5 (l := [.d (dI p.m.count), .d (dI p.m.unit), .d (dI p.m.g0), .d (dI p.m.g1), .d (dI p.m.g2), .d (dI p.m.g3), .d (dI p.m.g4), .d (dI p.m.g5), .d (dI p.off), .d (dI p.len)]) R R (by kernel_rfl))<|?_
 refine XL.step R (A0 8 (l := [.d (.v (.slice none 0 0)), .d (.v (.slice none 0 0))]) R Bb (by kernel_rfl))<|za R R<|za R R<|za R R<|zn<|zs<|zr<|zp (Ab R R A5)<|zp (Aa R R Bw R R)<|XL.len R R R Tryz.underlying22 fun hl20=>zp (A1 R R R)<|zn<|?_
 refine zd R (fun c21 => ?_) (fun c21 => ?_)
 refine zr<|zp (Ae (s' := .d (.agg [.v (.slice none 0 0), .v (.slice none 0 0)])) (Ac (Ad R R At R lb)) (by kernel_rfl))<|XL.step R (Ag (l' := [.d (.v (.slice none 0 0)), .d (.v (.slice none 0 0))]) R R R R Bo R lb (by kernel_rfl))<|za R R<|za R R<|za R R<|zn<|zt<|?_
 exact F0 R (RV.sub (RV.cells R R R At lb R) (.agg (.cons (.nil 13) (.cons (.nil 4) (.nil))))) (RV.tmp R R) (RV.tmp R R) (RV.tmp R R) (r4v (Ak9 (by omega) ⟨by omega, by rw [Vg (Es hc).2.2 (by omega)]; rfl⟩))
 have hn0 : v.evs ≠ [] := fun h => c21 (by rw [h]; rfl)
 have hna : ¬ v.absent := fun h => hn0 (List.eq_nil_of_length_eq_zero (by have := h.1; omega))
 refine zi<|zs<|zr<|zm R R<|zp (Ar R R R)<|zm R R<|?_
 refine XL.dec 25 R (fun g25 => ?_) (fun g25 => ?_)
 refine zk 3 R<|zq R R R<|zm R R<|zk 4 R<|zq R R R<|zn<|Aq (by kernel_rfl) R<|zr<|zp (Ae (s' := .d (.agg [.v (.slice none 0 0), .v (.slice none 0 0)])) (Ac (Ad R R At R lb)) (by kernel_rfl))<|XL.step R (Ag (l' := [.d (.v (.slice none 0 0)), .d (.v (.slice none 0 0))]) R R R R Bo R lb (by kernel_rfl))<|za R R<|za R R<|za R R<|zn<|?_
 refine zt<|?_
 exact F0 R (RV.sub (RV.cells R R R At lb R) (.agg (.cons (.nil 13) (.cons (.nil 4) (.nil))))) (RV.tmp R R) (RV.tmp R R) (RV.tmp R R) (r4v (Sn (by omega) hna (by omega)))
 refine zm R R<|zm R R<|zp (Ar R R R)<|zq R R R<|zm R R<|?_
 refine XL.dec 30 R (fun g30 => ?_) (fun g30 => ?_)
 refine zk 4 R<|zq R R R<|zn<|Aq (by kernel_rfl) R<|zr<|zp (Ae (s' := .d (.agg [.v (.slice none 0 0), .v (.slice none 0 0)])) (Ac (Ad R R At R lb)) (by kernel_rfl))<|XL.step R (Ag (l' := [.d (.v (.slice none 0 0)), .d (.v (.slice none 0 0))]) R R R R Bo R lb (by kernel_rfl))<|za R R<|za R R<|za R R<|zn<|zt<|?_
 exact F0 R (RV.sub (RV.cells R R R At lb R) (.agg (.cons (.nil 13) (.cons (.nil 4) (.nil))))) (RV.tmp R R) (RV.tmp R R) (RV.tmp R R) (r4v (Sn (by omega) hna (by omega)))
 refine zm R R<|zp (Ab R R I9)<|zp (Aa R R Ai R R)<|zp (A7 R R R)<|zq R R R<|zn<|?_
 refine zd R (fun c35 => ?_) (fun c35 => ?_)
 refine zr<|zp (Ae (s' := .d (.agg [.v (.slice none 0 0), .v (.slice none 0 0)])) (Ac (Ad R R At R lb)) (by kernel_rfl))<|XL.step R (Ag (l' := [.d (.v (.slice none 0 0)), .d (.v (.slice none 0 0))]) R R R R Bo R lb (by kernel_rfl))<|za R R<|za R R<|za R R<|zn<|zt<|?_
 exact F0 R (RV.sub (RV.cells R R R At lb R) (.agg (.cons (.nil 13) (.cons (.nil 4) (.nil))))) (RV.tmp R R) (RV.tmp R R) (RV.tmp R R) (r4v (Sn (by omega) hna (by omega)))
 refine zi<|zs<|zs<|?_
 have hD1 : H3 v p a = Ak v p a := Km hc c21 (by omega)
 refine Af (by kernel_rfl)<|zp (Ae (s' := .d (.agg (Vo.c v))) (Ac (Ad R R At R lb)) (by kernel_rfl))<|zp (Ae (s' := .d (.agg (Pl.c p))) (Ac (Ad R R Acl R lb)) (by kernel_rfl))<|zm R R<|XL.call1 R R (Afk hF hc hD1) R<|zm R R<|zp (Ba R R R)<|zp (Ba R R R)<|?_
 refine XL.step R (Ag (l' := [.d (.sl 13 (((Ak v p a).1).evs.map Ev.c)), .d (.sl 4 (((Ak v p a).1).tups.map Tp.c))]) R R R R Bo R lb (by kernel_rfl))<|za R R<|znr<|zm R R<|zp (Bf R R R)<|zn<|?_
 refine zd R (fun c45 => ?_) (fun c45 => ?_)
 refine zr<|zp (Ae (s' := .d (.agg [.v (.slice none 0 0), .v (.slice none 0 0)])) (Ac (Bc R Ca Bb R)) (by kernel_rfl))<|zm R R<|XL.step R (Ag (l' := [.d (.v (.slice none 0 0)), .d (.v (.slice none 0 0))]) R R R R Bo R lb (by kernel_rfl))<|za R R<|za R R<|za R R<|zn<|zt<|?_
 exact F0 R (RV.sub (RV.cells R R R At lb R) (.agg (.cons (.nil 13) (.cons (.nil 4) (.nil))))) (RV.tmp R R) (RV.tmp R R) (RV.tmp R R) (r4v ((Et (by omega) hna (by omega)).trans (Ak8 c45)))
 refine zi<|zs<|zs<|?_
 have hc1 := Lb (t := a) hc (by omega)
 have hF1 := M9 (t := a) hc hF (by omega)
 have hn1 := Ve (t := a) hc hn0 (by omega)
 have hD2 : H3 (Ak v p a).1 p b = Ak (Ak v p a).1 p b := Km hc1 (fun h => hn1 (List.eq_nil_of_length_eq_zero (by omega))) (by omega)
 refine Af (by kernel_rfl)<|zp (Ae (s' := .d (.agg (Vo.c (Ak v p a).1))) (Ac (Ad R R At R lb)) (by kernel_rfl))<|zp (Ae (s' := .d (.agg (Pl.c p))) (Ac (Ad R R Acl R lb)) (by kernel_rfl))<|zm R R<|XL.call1 R R (Afk hF1 hc1 hD2) R<|zm R R<|zp (Ba R R R)<|zp (Ba R R R)<|?_
 refine XL.step R (Ag (l' := [.d (.sl 13 (((Ak (Ak v p a).1 p b).1).evs.map Ev.c)), .d (.sl 4 (((Ak (Ak v p a).1 p b).1).tups.map Tp.c))]) R R R R Bo R lb (by kernel_rfl))<|za R R<|znr<|zm R R<|zp (Bf R R R)<|zn<|?_
 refine zd R (fun c56 => ?_) (fun c56 => ?_)
 refine zr<|zp (Ae (s' := .d (.agg [.v (.slice none 0 0), .v (.slice none 0 0)])) (Ac (Bc R Ca Bb R)) (by kernel_rfl))<|zm R R<|XL.step R (Ag (l' := [.d (.v (.slice none 0 0)), .d (.v (.slice none 0 0))]) R R R R Bo R lb (by kernel_rfl))<|za R R<|za R R<|za R R<|zn<|zt<|?_
 exact F0 R (RV.sub (RV.cells R R R At lb R) (.agg (.cons (.nil 13) (.cons (.nil 4) (.nil))))) (RV.tmp R R) (RV.tmp R R) (RV.tmp R R) (r4v ((Et (by omega) hna (by omega)).trans (Ak7 c45 c56)))
 refine zi<|zs<|?_
 have hc2 := Lb (t := b) hc1 (by omega)
 have hck2 := (Es hc2).2.2
 have hol := J0 (ckL (Ak (Ak v p a).1 p b).1 p.len)
 have hN := Ie (Ak (Ak v p a).1 p b).1 p.len
 have hNl := hN.len
 have hpp := Ok hck2
 have hfa := Jb (Be (ckL (Ak (Ak v p a).1 p b).1 p.len)) a
 have hfb := Jb (Be (ckL (Ak (Ak v p a).1 p b).1 p.len)) b
 have hlf := Ui hpp (show a ≤ b by omega)
 obtain ⟨hs2, _⟩ := Ks hck2
 have htl := hs2.tups
 have hT2 := Ae6 hck2
 refine Af (by kernel_rfl)<|zp (Ae (s' := .d (.agg (Vo.c (Ak (Ak v p a).1 p b).1))) (Ac (Ad R R At R lb)) (by kernel_rfl))<|zp (Ab R R I9)<|zp (Aa R R Ai R R)<|XL.call1 R R (An8 hck2) R<|za R R<|zn<|zs<|zr<|za R R<|zn<|Ah<|?_
 refine Aw (α := Nat) (fun k => k ≤ (Be (ckL (Ak (Ak v p a).1 p b).1 p.len)).length) (fun k => mkF [(2, .d (dI a)), (3, .d (dI b)), (8, .ptr 8 0 0), (9, .d (dI (mn k (Bs (Be (ckL (Ak (Ak v p a).1 p b).1 p.len)) a)))), (10, .d (dI (mn k (Bs (Be (ckL (Ak (Ak v p a).1 p b).1 p.len)) b)))), (11, .d (dI (Ak (Ak v p a).1 p b).2)), (12, .d (.sl 1 (By (Be (ckL (Ak (Ak v p a).1 p b).1 p.len))))), (13, .d (dI k))]) (fun k => mkH [(8, .box ((Vo.c (Ak (Ak v p a).1 p b).1).map S.d))]) (fun k => (Be (ckL (Ak (Ak v p a).1 p b).1 p.len)).length - k) (0) (Nat.zero_le _) ?_ ?_ ?_
 exact fz ⟨sr, sr, sr, .same (sI (by unfold mn; omega)), .same (sI (by unfold mn; omega)), sr, sr, sr, trivial⟩
 exact gz ⟨R, trivial⟩
 intro k hk0
 refine zs<|zr<|zm R R<|zm R R<|XL.len R R R Tryz.underlying64 fun hl65=>zp (Ar R R R)<|zn<|?_
 refine zd R (fun c66 => ?_) (fun c66 => ?_)
 have hk0a : k < (Be (ckL (Ak (Ak v p a).1 p b).1 p.len)).length := by omega
 obtain ⟨x0, hx0⟩ := Av hk0a
 have hqa := J5 hpp hx0 (a := a)
 have hqb := J5 hpp hx0 (a := b)
 have hma := Am5 k (Bs (Be (ckL (Ak (Ak v p a).1 p b).1 p.len)) a)
 have hmb := Am5 k (Bs (Be (ckL (Ak (Ak v p a).1 p b).1 p.len)) b)
 refine zi<|zs<|Ah<|zs<|zr<|zm R R<|zm R R<|zp (Am R R R Cv (hx0))<|zp (Ay R R Ai)<|zm R R<|zp (Ar R R R)<|zn<|?_
 refine zd R (fun c74 => ?_) (fun c74 => ?_)
 refine Af (by kernel_rfl)<|zm R R<|zp (Aj R R R (by omega) (by omega))<|za R R<|znr<|zm R R<|zm R R<|zp (Am R R R Cv (hx0))<|zp (Ay R R Ai)<|zm R R<|zp (Ar R R R)<|zn<|?_
 refine zd R (fun c82 => ?_) (fun c82 => ?_)
 refine Af (by kernel_rfl)<|zm R R<|zp (Aj R R R (by omega) (by omega))<|za R R<|zn<|Af (by kernel_rfl)<|zm R R<|zp (Aj R R R (by omega) (by omega))<|za R R<|zn<|?_
 exact Al (k + 1) (by omega) (by omega) (fz ⟨sr, sr, sr, .same (sI (Ua (hqa.1 c74))), .same (sI (Ua (hqb.1 c82))), sr, sr, sr, trivial⟩) (gz ⟨R, trivial⟩)
 refine zi<|Af (by kernel_rfl)<|zm R R<|zp (Aj R R R (by omega) (by omega))<|za R R<|zn<|?_
 exact Al (k + 1) (by omega) (by omega) (fz ⟨sr, sr, sr, .same (sI (Ua (hqa.1 c74))), .same (sI (Xu (fun h => c82 (hqb.2 h)))), sr, sr, sr, trivial⟩) (gz ⟨R, trivial⟩)
 refine zi<|zr<|zm R R<|zm R R<|zp (Am R R R Cv (hx0))<|zp (Ay R R Ai)<|zm R R<|zp (Ar R R R)<|zn<|?_
 refine zd R (fun c82 => ?_) (fun c82 => ?_)
 refine Af (by kernel_rfl)<|zm R R<|zp (Aj R R R (by omega) (by omega))<|za R R<|zn<|Af (by kernel_rfl)<|zm R R<|zp (Aj R R R (by omega) (by omega))<|za R R<|zn<|?_
 exact Al (k + 1) (by omega) (by omega) (fz ⟨sr, sr, sr, .same (sI (Xu (fun h => c74 (hqa.2 h)))), .same (sI (Ua (hqb.1 c82))), sr, sr, sr, trivial⟩) (gz ⟨R, trivial⟩)
 refine zi<|Af (by kernel_rfl)<|zm R R<|zp (Aj R R R (by omega) (by omega))<|za R R<|zn<|?_
 exact Al (k + 1) (by omega) (by omega) (fz ⟨sr, sr, sr, .same (sI (Xu (fun h => c74 (hqa.2 h)))), .same (sI (Xu (fun h => c82 (hqb.2 h)))), sr, sr, sr, trivial⟩) (gz ⟨R, trivial⟩)
 have hk0b : k = (Be (ckL (Ak (Ak v p a).1 p b).1 p.len)).length := by omega
 have hke : k = (Be (ckL (Ak (Ak v p a).1 p b).1 p.len)).length := by omega
 refine Ap<|zs<|zr<|za R R<|zn<|Ah<|?_
 refine Aw (α := Nat) (fun j => j ≤ (Ak (Ak v p a).1 p b).1.tups.length ∧ ∀ (i : Nat) t, i < j → (Ak (Ak v p a).1 p b).1.tups[i]? = some t → ¬ Dn t (Bs (Be (ckL (Ak (Ak v p a).1 p b).1 p.len)) a) (Bs (Be (ckL (Ak (Ak v p a).1 p b).1 p.len)) b)) (fun j => mkF [(8, .ptr 8 0 0), (9, .d (dI ((Bs (Be (ckL (Ak (Ak v p a).1 p b).1 p.len)) a) : Nat))), (10, .d (dI ((Bs (Be (ckL (Ak (Ak v p a).1 p b).1 p.len)) b) : Nat))), (14, .d (dI j))]) (fun j => mkH [(8, .box ((Vo.c (Ak (Ak v p a).1 p b).1).map S.d))]) (fun j => (((Ak (Ak v p a).1 p b).1).tups).length - j) (0) (⟨Nat.zero_le _, fun i t hi => absurd hi (Nat.not_lt_zero _)⟩) ?_ ?_ ?_
 exact fz ⟨sr, .same (sI (by unfold mn; omega)), .same (sI (by unfold mn; omega)), sr, trivial⟩
 exact gz ⟨R, trivial⟩
 intro j hk2
 obtain ⟨hk, hno⟩ := hk2
 refine zs<|zr<|zm R R<|zp (Ab R R Bz)<|zp (Aa R R B5 R R)<|XL.len R R R Tryz.underlying23 fun hl88=>zp (Ar R R R)<|zn<|?_
 refine zd R (fun c89 => ?_) (fun c89 => ?_)
 have hk2a : j < (((Ak (Ak v p a).1 p b).1).tups).length := by omega
 obtain ⟨x2, hx2⟩ := Av hk2a
 have hok := hT2 x2 (List.mem_of_getElem? hx2)
 unfold Tp.ok at hok
 have hst := Ajy (t := x2) (f := (Bs (Be (ckL (Ak (Ak v p a).1 p b).1 p.len)) a)) (l := (Bs (Be (ckL (Ak (Ak v p a).1 p b).1 p.len)) b)) (by omega)
 refine zi<|zs<|Ah<|zr<|za R R<|znr<|zp (Ab R R Bz)<|zp (Aa R R B5 R R)<|zm R R<|zp (Am R R R D7 (hx2))<|zp (Ae (s' := .d (.agg (Tp.c x2))) (Au R R B9 lb) (by kernel_rfl))<|XL.step R (A0 16 (l := [.d (dI 0), .d (dI 0), .d (dI 0), .d (dI 0)]) R Df (by kernel_rfl))<|?_
 refine XL.step R (Ag (l' := [.d (dI x2.first), .d (dI x2.count), .d (dI x2.actual), .d (dI x2.normal)]) R R R R Ep R lb (by kernel_rfl))<|zn<|zs<|zr<|zp (Ab R R Br)<|zp (Aa R R Ai R R)<|za R R<|zn<|Ah<|?_
 refine Aw (α := Nat) (fun m => (m : Int) ≤ x2.count) (fun m => mkF [(8, .ptr 8 0 0), (9, .d (dI ((Bs (Be (ckL (Ak (Ak v p a).1 p b).1 p.len)) a) : Nat))), (10, .d (dI ((Bs (Be (ckL (Ak (Ak v p a).1 p b).1 p.len)) b) : Nat))), (14, .d (dI j)), (15, .d (dI (inC x2.first (Bs (Be (ckL (Ak (Ak v p a).1 p b).1 p.len)) a) (Bs (Be (ckL (Ak (Ak v p a).1 p b).1 p.len)) b) (m : Nat)))), (16, .ptr 16 0 0), (17, .d (dI (x2.first + (m : Nat))))]) (fun m => mkH [(8, .box ((Vo.c (Ak (Ak v p a).1 p b).1).map S.d)), (16, .box ((Tp.c x2).map S.d))]) (fun m => x2.count.toNat - m) (0) (by omega) ?_ ?_ ?_
 exact fz ⟨sr, sr, sr, sr, .same (sI (by unfold inC; omega)), sr, .same (sI (by omega)), trivial⟩
 exact gz ⟨R, R, trivial⟩
 intro m hk4
 have hib := Aqz x2.first (Bs (Be (ckL (Ak (Ak v p a).1 p b).1 p.len)) a) (Bs (Be (ckL (Ak (Ak v p a).1 p b).1 p.len)) b) m (by omega)
 refine zs<|zr<|zm R R<|zp (Ab R R Br)<|zp (Aa R R Ai R R)<|zp (Ab R R Dc)<|zp (Aa R R Ai R R)<|zp (Aj R R R (by omega) (by omega))<|zp (Ar R R R)<|zn<|?_
 refine zd R (fun c105 => ?_) (fun c105 => ?_)
 refine zi<|zs<|Ah<|zr<|zm R R<|zm R R<|zp (Dp R R R)<|zm R R<|?_
 refine XL.dec 111 R (fun g111 => ?_) (fun g111 => ?_)
 refine zm R R<|zm R R<|zp (Ar R R R)<|zq R R R<|zn<|?_
 refine zd R (fun c115 => ?_) (fun c115 => ?_)
 refine Af (by kernel_rfl)<|zm R R<|zp (Aj R R R (by omega) (by omega))<|za R R<|zn<|Af (by kernel_rfl)<|zm R R<|zp (Aj R R R (by omega) (by omega))<|za R R<|zn<|?_
 exact Al (m + 1) (by omega) (by omega) (fz ⟨sr, sr, sr, sr, .same (sI (Ao2 (by omega) (by omega) (by omega))), sr, .same (sI (by omega)), trivial⟩) (gz ⟨R, R, trivial⟩)
 refine zi<|Af (by kernel_rfl)<|zm R R<|zp (Aj R R R (by omega) (by omega))<|za R R<|zn<|?_
 exact Al (m + 1) (by omega) (by omega) (fz ⟨sr, sr, sr, sr, .same (sI (Ajz (by omega) (by omega))), sr, .same (sI (by omega)), trivial⟩) (gz ⟨R, R, trivial⟩)
 refine zk 3 R<|zq R R R<|zn<|A3 (by kernel_rfl) R<|zi<|Af (by kernel_rfl)<|zm R R<|zp (Aj R R R (by omega) (by omega))<|za R R<|zn<|?_
 exact Al (m + 1) (by omega) (by omega) (fz ⟨sr, sr, sr, sr, .same (sI (Ajz (by omega) (by omega))), sr, .same (sI (by omega)), trivial⟩) (gz ⟨R, R, trivial⟩)
 have hme : (m : Int) = x2.count := by omega
 rw [hme] at hib
 rw [hme]
 refine Ap<|zr<|zm R R<|zp (A7 R R R)<|zm R R<|?_
 refine XL.dec 120 R (fun g120 => ?_) (fun g120 => ?_)
 refine zm R R<|zp (Ab R R Dc)<|zp (Aa R R Ai R R)<|zp (Ar R R R)<|zq R R R<|zn<|?_
 refine zd R (fun c125 => ?_) (fun c125 => ?_)
 refine zr<|zp (Ae (s' := .d (.agg [.v (.slice none 0 0), .v (.slice none 0 0)])) (Ac (Bc R Ca Bb R)) (by kernel_rfl))<|XL.step R (Ag (l' := [.d (.v (.slice none 0 0)), .d (.v (.slice none 0 0))]) R R R R Bo R lb (by kernel_rfl))<|za R R<|za R R<|za R R<|zn<|zt<|?_
 exact F0 R (RV.sub (RV.cells R R R At lb R) (.agg (.cons (.nil 13) (.cons (.nil 4) (.nil))))) (RV.tmp R R) (RV.tmp R R) (RV.tmp R R) (by first | exact r4v ((Et (by omega) hna (by omega)).trans ((Fj c45 c56).trans (Kl hx2 (by rw [hlf]; rw [hst]; omega)))) | exact r4v ((Et (by omega) hna (by omega)).trans ((Fj c45 c56).trans ((Kk (fun i t ht => by rw [hlf]; exact hno i t (by have := (List.getElem?_eq_some_iff.1 ht).1; omega) ht)).trans (by rw [hlf])))))
 refine zi<|Af (by kernel_rfl)<|zm R R<|zp (Aj R R R (by omega) (by omega))<|za R R<|zn<|?_
 exact Al (j + 1) (⟨by omega, fun i t hi ht => by by_cases e : i = j; (· subst e; rw [hx2] at ht; cases ht; rw [hst]; omega); (· exact hno i t (by omega) ht)⟩) (by omega) (fz ⟨sr, sr, sr, sr, trivial⟩) (gz ⟨rfl, trivial⟩)
 refine zk 4 R<|zq R R R<|zn<|A3 (by kernel_rfl) R<|zi<|Af (by kernel_rfl)<|zm R R<|zp (Aj R R R (by omega) (by omega))<|za R R<|zn<|?_
 exact Al (j + 1) (⟨by omega, fun i t hi ht => by by_cases e : i = j; (· subst e; rw [hx2] at ht; cases ht; rw [hst]; omega); (· exact hno i t (by omega) ht)⟩) (by omega) (fz ⟨sr, sr, sr, sr, trivial⟩) (gz ⟨rfl, trivial⟩)
 have hk2b : j = (((Ak (Ak v p a).1 p b).1).tups).length := by omega
 refine Ap<|zr<|zp (Ae (s' := .d (.agg (Vo.c (Ak (Ak v p a).1 p b).1))) (Ac (Ad R R At R lb)) (by kernel_rfl))<|zm R R<|zm R R<|XL.step R (Ag (l' := [.d (.sl 13 (((Ak (Ak v p a).1 p b).1).evs.map Ev.c)), .d (.sl 4 (((Ak (Ak v p a).1 p b).1).tups.map Tp.c))]) R R R R Bo R lb (by kernel_rfl))<|za R R<|za R R<|za R R<|zn<|zt<|?_
 exact F0 R (RV.cells R R R At lb R) (RV.tmp R R) (RV.tmp R R) (RV.tmp R R) (by first | exact r4v ((Et (by omega) hna (by omega)).trans ((Fj c45 c56).trans (Kl hx2 (by rw [hlf]; rw [hst]; omega)))) | exact r4v ((Et (by omega) hna (by omega)).trans ((Fj c45 c56).trans ((Kk (fun i t ht => by rw [hlf]; exact hno i t (by have := (List.getElem?_eq_some_iff.1 ht).1; omega) ht)).trans (by rw [hlf])))))
end Go.Proofs.YtcihalbakenleaaGreat
namespace Go.Proofs.YtcihalbakenleaaGreat
open Go.RowKit
theorem XL.rowq {P : Program} {n : Nat} {ops : Array Oper} {rest : List Oper} {K : Eo} {f : Fr} {h : Xh} {i : Nat} {e : TypeId} {sz : Nat} {l l' : List (List D)} (hi : h i = some (.row e sz l)) (he : l = l') (hr : XL P n ops rest K f (h.set i (.row e sz l'))) : XL P n ops rest K f h := by
 subst he
 have : h.set i (.row e sz l) = h := by
  funext j
  by_cases k : i = j
  ·subst k; rw [Xh.set_same, hi]
  ·rw [Xh.set_ne _ _ k]
 rwa [this] at hr
end Go.Proofs.YtcihalbakenleaaGreat
namespace Go.Proofs.YtcihalbakenleaaGreat
open Go.RowKit
theorem An7 {v : Vo} {p : Pl} {a b : Int} {d : Vo} {f l : Nat} {e : Int} (hF : v.fit) (hc : p.chk v = 0) (h : Gc v p a b = (d, (f : Int), (l : Int), e)) : XC Tryz.prog 86 [.agg (Vo.c v), .agg (Pl.c p), dI a, dI b] (fun r => r = .tup [.agg (Vo.c d), dI (f : Nat), dI (l : Nat), dI e]) := by
 have := Agq v p a b hF hc
 rw [h] at this
 exact this
theorem Aoj (v : Vo) (p : Pl) (a b : Int) (hF : v.fit) (hc : p.chk v = 0) : XC Tryz.prog 40 [.agg (Vo.c v), .agg (Pl.c p), .v (.int .i64 a), .v (.int .i64 b)] (fun r => r = .tup [.agg (Vo.c (N8 v p a b).1), dI (N8 v p a b).2]) := by
 obtain ⟨d, f, l, e, hreg, hok⟩ := Yp v p a b
 refine An Aej Tryz.func40 R R lb<|zr<|XL.step R (As 4 (l := [.d (.sl 13 (v.evs.map Ev.c)), .d (.sl 4 (v.tups.map Tp.c))]) R R (by kernel_rfl))<|XL.step R (As 5 (l := [.d (dI p.m.count), .d (dI p.m.unit), .d (dI p.m.g0), .d (dI p.m.g1), .d (dI p.m.g2), .d (dI p.m.g3), .d (dI p.m.g4), .d (dI p.m.g5), .d (dI p.off), .d (dI p.len)]) R R (by kernel_rfl))<|?_
 refine XL.step R (A0 8 (l := [.d (.v (.slice none 0 0)), .d (.v (.slice none 0 0))]) R Bb (by kernel_rfl))<|za R R<|znr<|zp (Ae (s' := .d (.agg (Vo.c v))) (Ac (Ad R R At R lb)) (by kernel_rfl))<|zp (Ae (s' := .d (.agg (Pl.c p))) (Ac (Ad R R Acl R lb)) (by kernel_rfl))<|zm R R<|zm R R<|XL.call1 R R (An7 hF hc hreg) R<|zm R R<|?_
 refine zp (Ba R R R)<|zp (Ba R R R)<|zp (Ba R R R)<|zp (Ba R R R)<|XL.step R (A0 10 (l := [.d (.v (.slice none 0 0)), .d (.v (.slice none 0 0))]) R Bb (by kernel_rfl))<|XL.step R (Ag (l' := [.d (.sl 13 (d.evs.map Ev.c)), .d (.sl 4 (d.tups.map Tp.c))]) R R R R Bo R lb (by kernel_rfl))<|za R R<|za R R<|za R R<|zn<|zs<|zr<|zm R R<|zp (Bf R R R)<|?_
 refine zn<|?_
 refine zd R (fun c28 => ?_) (fun c28 => ?_)
 refine zr<|zp (Ae (s' := .d (.agg [.v (.slice none 0 0), .v (.slice none 0 0)])) (Ac (Bc R Ca Bb R)) (by kernel_rfl))<|zm R R<|XL.step R (Ag (l' := [.d (.v (.slice none 0 0)), .d (.v (.slice none 0 0))]) R R R R Bo R lb (by kernel_rfl))<|za R R<|zn<|zt<|?_
 exact Bl R (RV.sub (RV.cells R R R At lb R) (.agg (.cons (.nil 13) (.cons (.nil 4) (.nil))))) (RV.tmp R R) (r2v (Ark hreg c28))
 refine zi<|zs<|?_
 have hO := hok (by omega)
 have hFd := hO.fit hF
 obtain ⟨hsd, hdl⟩ := Ks (Es hO.chk).2.2
 have hfl := hO.fl
 have hll := hO.ll
 have hdt := hsd.tups
 refine Af (by kernel_rfl)<|XL.step R (A0 14 (l := [.d (.v (.slice none 0 0)), .d (.v (.slice none 0 0))]) R Bb (by kernel_rfl))<|zn<|zs<|C0 7 [] (by kernel_rfl) (by kernel_rfl) (by kernel_rfl) (by kernel_rfl) (by decide)<|yp (Ab R R A5)<|yp (Aa R R Bw R R)<|yp (Ab R R A5)<|yp (Aa R R Bw R R)<|ym R R<|ym R R<|?_
 refine yp (Ek R R Cy (Bd.at R) (Bd.at R) (by omega) (by omega))<|?_
 refine ChK.nil ⟨by kernel_rfl, ?_⟩
 refine XL.step R (A4 R Du (.nil 38 _ _) (Src.sl (by omega)) (by simp only [List.length_append, List.length_map, List.length_take, List.length_drop, List.length_nil]; unfold maxLen; omega) (by simp only [List.length_append, List.length_map, List.length_take, List.length_drop, List.length_nil]; omega))<|?_
 refine XL.rowq (i := 38) (l' := ((d.evs.take (l : Nat)).drop (f : Nat)).map Ev.c) R (by rw [List.nil_append])<|zp (Ab R R A5)<|XL.step R (Ag (l' := [.own 38, .d (.v (.slice none 0 0))]) R R R R Tl R lb (by kernel_rfl))<|zn<|zs<|zr<|za R R<|zn<|Ah<|Lt 901 14 1 102 4 (l' := [.own 38, .own 901]) R R (by decide) (by kernel_rfl)<|?_
 refine Aw (α := Nat) (fun k => k ≤ d.tups.length) (fun k => mkF [(8, .ptr 8 0 0), (9, .d (dI 0)), (10, .ptr 10 0 0), (11, .d (dI (f : Nat))), (12, .d (dI (l : Nat))), (14, .ptr 14 0 0), (15, .d (dI k))]) (fun k => mkH [(8, .box [.d (.v (.slice none 0 0)), .d (.v (.slice none 0 0))]), (10, .box ((Vo.c d).map S.d)), (14, .box [.own 38, .own 901]), (38, .row 60 13 (((d.evs.take (l : Nat)).drop (f : Nat)).map Ev.c)), (901, .row 102 4 ((C4 (fun t => decide (((f : Nat) : Int) ≤ t.first ∧ t.first < ((l : Nat) : Int))) (-(f : Nat)) (d.tups.take k)).map Tp.c))]) (fun k => d.tups.length - k) (0) (Nat.zero_le _) ?_ ?_ ?_
 exact fz ⟨sr, sr, sr, sr, sr, sr, sr, trivial⟩
 exact gz ⟨R, R, R, R, R, trivial⟩
 intro k hk0
 refine zs<|zr<|zm R R<|zp (Ab R R Bz)<|zp (Aa R R B5 R R)<|XL.len R R R Tryz.underlying23 fun hl43=>zp (Ar R R R)<|zn<|?_
 refine zd R (fun c44 => ?_) (fun c44 => ?_)
 have hk0a : k < d.tups.length := by omega
 obtain ⟨x0, hx0⟩ := Av hk0a
 have hml := H4 (fun t => decide (((f : Nat) : Int) ≤ t.first ∧ t.first < ((l : Nat) : Int))) (-(f : Nat)) (d.tups.take k)
 have htl : (d.tups.take k).length ≤ d.tups.length := List.length_take_le' _ _
 have hb := hsd.bd x0 (List.mem_of_getElem? hx0)
 refine zi<|zs<|Ah<|zr<|zp (Ab R R Bz)<|zp (Aa R R B5 R R)<|zm R R<|zp (Am R R R D7 hx0)<|zp (Ae (s' := .d (.agg (Tp.c x0))) (Au R R B9 lb) (by kernel_rfl))<|XL.step R (A0 16 (l := [.d (dI 0), .d (dI 0), .d (dI 0), .d (dI 0)]) R Df (by kernel_rfl))<|?_
 refine XL.step R (Ag (l' := [.d (dI x0.first), .d (dI x0.count), .d (dI x0.actual), .d (dI x0.normal)]) R R R R Ep R lb (by kernel_rfl))<|znr<|zp (Ab R R Br)<|zp (Aa R R Ai R R)<|zm R R<|zp (Dp R R R)<|zm R R<|?_
 refine XL.dec 56 R (fun g56 => ?_) (fun g56 => ?_)
 refine zp (Ab R R Br)<|zp (Aa R R Ai R R)<|zm R R<|zp (Ar R R R)<|zq R R R<|zn<|?_
 refine zd R (fun c61 => ?_) (fun c61 => ?_)
 refine zr<|zp (Ab R R Br)<|zp (Aa R R Ai R R)<|zm R R<|zp (Do R R R (by omega) (by omega))<|zp (Ab R R Br)<|XL.step R (Ag (l' := [.d (dI (x0.first - (f : Nat))), .d (dI x0.count), .d (dI x0.actual), .d (dI x0.normal)]) R R R R Cw R lb (by kernel_rfl))<|zng<|zp (Ab R R Bz)<|zp (Aa R R B5 R R)<|?_
 refine zp (Ae (s' := .d (.agg [dI (x0.first - (f : Nat)), dI x0.count, dI x0.actual, dI x0.normal])) (Ac (Ad R R B9 R lb)) (by kernel_rfl))<|XL.step R (Bg 70 R Tryz.underlying23 Ep Df R R (by omega) (by omega))<|?_
 refine XL.step R (A4 R G6 (.own R) (Src.own R) (by simp only [List.length_append, List.length_map, List.length_cons, List.length_nil]; unfold maxLen; omega) (by simp only [List.length_append, List.length_map, List.length_cons, List.length_nil]; omega))<|zp (Ab R R Bz)<|XL.step R (Ag (l' := [.own 38, .own 901]) R R R R G7 R lb (by kernel_rfl))<|zn<|?_
 refine Af (by kernel_rfl)<|zm R R<|zp (Aj R R R (by omega) (by omega))<|za R R<|zn<|?_
 exact Al (k + 1) (by omega) (by omega) (fz ⟨sr, sr, sr, sr, sr, sr, sr, trivial⟩) (gz ⟨R, R, R, R, Ec R (Wg hx0 (decide_eq_true ⟨g56, c61⟩)), trivial⟩)
 refine zi<|Af (by kernel_rfl)<|zm R R<|zp (Aj R R R (by omega) (by omega))<|za R R<|zn<|?_
 exact Al (k + 1) (by omega) (by omega) (fz ⟨sr, sr, sr, sr, sr, sr, sr, trivial⟩) (gz ⟨R, R, R, R, Agp (Pf hx0 (fun h => c61 (of_decide_eq_true h).2)).symm, trivial⟩)
 refine zk 4 R<|zq R R R<|zn<|A3 (by kernel_rfl) R<|zi<|Af (by kernel_rfl)<|zm R R<|zp (Aj R R R (by omega) (by omega))<|za R R<|zn<|?_
 exact Al (k + 1) (by omega) (by omega) (fz ⟨sr, sr, sr, sr, sr, sr, sr, trivial⟩) (gz ⟨R, R, R, R, Agp (Pf hx0 (fun h => g56 (of_decide_eq_true h).1)).symm, trivial⟩)
 have hk0b : k = d.tups.length := by omega
 have ht : d.tups.take k = d.tups := by rw [hk0b, List.take_length]
 refine Ap<|zr<|zp (Ac (Ad R R At R lb))<|XL.step R (Ag (l' := [.own 38, .own 901]) R R R R Bo R lb (by kernel_rfl))<|za R R<|zn<|zt<|Bh (i := 38) R<|Bh (i := 901) R<|?_
 exact Bl R (RV.cells R R R At lb R) (RV.tmp R R) (by rw [ht, Arj hreg c28]; rfl)
end Go.Proofs.YtcihalbakenleaaGreat
namespace Go.Proofs.YtcihalbakenleaaGreat
open Go.RowKit
theorem Ass {v : Vo} {p : Pl} {a b : Int} (h : ¬ p.chk v = 0) : N8 v p a b = (⟨[], []⟩, p.chk v) := by
 have e := Ala (a := a) (b := b) h
 rw [N8, e, if_pos h]
theorem Aox (v : Vo) (p : Pl) (a b : Int) (hE : Evs v.evs) : XC Tryz.prog 9 [.agg (Vo.c v), .agg (Pl.c p), .agg [dI a, dI b]] (fun r => r = dB true) := by
 refine An Ah4 Tryz.func9 R R lb<|zr<|XL.step R (As 3 (l := [.d (.sl 13 (v.evs.map Ev.c)), .d (.sl 4 (v.tups.map Tp.c))]) R R (by kernel_rfl))<|XL.step R (As 4 (l := [.d (dI p.m.count), .d (dI p.m.unit), .d (dI p.m.g0), .d (dI p.m.g1), .d (dI p.m.g2), .d (dI p.m.g3), .d (dI p.m.g4), .d (dI p.m.g5), .d (dI p.off), .d (dI p.len)]) R R (by kernel_rfl))<|?_
 refine XL.step R (As 5 (l := [_, _]) R R R)<|za R R<|zn<|zs<|zr<|XL.call1 R R (S0) R<|zp (C9 R R)<|zm R R<|?_
 refine XL.bool 13 R (fun g13 => ?_) (fun g13 => ?_)
 exact zk 3 R<|zq R R R<|zn<|Aq (by kernel_rfl) R<|zr<|XL.call1 R R (S0) R<|za R R<|zn<|zt<|z1 R R (R)
 refine zp (Ae (s' := .d (.agg (Vo.c v))) (Ac (Ad R R At R lb)) (by kernel_rfl))<|XL.call1 R R (Aq4 _) R<|zp (B0 R R)<|zq R R R<|zn<|?_
 refine zd R (fun c17 => ?_) (fun c17 => ?_)
 exact zr<|XL.call1 R R (S0) R<|za R R<|zn<|zt<|z1 R R (R)
 refine zi<|zs<|?_
 have hfw := Decidable.not_not.1 c17
 have htl := hfw.2.2
 have hF := hfw.fit
 refine Af (by kernel_rfl)<|zp (Ae (s' := .d (.agg (Vo.c v))) (Ac (Ad R R At R lb)) (by kernel_rfl))<|zp (Ae (s' := .d (.agg (Pl.c p))) (Ac (Ad R R H0 R lb)) (by kernel_rfl))<|zp (E9 (k := 0) R R R Tryz.underlying62 Cw (by omega))<|zp (Aa R R Ai R R)<|zp (E9 (k := 1) R R R Tryz.underlying62 Cw (by omega))<|?_
 refine zp (Aa R R Ai R R)<|XL.call1 R R (Ari _ _ _ _ (by assumption) (by assumption)) R<|zm R R<|zp (Ba R R R)<|zp (Ba R R R)<|XL.step R (A0 7 (l := [.d (.v (.slice none 0 0)), .d (.v (.slice none 0 0))]) R Bb (by kernel_rfl))<|XL.step R (Ag (l' := [_, _]) R R R R Bo R lb R)<|za R R<|znr<|?_
 refine zp (Ae (s' := .d (.agg (Vo.c v))) (Ac (Ad R R At R lb)) (by kernel_rfl))<|zp (Ae (s' := .d (.agg (Pl.c p))) (Ac (Ad R R H0 R lb)) (by kernel_rfl))<|XL.call1 R R (Ahs _ _ (by assumption) (by omega)) R<|za R R<|znr<|XL.step R (A0 10 (l := [.d (.v (.slice none 0 0)), .d (.v (.slice none 0 0))]) R Bb (by kernel_rfl))<|zn<|zs<|zr<|?_
 refine zm R R<|zp (A1 R R R)<|zn<|?_
 refine zd R (fun c33 => ?_) (fun c33 => ?_)
 have hc0 : p.chk v = 0 := c33
 refine Af (by kernel_rfl)<|zp (Ae (s' := .d (.agg (Vo.c v))) (Ac (Ad R R At R lb)) (by kernel_rfl))<|zp (Ae (s' := .d (.agg (Pl.c p))) (Ac (Ad R R H0 R lb)) (by kernel_rfl))<|zp (E9 (k := 0) R R R Tryz.underlying62 Cw (by omega))<|zp (Aa R R Ai R R)<|zp (E9 (k := 1) R R R Tryz.underlying62 Cw (by omega))<|?_
 refine zp (Aa R R Ai R R)<|XL.call1 R R (Aoj _ _ _ _ (by assumption) (by assumption)) R<|zm R R<|zp (Ba R R R)<|zp (Ba R R R)<|XL.step R (Ag (l' := [_, _]) R R R R Bo R lb R)<|za R R<|znr<|zm R R<|zm R R<|zp (D5 (A1 R R R) (by first | rfl | rw [hd1]))<|zm R R<|zp (Ae (s' := .d (.agg [_, _])) (Ac (Ad R R At R lb)) R)<|?_
 refine zp (Ae (s' := .d (.agg [_, _])) (Ac (Ad R R At R lb)) R)<|XL.call1 R R (Aid (Zc _ _) (by first | rfl | rw [hd1])) R<|zp (Ae (s' := .d (dB true)) (A9 R R (by conv => lhs; whnf)) (R))<|?_
 exact za R R<|zn<|zt<|z1 R R (R)
 have hd1 := Ass (a := a) (b := b) c33
 refine zi<|zr<|zm R R<|zm R R<|zp (D5 (A1 R R R) (by first | rfl | rw [hd1]))<|zm R R<|zp (Ae (s' := .d (.agg [_, _])) (Ac (Ad R R At R lb)) R)<|zp (Sr (.agg (Vo.c ⟨[], []⟩)) (Ae (s' := .d (.agg [.v (.slice none 0 0), .v (.slice none 0 0)])) (Ac (Ad R R At R lb)) (by kernel_rfl)) (.agg (.cons (.nil 13) (.cons (.nil 4) (.nil)))))<|?_
 refine XL.call1 R R (Aid (Zc _ _) (by first | rfl | rw [hd1])) R<|zp (Ae (s' := .d (dB true)) (A9 R R (by conv => lhs; whnf)) (R))<|?_
 exact za R R<|zn<|zt<|z1 R R (R)
end Go.Proofs.YtcihalbakenleaaGreat
