/- Part 10 of what the statements need: lemmas and walks. -/
import Derived.Test.YtcihalbakenleaaGreatDv9
set_option linter.unusedVariables false
set_option maxRecDepth 20000
set_option maxHeartbeats 8000000
namespace Go.Proofs.YtcihalbakenleaaGreat
open Go.RowKit
theorem Mg (t : Tp) (n : Int) (ht : t.ok) : XC Tryz.prog 97 [.agg (Tp.c t), .v (.int .i64 n)] (fun r => r = dB (decide (t.has n))) := by
 have h2t := ht
 simp only [Tp.ok] at h2t
 refine An Ab3 Tryz.func97 R R lb<|zr<|XL.step R (As 2 (l := [.d (dI t.first), .d (dI t.count), .d (dI t.actual), .d (dI t.normal)]) R R (by kernel_rfl))<|za R R<|znr<|zp (Aa R R D3)<|zp (Ab R R Ai R R)<|zm R R<|zp (E4 R R R)<|zm R R<|?_
 refine XL.dec 9 R (fun g9 => ?_) (fun g9 => ?_)
 exact zm R R<|zp (Aa R R D3)<|zp (Ab R R Ai R R)<|zp (Aa R R F4)<|zp (Ab R R Ai R R)<|zp (Aj R R R (by omega) (by omega))<|zp (Aq R R R)<|zq R R R<|za R R<|zn<|zt<|z1 R R (rB (by rw [decide_eq_decide]; unfold Tp.has; omega))
 exact zk 7 R<|zq R R R<|za R R<|zn<|zt<|z1 R R (rB (by rw [eq_comm, decide_eq_false_iff_not]; unfold Tp.has; omega))
theorem Ahw (a b : Tp) : XC Tryz.prog 146 [.agg (Tp.c a), .agg (Tp.c b)] (fun r => r = dB (decide (¬ b.bef a))) := by
 refine An Z7 Tryz.func146 R R lb<|zr<|XL.step R (As 2 (l := [.d (dI a.first), .d (dI a.count), .d (dI a.actual), .d (dI a.normal)]) R R (by kernel_rfl))<|XL.step R (As 3 (l := [.d (dI b.first), .d (dI b.count), .d (dI b.actual), .d (dI b.normal)]) R R (by kernel_rfl))<|za R R<|znr<|zp (Aa R R D3)<|zp (Ab R R Ai R R)<|zp (Aa R R D3)<|?_
 refine zp (Ab R R Ai R R)<|zp (Aq R R R)<|zm R R<|?_
 refine XL.dec 10 R (fun g10 => ?_) (fun g10 => ?_)
 exact zk 12 R<|zq R R R<|za R R<|zn<|zt<|z1 R R (rB (by rw [eq_comm, decide_eq_true_iff]; unfold Tp.bef; omega))
 refine zp (Aa R R D3)<|zp (Ab R R Ai R R)<|zp (Aa R R D3)<|zp (Ab R R Ai R R)<|zp (Ay R R R)<|zm R R<|?_
 refine XL.dec 16 R (fun g16 => ?_) (fun g16 => ?_)
 exact zp (Aa R R F4)<|zp (Ab R R Ai R R)<|zp (Aa R R F4)<|zp (Ab R R Ai R R)<|zp (A5 R R R)<|zq R R R<|zq R R R<|za R R<|zn<|zt<|z1 R R (rB (by rw [decide_eq_decide]; unfold Tp.bef; omega))
 exact zk 5 R<|zq R R R<|zq R R R<|za R R<|zn<|zt<|z1 R R (rB (by rw [eq_comm, decide_eq_false_iff_not]; unfold Tp.bef; omega))
def Tp.inside (a b : Tp) : Prop := b.first ≤ a.first ∧ a.e ≤ b.e
instance (a b : Tp) : Decidable (a.inside b) := by unfold Tp.inside; exact inferInstance
theorem S0 (a b : Tp) (ha : a.ok) (hb : b.ok) : XC Tryz.prog 147 [.agg (Tp.c a), .agg (Tp.c b)] (fun r => r = dB (decide (a.inside b))) := by
 have h2a := ha
 have h2b := hb
 simp only [Tp.ok] at h2a
 simp only [Tp.ok] at h2b
 refine An Z6 Tryz.func147 R R lb<|zr<|XL.step R (As 2 (l := [.d (dI a.first), .d (dI a.count), .d (dI a.actual), .d (dI a.normal)]) R R (by kernel_rfl))<|XL.step R (As 3 (l := [.d (dI b.first), .d (dI b.count), .d (dI b.actual), .d (dI b.normal)]) R R (by kernel_rfl))<|za R R<|znr<|zp (Aa R R D3)<|zp (Ab R R Ai R R)<|zp (Aa R R D3)<|?_
 refine zp (Ab R R Ai R R)<|zp (E4 R R R)<|zm R R<|?_
 refine XL.dec 10 R (fun g10 => ?_) (fun g10 => ?_)
 refine zp (Aa R R D3)<|zp (Ab R R Ai R R)<|zp (Aa R R F4)<|zp (Ab R R Ai R R)<|zp (Aj R R R (by omega) (by omega))<|zp (Aa R R D3)<|zp (Ab R R Ai R R)<|zp (Aa R R F4)<|zp (Ab R R Ai R R)<|zp (Aj R R R (by omega) (by omega))<|zp (E4 R R R)<|zq R R R<|za R R<|zn<|?_
 exact zt<|z1 R R (rB (by rw [decide_eq_decide]; unfold Tp.inside Tp.e; omega))
 exact zk 11 R<|zq R R R<|za R R<|zn<|zt<|z1 R R (rB (by rw [eq_comm, decide_eq_false_iff_not]; unfold Tp.inside Tp.e; omega))
theorem Afp {l : List Tp} {k : Nat} (h : k ≤ l.length) : Lm l k = (l.take k).getLast? := by
 cases k with
 | zero => rfl
 | succ k =>
  rw [Ew, List.getLast?_eq_getElem?, List.length_take, Nat.min_eq_left h, Nat.add_sub_cancel, List.getElem?_take, if_pos (by omega)]
theorem Abi {l : List Tp} {k : Nat} {t : Tp} {n : Int} (h : k ≤ l.length) (hv : TV (l.take k) n) : Hq (Lm l k) t ↔ ¬ ∀ a ∈ l.take k, a.bef t := by
 rw [Afp h]; exact O8 hv.ord
theorem Anh {P : List Tp} {t : Tp} {e : Int} (hb : ∀ a ∈ P, a.bef t) (he : t.has e) : hits P e ≤ hits P t.first := by
 unfold hits
 rw [← List.countP_eq_length_filter, ← List.countP_eq_length_filter]
 refine List.countP_mono_left fun o ho hh => ?_
 have h7 := (hb o ho).first
 simp only [decide_eq_true_eq] at hh ⊢
 unfold Tp.has at hh he ⊢
 omega
theorem Ad9 {P s : List Tp} {t o : Tp} {n e : Int} (hr : Rep P s) (hv : TV P n) (hb : ∀ a ∈ P, a.bef t) (ho : o ∈ P) (h1 : t.has e) (h2 : o.has e) (h3 : ¬ t.inside o) : Dk t (Cm t s) :=
 (hr.over hv fun a ha => (hb a ha).first).2 (.inl ⟨o, ho, by unfold Tp.has at h1 h2; unfold Tp.e; omega, by have := (hb o ho).first; unfold Tp.inside at h3; omega⟩)
theorem Ad8 {P s : List Tp} {t : Tp} {n e : Int} (hr : Rep P s) (hv : TV P n) (hb : ∀ a ∈ P, a.bef t) (h1 : t.has e) (h2 : 3 ≤ hits P e) : Dk t (Cm t s) :=
 (hr.over hv fun a ha => (hb a ha).first).2 (.inr (Nat.le_trans h2 (Anh hb h1)))
theorem Ah2 {P s : List Tp} {t : Tp} {n : Int} (hr : Rep P s) (hv : TV P n) (hb : ∀ a ∈ P, a.bef t) (hi : t.inR n) (h : ∀ e : Nat, (e : Int) < n → t.has e → (∀ o ∈ P, o.has e → t.inside o) ∧ hits P e ≤ 2) : ¬ Dk t (Cm t s) := fun k => by
 have hi2 := hi
 unfold Tp.inR at hi2
 have hf : ((t.first.toNat : Nat) : Int) = t.first := by omega
 obtain ⟨h1, h2⟩ := h t.first.toNat (by omega) (by unfold Tp.has; omega)
 rcases (hr.over hv fun a ha => (hb a ha).first).1 k with ⟨o, ho, k1, k2⟩ | k
 ·have := h1 o ho (by have := (hb o ho).first; unfold Tp.has; unfold Tp.e at k1; omega)
  unfold Tp.inside at this; omega
 ·rw [hf] at h2; omega
theorem Q0 {P s : List Tp} {t : Tp} {n : Int} (hr : Rep P s) (hv : TV P n) (hb : ∀ a ∈ P, a.bef t) (hi : t.inR n) (ho : ¬ Dk t (Cm t s)) : TV (P ++ [t]) n ∧ Rep (P ++ [t]) (t :: Cm t s) :=
 ⟨(hv.step hi hb).2 fun k => ho ((hr.over hv fun a ha => (hb a ha).first).2 k), hr.snoc (fun a ha => (hb a ha).first) ho⟩
theorem Abs (l : List Tp) (n : Int) : XC Tryz.prog 112 [.sl 4 (l.map Tp.c), .v (.int .i64 n)] (fun r => r = dI (D5 l n)) := by
 refine An Aa0 Tryz.func112 R R lb<|zr<|za R R<|zn<|zs<|zr<|zm R R<|zp (Aq R R R)<|zm R R<|?_
 refine XL.dec 12 R (fun g12 => ?_) (fun g12 => ?_)
 exact zk 2 R<|zq R R R<|zn<|Ao (by kernel_rfl) R<|zr<|za R R<|zn<|zt<|z1 R R (rI (Wd (by omega)))
 refine zm R R<|zp (A5 R R R)<|zq R R R<|zn<|?_
 refine zd R (fun c15 => ?_) (fun c15 => ?_)
 exact zr<|za R R<|zn<|zt<|z1 R R (rI (Wd (by omega)))
 refine zi<|zs<|zr<|zm R R<|XL.len R R R Tryz.underlying98 fun hl17=>zp (A5 R R R)<|zn<|?_
 refine zd R (fun c18 => ?_) (fun c18 => ?_)
 exact zr<|za R R<|zn<|zt<|z1 R R (rI (Alc (by omega) (by omega) c18))
 refine zi<|zs<|zr<|za R R<|zn<|Ag<|?_
 refine Au (α := Nat) (fun k => k ≤ l.length ∧ TV (l.take k) n ∧ Rep (l.take k) (stk l k) ∧ Ep n (Lm l k) (stk l k) (l.drop k) = Ep n none [] l) (fun k => mkF [(0, .d (.sl 4 (l.map Tp.c))), (1, .d (dI n)), (5, .d (dI k))]) (fun k => mkH []) (fun k => l.length - k) (0) (⟨Nat.zero_le _, TV.nil n, Rep.nil, by rw [List.drop_zero]; rfl⟩) ?_ ?_ ?_
 exact fz ⟨sr, sr, sr, trivial⟩
 exact HSub.nil
 intro k hk0
 obtain ⟨hk, hv, hr, hgo⟩ := hk0
 refine zs<|zr<|zm R R<|zm R R<|XL.len R R R Tryz.underlying98 fun hl21=>zp (Aq R R R)<|zn<|?_
 refine zd R (fun c22 => ?_) (fun c22 => ?_)
 have hk0a : k < l.length := by omega
 obtain ⟨x0, hx0⟩ := Av hk0a
 refine zi<|zs<|Ag<|zr<|zm R R<|zm R R<|zp (Ak R R R Hi hx0)<|zp (Ae (s' := .d (.agg (Tp.c x0))) (At R R Eq lb) (by kernel_rfl))<|XL.step R (A7 6 (l := [.d (dI 0), .d (dI 0), .d (dI 0), .d (dI 0)]) R Ji (by kernel_rfl))<|?_
 refine XL.step R (Ah (l' := [.d (dI x0.first), .d (dI x0.count), .d (dI x0.actual), .d (dI x0.normal)]) R R R R Nq R lb (by kernel_rfl))<|zn<|zs<|zr<|zp (Aa R R F4)<|zp (Ab R R Ai R R)<|zp (Aq R R R)<|zm R R<|?_
 refine XL.dec 32 R (fun g32 => ?_) (fun g32 => ?_)
 refine zk 4 R<|zq R R R<|zm R R<|zk 3 R<|zq R R R<|zm R R<|zk 7 R<|zq R R R<|zm R R<|zk 3 R<|zq R R R<|zm R R<|zk 3 R<|zq R R R<|?_
 refine zm R R<|zk 3 R<|zq R R R<|zm R R<|zk 3 R<|zq R R R<|zm R R<|zk 5 R<|zq R R R<|zn<|Ao (by kernel_rfl) R<|zr<|za R R<|zn<|?_
 exact zt<|z1 R R (rI (Dn (by omega) (by omega) (by omega) (by rw [← hgo, Dc hx0 (by unfold Tp.inR; omega)])))
 refine zp (Aa R R F4)<|zp (Ab R R Ai R R)<|zm R R<|zp (A5 R R R)<|zq R R R<|zm R R<|?_
 refine XL.dec 38 R (fun g38 => ?_) (fun g38 => ?_)
 refine zk 3 R<|zq R R R<|zm R R<|zk 7 R<|zq R R R<|zm R R<|zk 3 R<|zq R R R<|zm R R<|zk 3 R<|zq R R R<|zm R R<|zk 3 R<|zq R R R<|?_
 exact zm R R<|zk 3 R<|zq R R R<|zm R R<|zk 5 R<|zq R R R<|zn<|Ao (by kernel_rfl) R<|zr<|za R R<|zn<|zt<|z1 R R (rI (Dn (by omega) (by omega) (by omega) (by rw [← hgo, Dc hx0 (by unfold Tp.inR; omega)])))
 refine zp (Aa R R D3)<|zp (Ab R R Ai R R)<|zp (Aq R R R)<|zq R R R<|zm R R<|?_
 refine XL.dec 43 R (fun g43 => ?_) (fun g43 => ?_)
 refine zk 7 R<|zq R R R<|zm R R<|zk 3 R<|zq R R R<|zm R R<|zk 3 R<|zq R R R<|zm R R<|zk 3 R<|zq R R R<|zm R R<|zk 3 R<|zq R R R<|?_
 exact zm R R<|zk 5 R<|zq R R R<|zn<|Ao (by kernel_rfl) R<|zr<|za R R<|zn<|zt<|z1 R R (rI (Dn (by omega) (by omega) (by omega) (by rw [← hgo, Dc hx0 (by unfold Tp.inR; omega)])))
 refine zp (Aa R R D3)<|zp (Ab R R Ai R R)<|zm R R<|zp (Aa R R F4)<|zp (Ab R R Ai R R)<|zp (Dj R R R (by omega) (by omega))<|zp (A5 R R R)<|zq R R R<|zm R R<|?_
 refine XL.dec 52 R (fun g52 => ?_) (fun g52 => ?_)
 refine zk 3 R<|zq R R R<|zm R R<|zk 3 R<|zq R R R<|zm R R<|zk 3 R<|zq R R R<|zm R R<|zk 3 R<|zq R R R<|zm R R<|zk 5 R<|zq R R R<|?_
 exact zn<|Ao (by kernel_rfl) R<|zr<|za R R<|zn<|zt<|z1 R R (rI (Dn (by omega) (by omega) (by omega) (by rw [← hgo, Dc hx0 (by unfold Tp.inR; omega)])))
 refine zp (Aa R R J0)<|zp (Ab R R Ai R R)<|zp (Aq R R R)<|zq R R R<|zm R R<|?_
 refine XL.dec 57 R (fun g57 => ?_) (fun g57 => ?_)
 refine zk 3 R<|zq R R R<|zm R R<|zk 3 R<|zq R R R<|zm R R<|zk 3 R<|zq R R R<|zm R R<|zk 5 R<|zq R R R<|zn<|Ao (by kernel_rfl) R<|zr<|?_
 exact za R R<|zn<|zt<|z1 R R (rI (Dn (by omega) (by omega) (by omega) (by rw [← hgo, Dc hx0 (by unfold Tp.inR; omega)])))
 refine zp (Aa R R J0)<|zp (Ab R R Ai R R)<|zp (A5 R R R)<|zq R R R<|zm R R<|?_
 refine XL.dec 62 R (fun g62 => ?_) (fun g62 => ?_)
 exact zk 3 R<|zq R R R<|zm R R<|zk 3 R<|zq R R R<|zm R R<|zk 5 R<|zq R R R<|zn<|Ao (by kernel_rfl) R<|zr<|za R R<|zn<|zt<|z1 R R (rI (Dn (by omega) (by omega) (by omega) (by rw [← hgo, Dc hx0 (by unfold Tp.inR; omega)])))
 refine zp (Aa R R K8)<|zp (Ab R R Ai R R)<|zp (Aq R R R)<|zq R R R<|zm R R<|?_
 refine XL.dec 67 R (fun g67 => ?_) (fun g67 => ?_)
 exact zk 3 R<|zq R R R<|zm R R<|zk 5 R<|zq R R R<|zn<|Ao (by kernel_rfl) R<|zr<|za R R<|zn<|zt<|z1 R R (rI (Dn (by omega) (by omega) (by omega) (by rw [← hgo, Dc hx0 (by unfold Tp.inR; omega)])))
 refine zp (Aa R R K8)<|zp (Ab R R Ai R R)<|zp (A5 R R R)<|zq R R R<|zm R R<|?_
 refine XL.dec 72 R (fun g72 => ?_) (fun g72 => ?_)
 exact zk 5 R<|zq R R R<|zn<|Ao (by kernel_rfl) R<|zr<|za R R<|zn<|zt<|z1 R R (rI (Dn (by omega) (by omega) (by omega) (by rw [← hgo, Dc hx0 (by unfold Tp.inR; omega)])))
 refine zp (Aa R R J0)<|zp (Ab R R Ai R R)<|zp (Aa R R K8)<|zp (Ab R R Ai R R)<|zp (Ay R R R)<|zq R R R<|zn<|?_
 refine zd R (fun c78 => ?_) (fun c78 => ?_)
 exact zr<|za R R<|zn<|zt<|z1 R R (rI (Dn (by omega) (by omega) (by omega) (by rw [← hgo, Dc hx0 (by unfold Tp.inR; omega)])))
 have hin : x0.inR n := by unfold Tp.inR; omega
 have hok : x0.ok := hin.ok (by omega)
 refine zi<|zs<|zs<|?_
 by_cases q80 : (0 : Int) < (k : Int)
 obtain ⟨q, hq⟩ : ∃ q, l[k - 1]? = some q := Av (by omega)
 refine Bc [] (by kernel_rfl) (by kernel_rfl) (by kernel_rfl) (by decide)<|ym R R<|yp (Di (A5 R R R) (q80))<|ym R R<|yp (Ae (s' := .d (.agg (Tp.c x0))) (Ad (Ac R R Eq R lb)) (by kernel_rfl))<|ym R R<|ym R R<|yp (Dj R R R (by omega) (by omega))<|yp (F1 R R R (by omega) Hi (hq))<|?_
 refine yp (Ae (s' := .d (.agg (Tp.c q))) (At R R Eq lb) (by kernel_rfl))<|ChK.cons R (CStep.call R (Ahw _ _) R)<|yp (A6 R R (by conv => lhs; whnf))<|?_
 refine ChK.nil ⟨by kernel_rfl, ?_⟩
 refine zd R (fun c89 => ?_) (fun c89 => ?_)
 exact zr<|za R R<|zn<|zt<|z1 R R (rI (Dn (by omega) (by omega) (by omega) (by rw [← hgo, Q2 hx0 hin ((O9 (by omega) hq).2 (Decidable.not_not.1 fun hno => c89 ((Ug _ _).2 hno)))])))
 have hna : ¬ Hq (Lm l k) x0 := fun h => c89 (fun hbf => (Ug _ _).1 hbf ((O9 (by omega) hq).1 h))
 have hb := Decidable.not_not.1 (fun j => hna ((Abi (by omega) hv).2 j))
 refine zi<|zr<|za R R<|zn<|Ag<|?_
 refine Au (α := Nat) (fun m => (m : Int) ≤ n ∧ ∀ e : Nat, e < m → x0.has e → (∀ o ∈ l.take k, o.has e → x0.inside o) ∧ hits (l.take k) e ≤ 2) (fun m => mkF [(0, .d (.sl 4 (l.map Tp.c))), (1, .d (dI n)), (5, .d (dI k)), (6, .ptr 6 0 0), (7, .d (dI (m : Nat)))]) (fun m => mkH [(6, .box ((Tp.c x0).map S.d))]) (fun m => n.toNat - m) (0) (⟨by omega, fun e h => absurd h (Nat.not_lt_zero _)⟩) ?_ ?_ ?_
 exact fz ⟨sr, sr, sr, sr, sr, trivial⟩
 exact gz ⟨R, trivial⟩
 intro m hk2
 obtain ⟨hm, hall⟩ := hk2
 refine zs<|zr<|zm R R<|zm R R<|zp (Aq R R R)<|zn<|?_
 refine zd R (fun c92 => ?_) (fun c92 => ?_)
 refine zi<|zs<|Ag<|zr<|za R R<|zn<|zs<|zr<|za R R<|zn<|Ag<|?_
 refine Au (α := Nat) (fun j => j ≤ k ∧ (x0.has m → ∀ o ∈ l.take j, o.has m → x0.inside o)) (fun j => mkF [(0, .d (.sl 4 (l.map Tp.c))), (1, .d (dI n)), (5, .d (dI k)), (6, .ptr 6 0 0), (7, .d (dI (m : Nat))), (8, .d (dI (if x0.has m then (hits (l.take j) m : Int) else 0))), (9, .d (dI (j : Nat)))]) (fun j => mkH [(6, .box ((Tp.c x0).map S.d))]) (fun j => k - j) (0) (⟨Nat.zero_le _, fun _ o ho => (by cases ho)⟩) ?_ ?_ ?_
 exact fz ⟨sr, sr, sr, sr, sr, .same (sI (by split <;> rfl)), sr, trivial⟩
 exact gz ⟨R, trivial⟩
 intro j hk4
 obtain ⟨hj, hall4⟩ := hk4
 refine zs<|zr<|zm R R<|zm R R<|zp (Aq R R R)<|zn<|?_
 refine zd R (fun c97 => ?_) (fun c97 => ?_)
 have hjk2 : j < k := by omega
 obtain ⟨y, hy⟩ : ∃ y, l[j]? = some y := Av (by omega)
 have hym : y ∈ l.take k := List.mem_of_getElem? (by rw [List.getElem?_take, if_pos hjk2]; exact hy)
 have hyok := (hv.inR y hym).ok (by omega)
 have hhl := R9 (l.take j) m
 have htl : (l.take j).length ≤ j := List.length_take_le _ _
 refine zi<|zs<|Ag<|zs<|zr<|zp (Ae (s' := .d (.agg (Tp.c x0))) (Ad (Ac R R Eq R lb)) (by kernel_rfl))<|zm R R<|XL.call1 R R (Mg _ _ (by assumption)) R<|zp (Bp R R)<|zm R R<|?_
 refine XL.dec 104 R (fun g104 => ?_) (fun g104 => ?_)
 refine zk 7 R<|zq R R R<|zn<|Ao (by kernel_rfl) R<|Ap<|Af (by kernel_rfl)<|zm R R<|zp (Aj R R R (by omega) (by omega))<|za R R<|zn<|?_
 exact Al (j + 1) (⟨by omega, fun h => absurd h g104⟩) (by omega) (fz ⟨sr, sr, sr, sr, sr, .same (sI (by rw [if_neg g104, if_neg g104])), sr, trivial⟩) (gz ⟨rfl, trivial⟩)
 refine zm R R<|zm R R<|zp (Ak R R R Hi (hy))<|zp (Ae (s' := .d (.agg (Tp.c y))) (At R R Eq lb) (by kernel_rfl))<|zm R R<|XL.call1 R R (Mg _ _ (by assumption)) R<|zp (Bp R R)<|zq R R R<|zn<|?_
 refine zd R (fun c112 => ?_) (fun c112 => ?_)
 refine Ap<|Af (by kernel_rfl)<|zm R R<|zp (Aj R R R (by omega) (by omega))<|za R R<|zn<|?_
 exact Al (j + 1) (⟨by omega, fun h o ho hh => by rw [Bf hy] at ho; rcases List.mem_append.1 ho with q | q; (· exact hall4 h o q hh); (· rw [List.mem_singleton.1 q] at hh; exact absurd hh c112)⟩) (by omega) (fz ⟨sr, sr, sr, sr, sr, .same (sI (by rw [if_pos (Decidable.not_not.1 g104), if_pos (Decidable.not_not.1 g104), T9 hy c112])), sr, trivial⟩) (gz ⟨rfl, trivial⟩)
 refine zi<|zs<|?_
 have hd1 : (if x0.has m then (hits (l.take j) m : Int) else 0) ≤ 16 := by split <;> omega
 have hd0 : 0 ≤ (if x0.has m then (hits (l.take j) m : Int) else 0) := by split <;> omega
 refine Af (by kernel_rfl)<|zm R R<|zp (Aj R R R (by omega) (by omega))<|za R R<|zn<|zs<|Bc [] (by kernel_rfl) (by kernel_rfl) (by kernel_rfl) (by decide)<|yp (Ae (s' := .d (.agg (Tp.c x0))) (Ad (Ac R R Eq R lb)) (by kernel_rfl))<|ym R R<|ym R R<|yp (Ak R R R Hi (hy))<|yp (Ae (s' := .d (.agg (Tp.c y))) (At R R Eq lb) (by kernel_rfl))<|?_
 refine ChK.cons R (CStep.call R (S0 _ _ (by assumption) (by assumption)) R)<|yp (Bp R R)<|?_
 refine ChK.nil ⟨by kernel_rfl, ?_⟩
 refine zd R (fun c121 => ?_) (fun c121 => ?_)
 exact zr<|za R R<|zn<|zt<|z1 R R (rI (Dn (by omega) (by omega) (by omega) (by rw [← hgo, Eu hx0 hin hna (Ad9 hr hv hb hym (Decidable.not_not.1 g104) (Decidable.not_not.1 c112) c121)])))
 refine zi<|Af (by kernel_rfl)<|zm R R<|zp (Aj R R R (by omega) (by omega))<|za R R<|zn<|?_
 exact Al (j + 1) (⟨by omega, fun h o ho hh => by rw [Bf hy] at ho; rcases List.mem_append.1 ho with q | q; (· exact hall4 h o q hh); (· rw [List.mem_singleton.1 q]; exact Decidable.not_not.1 c121)⟩) (by omega) (fz ⟨sr, sr, sr, sr, sr, .same (sI (by rw [if_pos (Decidable.not_not.1 g104), if_pos (Decidable.not_not.1 g104), R8 hy (Decidable.not_not.1 c112)]; rfl)), sr, trivial⟩) (gz ⟨rfl, trivial⟩)
 have hjk : j = k := by omega
 refine Ap<|zr<|zm R R<|zp (D6 R R R)<|zn<|?_
 refine zd R (fun c123 => ?_) (fun c123 => ?_)
 exact zr<|za R R<|zn<|zt<|z1 R R (rI (Dn (by omega) (by omega) (by omega) (by rw [← hgo, Eu hx0 hin hna (by split at c123; (· rename_i hh; exact Ad8 hr hv hb hh (by rw [← hjk]; omega)); (· omega))])))
 refine zi<|Af (by kernel_rfl)<|zm R R<|zp (Aj R R R (by omega) (by omega))<|za R R<|zn<|?_
 exact Al (m + 1) (⟨by omega, fun e he hh => by by_cases q : e = m; (· subst q; rw [if_pos hh] at c123; exact ⟨fun o ho => hall4 hh o (by rw [hjk]; exact ho), by rw [← hjk]; omega⟩); (· exact hall e (by omega) hh)⟩) (by omega) (fz ⟨sr, sr, sr, sr, sr, trivial⟩) (gz ⟨rfl, trivial⟩)
 have hov := Ah2 hr hv hb hin (fun e he => hall e (by omega))
 refine Ap<|Af (by kernel_rfl)<|zm R R<|zp (Aj R R R (by omega) (by omega))<|za R R<|zn<|?_
 exact Al (k + 1) (⟨by omega, by rw [Bf hx0]; exact (Q0 hr hv hb hin hov).1, by rw [Bf hx0, B1 hx0]; exact (Q0 hr hv hb hin hov).2, by rw [Ew, hx0, B1 hx0, ← Fy hx0 hin hna hov]; exact hgo⟩) (by omega) (fz ⟨sr, sr, sr, trivial⟩) (HSub.nil)
 have hna := Tv (l := l) (t := x0) q80
 have hb := Decidable.not_not.1 (fun j => hna ((Abi (by omega) hv).2 j))
 refine Bc [] (by kernel_rfl) (by kernel_rfl) (by kernel_rfl) (by decide)<|ym R R<|yp (F9 (A5 R R R) (q80))<|ym R R<|ChK.skip R<|ChK.skip R<|ChK.skip R<|ChK.skip R<|ChK.skip R<|ChK.skip R<|ChK.skip R<|yp (A6 R R (by conv => lhs; whnf))<|?_
 refine ChK.nil ⟨by kernel_rfl, ?_⟩
 refine A3 (by kernel_rfl) R<|zi<|zr<|za R R<|zn<|Ag<|?_
 refine Au (α := Nat) (fun m => (m : Int) ≤ n ∧ ∀ e : Nat, e < m → x0.has e → (∀ o ∈ l.take k, o.has e → x0.inside o) ∧ hits (l.take k) e ≤ 2) (fun m => mkF [(0, .d (.sl 4 (l.map Tp.c))), (1, .d (dI n)), (5, .d (dI k)), (6, .ptr 6 0 0), (7, .d (dI (m : Nat)))]) (fun m => mkH [(6, .box ((Tp.c x0).map S.d))]) (fun m => n.toNat - m) (0) (⟨by omega, fun e h => absurd h (Nat.not_lt_zero _)⟩) ?_ ?_ ?_
 exact fz ⟨sr, sr, sr, sr, sr, trivial⟩
 exact gz ⟨R, trivial⟩
 intro m hk2
 obtain ⟨hm, hall⟩ := hk2
 refine zs<|zr<|zm R R<|zm R R<|zp (Aq R R R)<|zn<|?_
 refine zd R (fun c92 => ?_) (fun c92 => ?_)
 refine zi<|zs<|Ag<|zr<|za R R<|zn<|zs<|zr<|za R R<|zn<|Ag<|?_
 refine Au (α := Nat) (fun j => j ≤ k ∧ (x0.has m → ∀ o ∈ l.take j, o.has m → x0.inside o)) (fun j => mkF [(0, .d (.sl 4 (l.map Tp.c))), (1, .d (dI n)), (5, .d (dI k)), (6, .ptr 6 0 0), (7, .d (dI (m : Nat))), (8, .d (dI (if x0.has m then (hits (l.take j) m : Int) else 0))), (9, .d (dI (j : Nat)))]) (fun j => mkH [(6, .box ((Tp.c x0).map S.d))]) (fun j => k - j) (0) (⟨Nat.zero_le _, fun _ o ho => (by cases ho)⟩) ?_ ?_ ?_
 exact fz ⟨sr, sr, sr, sr, sr, .same (sI (by split <;> rfl)), sr, trivial⟩
 exact gz ⟨R, trivial⟩
 intro j hk4
 obtain ⟨hj, hall4⟩ := hk4
 refine zs<|zr<|zm R R<|zm R R<|zp (Aq R R R)<|zn<|?_
 refine zd R (fun c97 => ?_) (fun c97 => ?_)
 have hjk2 : j < k := by omega
 obtain ⟨y, hy⟩ : ∃ y, l[j]? = some y := Av (by omega)
 have hym : y ∈ l.take k := List.mem_of_getElem? (by rw [List.getElem?_take, if_pos hjk2]; exact hy)
 have hyok := (hv.inR y hym).ok (by omega)
 have hhl := R9 (l.take j) m
 have htl : (l.take j).length ≤ j := List.length_take_le _ _
 refine zi<|zs<|Ag<|zs<|zr<|zp (Ae (s' := .d (.agg (Tp.c x0))) (Ad (Ac R R Eq R lb)) (by kernel_rfl))<|zm R R<|XL.call1 R R (Mg _ _ (by assumption)) R<|zp (Bp R R)<|zm R R<|?_
 refine XL.dec 104 R (fun g104 => ?_) (fun g104 => ?_)
 refine zk 7 R<|zq R R R<|zn<|Ao (by kernel_rfl) R<|Ap<|Af (by kernel_rfl)<|zm R R<|zp (Aj R R R (by omega) (by omega))<|za R R<|zn<|?_
 exact Al (j + 1) (⟨by omega, fun h => absurd h g104⟩) (by omega) (fz ⟨sr, sr, sr, sr, sr, .same (sI (by rw [if_neg g104, if_neg g104])), sr, trivial⟩) (gz ⟨rfl, trivial⟩)
 refine zm R R<|zm R R<|zp (Ak R R R Hi (hy))<|zp (Ae (s' := .d (.agg (Tp.c y))) (At R R Eq lb) (by kernel_rfl))<|zm R R<|XL.call1 R R (Mg _ _ (by assumption)) R<|zp (Bp R R)<|zq R R R<|zn<|?_
 refine zd R (fun c112 => ?_) (fun c112 => ?_)
 refine Ap<|Af (by kernel_rfl)<|zm R R<|zp (Aj R R R (by omega) (by omega))<|za R R<|zn<|?_
 exact Al (j + 1) (⟨by omega, fun h o ho hh => by rw [Bf hy] at ho; rcases List.mem_append.1 ho with q | q; (· exact hall4 h o q hh); (· rw [List.mem_singleton.1 q] at hh; exact absurd hh c112)⟩) (by omega) (fz ⟨sr, sr, sr, sr, sr, .same (sI (by rw [if_pos (Decidable.not_not.1 g104), if_pos (Decidable.not_not.1 g104), T9 hy c112])), sr, trivial⟩) (gz ⟨rfl, trivial⟩)
 refine zi<|zs<|?_
 have hd1 : (if x0.has m then (hits (l.take j) m : Int) else 0) ≤ 16 := by split <;> omega
 have hd0 : 0 ≤ (if x0.has m then (hits (l.take j) m : Int) else 0) := by split <;> omega
 refine Af (by kernel_rfl)<|zm R R<|zp (Aj R R R (by omega) (by omega))<|za R R<|zn<|zs<|Bc [] (by kernel_rfl) (by kernel_rfl) (by kernel_rfl) (by decide)<|yp (Ae (s' := .d (.agg (Tp.c x0))) (Ad (Ac R R Eq R lb)) (by kernel_rfl))<|ym R R<|ym R R<|yp (Ak R R R Hi (hy))<|yp (Ae (s' := .d (.agg (Tp.c y))) (At R R Eq lb) (by kernel_rfl))<|?_
 refine ChK.cons R (CStep.call R (S0 _ _ (by assumption) (by assumption)) R)<|yp (Bp R R)<|?_
 refine ChK.nil ⟨by kernel_rfl, ?_⟩
 refine zd R (fun c121 => ?_) (fun c121 => ?_)
 exact zr<|za R R<|zn<|zt<|z1 R R (rI (Dn (by omega) (by omega) (by omega) (by rw [← hgo, Eu hx0 hin hna (Ad9 hr hv hb hym (Decidable.not_not.1 g104) (Decidable.not_not.1 c112) c121)])))
 refine zi<|Af (by kernel_rfl)<|zm R R<|zp (Aj R R R (by omega) (by omega))<|za R R<|zn<|?_
 exact Al (j + 1) (⟨by omega, fun h o ho hh => by rw [Bf hy] at ho; rcases List.mem_append.1 ho with q | q; (· exact hall4 h o q hh); (· rw [List.mem_singleton.1 q]; exact Decidable.not_not.1 c121)⟩) (by omega) (fz ⟨sr, sr, sr, sr, sr, .same (sI (by rw [if_pos (Decidable.not_not.1 g104), if_pos (Decidable.not_not.1 g104), R8 hy (Decidable.not_not.1 c112)]; rfl)), sr, trivial⟩) (gz ⟨rfl, trivial⟩)
 have hjk : j = k := by omega
 refine Ap<|zr<|zm R R<|zp (D6 R R R)<|zn<|?_
 refine zd R (fun c123 => ?_) (fun c123 => ?_)
 exact zr<|za R R<|zn<|zt<|z1 R R (rI (Dn (by omega) (by omega) (by omega) (by rw [← hgo, Eu hx0 hin hna (by split at c123; (· rename_i hh; exact Ad8 hr hv hb hh (by rw [← hjk]; omega)); (· omega))])))
 refine zi<|Af (by kernel_rfl)<|zm R R<|zp (Aj R R R (by omega) (by omega))<|za R R<|zn<|?_
 exact Al (m + 1) (⟨by omega, fun e he hh => by by_cases q : e = m; (· subst q; rw [if_pos hh] at c123; exact ⟨fun o ho => hall4 hh o (by rw [hjk]; exact ho), by rw [← hjk]; omega⟩); (· exact hall e (by omega) hh)⟩) (by omega) (fz ⟨sr, sr, sr, sr, sr, trivial⟩) (gz ⟨rfl, trivial⟩)
 have hov := Ah2 hr hv hb hin (fun e he => hall e (by omega))
 refine Ap<|Af (by kernel_rfl)<|zm R R<|zp (Aj R R R (by omega) (by omega))<|za R R<|zn<|?_
 exact Al (k + 1) (⟨by omega, by rw [Bf hx0]; exact (Q0 hr hv hb hin hov).1, by rw [Bf hx0, B1 hx0]; exact (Q0 hr hv hb hin hov).2, by rw [Ew, hx0, B1 hx0, ← Fy hx0 hin hna hov]; exact hgo⟩) (by omega) (fz ⟨sr, sr, sr, trivial⟩) (HSub.nil)
 have hk0b : k = l.length := by omega
 have hz : Ep n none [] l = 0 := by rw [← hgo, hk0b, List.drop_length]; rfl
 exact Ap<|zr<|za R R<|zn<|zt<|z1 R R (rI (Dn (by omega) (by omega) (by omega) hz.symm))
end Go.Proofs.YtcihalbakenleaaGreat
namespace Go.Proofs.YtcihalbakenleaaGreat
open Go.RowKit
theorem Aox {p : Prop} [Decidable p] (h : (!decide p) = true) : ¬ p := by simpa using h
theorem Aoy {p : Prop} [Decidable p] (h : (!decide p) = false) : ¬ ¬ p := by simpa using h
def Lx (n : Int) (p : Int × Int) (t : Tp) : Int × Int := if t.has n then (p.1 * t.normal, p.2 * t.actual) else p
def E6 (l : List Tp) (n w : Int) : Int × Int := l.foldl (Lx n) (w, 1)
theorem My (l : List Tp) (t : Tp) (n w : Int) : E6 (l ++ [t]) n w = Lx n (E6 l n w) t := by unfold E6; rw [List.foldl_append]; rfl
theorem Ru {l : List Tp} {k : Nat} {t : Tp} {n w : Int} (h : l[k]? = some t) (ht : t.has n) : E6 (l.take (k + 1)) n w = ((E6 (l.take k) n w).1 * t.normal, (E6 (l.take k) n w).2 * t.actual) := by rw [Bf h, My, Lx, if_pos ht]
theorem Ux {l : List Tp} {k : Nat} {t : Tp} {n w : Int} (h : l[k]? = some t) (ht : ¬ t.has n) : E6 (l.take (k + 1)) n w = E6 (l.take k) n w := by rw [Bf h, My, Lx, if_neg ht]
theorem Amv (l : List Tp) (n w : Int) (hw : 0 ≤ w) : (∀ t ∈ l, t.ok) → 0 ≤ (E6 l n w).1 ∧ (E6 l n w).1 ≤ w * 32 ^ hits l n ∧ 1 ≤ (E6 l n w).2 ∧ (E6 l n w).2 ≤ 32 ^ hits l n := by
 refine Kg (p := fun l => (∀ t ∈ l, t.ok) → 0 ≤ (E6 l n w).1 ∧ (E6 l n w).1 ≤ w * 32 ^ hits l n ∧ 1 ≤ (E6 l n w).2 ∧ (E6 l n w).2 ≤ 32 ^ hits l n) (fun _ => by simp [E6, hits]; omega) (fun l t ih hl => ?_) l
 obtain ⟨h1, h2, h3, h4⟩ := ih (fun t ht => hl t (List.mem_append_left _ ht))
 obtain ⟨_, _, _, _, q1, q2, q3, q4⟩ := hl t (List.mem_append_right _ (List.mem_singleton.2 rfl))
 rw [My, Hr, Lx]
 by_cases h : t.has n
 ·rw [if_pos h, if_pos h, Int.pow_succ, ← Int.mul_assoc]
  exact ⟨Int.mul_nonneg h1 (by omega), Int.mul_le_mul h2 q4 (by omega) (by omega), Int.le_trans h3 (Km (by omega) q1), Int.mul_le_mul h4 q2 (by omega) (by omega)⟩
 ·rw [if_neg h, if_neg h]; exact ⟨h1, h2, h3, h4⟩
theorem Ap8 {k : Nat} (h : k ≤ 3) : (32 : Int) ^ k ≤ 32768 := by
 match k, h with
 | 0, _ => decide
 | 1, _ => decide
 | 2, _ => decide
 | 3, _ => decide
 | k + 4, h => omega
theorem Aht {l : List Tp} {n w : Int} (hw : 0 ≤ w) (hw2 : w ≤ 7741440) (hl : ∀ t ∈ l, t.ok) (h : hits l n ≤ 3) : 0 ≤ (E6 l n w).1 ∧ (E6 l n w).1 ≤ 253671505920 ∧ 1 ≤ (E6 l n w).2 ∧ (E6 l n w).2 ≤ 32768 := by
 obtain ⟨h1, h2, h3, h4⟩ := Amv l n w hw hl
 have e := Ap8 h
 have e2 : w * 32 ^ hits l n ≤ 7741440 * 32768 := Int.mul_le_mul hw2 e (by omega) (by omega)
 omega
theorem Amt (l : List Tp) (n w : Int) : (∀ t ∈ l, t.ok) → ∃ g : Int, 0 < g ∧ E6 l n w = (w * (A1 l n).1 * g, (A1 l n).2 * g) := by
 refine Kg (p := fun l => (∀ t ∈ l, t.ok) → ∃ g : Int, 0 < g ∧ E6 l n w = (w * (A1 l n).1 * g, (A1 l n).2 * g)) (fun _ => ⟨1, by decide, by simp [E6, A1]⟩) (fun l t ih hl => ?_) l
 have hl' : ∀ t ∈ l, t.ok := fun t ht => hl t (List.mem_append_left _ ht)
 obtain ⟨g, hg, e⟩ := ih hl'
 obtain ⟨_, _, _, _, q1, q2, q3, q4⟩ := hl t (List.mem_append_right _ (List.mem_singleton.2 rfl))
 rw [My, Ll, Lx, Fs]
 by_cases h : t.has n
 ·rw [if_pos h, if_pos h, e]
  have hb := Pq l n hl'
  have e1 : 1 ≤ (A1 l n).1 * t.normal := Int.le_trans hb.1 (Km (by omega) q3)
  have e2 : 1 ≤ (A1 l n).2 * t.actual := Int.le_trans hb.2.2.1 (Km (by omega) q1)
  have hd := (Lo e1 e2).2.2.1
  have d1 := Int.mul_ediv_cancel' (Int.gcd_dvd_left ((A1 l n).1 * t.normal) ((A1 l n).2 * t.actual))
  have d2 := Int.mul_ediv_cancel' (Int.gcd_dvd_right ((A1 l n).1 * t.normal) ((A1 l n).2 * t.actual))
  generalize (Int.gcd ((A1 l n).1 * t.normal) ((A1 l n).2 * t.actual) : Int) = d at *
  refine ⟨g * d, Int.mul_pos hg (by omega), ?_⟩
  have f1 : w * ((A1 l n).1 * t.normal / d) * (g * d) = w * g * (d * ((A1 l n).1 * t.normal / d)) := by ac_rfl
  have f2 : ((A1 l n).2 * t.actual / d) * (g * d) = g * (d * ((A1 l n).2 * t.actual / d)) := by ac_rfl
  refine Prod.ext ?_ ?_
  ·show w * (A1 l n).1 * g * t.normal = w * ((A1 l n).1 * t.normal / d) * (g * d)
   rw [f1, d1]; ac_rfl
  ·show (A1 l n).2 * g * t.actual = ((A1 l n).2 * t.actual / d) * (g * d)
   rw [f2, d2]; ac_rfl
 ·rw [if_neg h, if_neg h]; exact ⟨g, hg, e⟩
theorem Amu {l : List Tp} {n w : Int} (hl : ∀ t ∈ l, t.ok) : (E6 l n w).1 / (E6 l n w).2 = w * (A1 l n).1 / (A1 l n).2 ∧ ((E6 l n w).1 % (E6 l n w).2 = 0 ↔ w * (A1 l n).1 % (A1 l n).2 = 0) := by
 obtain ⟨g, hg, e⟩ := Amt l n w hl
 rw [e]
 refine ⟨Int.mul_ediv_mul_of_pos_left _ _ hg, ?_⟩
 show w * (A1 l n).1 * g % ((A1 l n).2 * g) = 0 ↔ _
 rw [← Int.dvd_iff_emod_eq_zero, ← Int.dvd_iff_emod_eq_zero]
 exact Int.mul_dvd_mul_iff_right (by omega)
theorem Uy (l : List Tp) (f : Nat) (n w : Int) (hf : f ≤ l.length) (hl : ∀ t ∈ l.drop f, t.ok) (hh : hits (l.drop f) n ≤ 3) (hw : 0 ≤ w) (hw2 : w ≤ 7741440) (hlen : l.length ≤ 16) : XC Tryz.prog 113 [.sl 4 (l.map Tp.c), .v (.int .i64 (f : Nat)), .v (.int .i64 n), .v (.int .i64 w)] (fun r => r = .tup [dI (w * (A1 (l.drop f) n).1 / (A1 (l.drop f) n).2), dB (decide (w * (A1 (l.drop f) n).1 % (A1 (l.drop f) n).2 = 0))]) := by
 have hdl : (l.drop f).length = l.length - f := List.length_drop
 refine An Aaz Tryz.func113 R R lb<|zr<|za R R<|za R R<|znr<|zm R R<|za R R<|za R R<|zn<|zs<|zr<|zm R R<|za R R<|zn<|?_
 refine Ag<|?_
 refine Au (α := Nat) (fun j => j ≤ (l.drop f).length) (fun j => mkF [(0, .d (.sl 4 (l.map Tp.c))), (2, .d (dI n)), (8, .d (dI 0)), (9, .d (dB false)), (10, .d (dI (E6 ((l.drop f).take j) n w).1)), (11, .d (dI (E6 ((l.drop f).take j) n w).2)), (12, .d (dI (f + j : Nat)))]) (fun j => mkH []) (fun j => (l.drop f).length - j) (0) (Nat.zero_le _) ?_ ?_ ?_
 exact fz ⟨sr, sr, sr, sr, sr, sr, sr, trivial⟩
 exact HSub.nil
 intro j hk0
 refine zs<|zr<|zm R R<|zm R R<|XL.len R R R Tryz.underlying98 fun hl17=>zp (Aq R R R)<|zn<|?_
 refine zd R (fun c18 => ?_) (fun c18 => ?_)
 have hjl : j < (l.drop f).length := by omega
 obtain ⟨y, hy⟩ := Av hjl
 have hly : l[f + j]? = some y := by rw [← List.getElem?_drop]; exact hy
 have hok : y.ok := hl y (List.mem_of_getElem? hy)
 have hb := Aht (n := n) hw hw2 (T3 hl (j + 1)) (Nat.le_trans (M6 _ (j + 1) n) hh)
 refine zi<|zs<|Ag<|zr<|zm R R<|zm R R<|zp (Ak R R R Hi (hly))<|zp (Ae (s' := .d (.agg (Tp.c y))) (At R R Eq lb) (by kernel_rfl))<|zm R R<|XL.call1 R R (Mg _ _ (by assumption)) R<|zn<|?_
 refine zd R (fun c26 => ?_) (fun c26 => ?_)
 rw [Ru hy c26] at hb
 simp only at hb
 refine Bc [] (by kernel_rfl) (by kernel_rfl) (by kernel_rfl) (by decide)<|ym R R<|ym R R<|ym R R<|yp (Ak R R R Hi (hly))<|yp (Bg R R K8)<|yp (Ax R R Ai)<|yp (Gy R R R (by omega) (by omega))<|ym R R<|ym R R<|ym R R<|yp (Ak R R R Hi (hly))<|yp (Bg R R J0)<|yp (Ax R R Ai)<|?_
 refine yp (Gy R R R (by omega) (by omega))<|ya R R<|ya R R<|?_
 refine ChK.nil ⟨by kernel_rfl, ?_⟩
 refine Af (by kernel_rfl)<|zm R R<|zp (Aj R R R (by omega) (by omega))<|za R R<|zn<|?_
 exact Al (j + 1) (by omega) (by omega) (fz ⟨sr, sr, sr, sr, .same (sI (by rw [Ru hy c26])), .same (sI (by rw [Ru hy c26])), .same (sI (by omega)), trivial⟩) (HSub.nil)
 refine zi<|Af (by kernel_rfl)<|zm R R<|zp (Aj R R R (by omega) (by omega))<|za R R<|zn<|?_
 exact Al (j + 1) (by omega) (by omega) (fz ⟨sr, sr, sr, sr, .same (sI (by rw [Ux hy c26])), .same (sI (by rw [Ux hy c26])), .same (sI (by omega)), trivial⟩) (HSub.nil)
 have ht : (l.drop f).take j = l.drop f := List.take_of_length_le (by omega)
 rw [ht]
 have hb := Aht (n := n) hw hw2 hl hh
 have hd := Amu (n := n) (w := w) hl
 refine Ap<|zs<|Bc [] (by kernel_rfl) (by kernel_rfl) (by kernel_rfl) (by decide)<|ym R R<|ym R R<|yp (F0 R R R (by omega) (by omega) (by omega))<|ym R R<|ym R R<|yp (Dx R R R (by omega) (by omega))<|yp (Ay R R R)<|ya R R<|ya R R<|?_
 refine ChK.nil ⟨by kernel_rfl, ?_⟩
 refine zt<|?_
 exact Bj R (RV.tmp R R) (RV.tmp R R) (r2 (rI hd.1) (rB (by rw [decide_eq_decide]; exact hd.2)))
theorem Afe (l : List Tp) (n w : Int) (hl : ∀ t ∈ l, t.ok) (hh : hits l n ≤ 3) (hw : 0 ≤ w) (hw2 : w ≤ 7741440) (hlen : l.length ≤ 16) : XC Tryz.prog 113 [.sl 4 (l.map Tp.c), dI 0, dI n, dI w] (fun r => r = .tup [dI (w * (A1 l n).1 / (A1 l n).2), dB (decide (w * (A1 l n).1 % (A1 l n).2 = 0))]) := by
 have := Uy l 0 n w (Nat.zero_le _) hl hh hw hw2 hlen
 rw [List.drop_zero] at this; exact this
theorem St {l : List Tp} {n w : Int} (hw : 0 ≤ w) (hw2 : w ≤ 7741440) (h : ¬ w * (A1 l n).1 % (A1 l n).2 = 0) : Ds l n w = 16 := (T0 (by omega) (by omega) h).2.symm
theorem Ajt {l : List Tp} {n w : Int} (hw : 0 ≤ w) (hw2 : w ≤ 7741440) (h : ¬ ¬ w * (A1 l n).1 % (A1 l n).2 = 0) : Ds l n w = 0 ∧ Dr l n w = w * (A1 l n).1 / (A1 l n).2 := ⟨(Ql (by omega) (by omega) h).2.symm, (Ql (by omega) (by omega) h).1.symm⟩
theorem Pe (l : List Tp) (ws : List Int) : XC Tryz.prog 73 [.sl 4 (l.map Tp.c), .sl 1 (Bu ws)] (fun r => r = .tup [.sl 1 (Bu (G4 l ws)), dI (Cv l ws)]) := by
 refine An Ack Tryz.func73 R R lb<|zr<|za R R<|za R R<|zn<|zs<|zr<|zm R R<|zm R R<|XL.len R R R Tryz.underlying64 fun hl13=>XL.call1 R R (Abs _ _) R<|za R R<|znr<|zm R R<|?_
 refine zp (Bh R R R)<|zn<|?_
 refine zd R (fun c16 => ?_) (fun c16 => ?_)
 refine zr<|zm R R<|za R R<|za R R<|zn<|zt<|?_
 exact Bj R (RV.nil (sz := 1) R R) (RV.tmp R R) (r2 (rSl (Sp c16).1) (rI (Sp c16).2))
 refine zi<|zs<|?_
 have hT := Qf c16
 have hbd := hT.bd
 have hlen := hT.len
 refine Af (by kernel_rfl)<|za R R<|zn<|zs<|zr<|za R R<|zn<|Ag<|C0 900 7 3 1 R<|?_
 refine Au (α := Nat) (fun k => k ≤ ws.length ∧ Hy l k (ws.drop k) = Hy l 0 ws) (fun k => mkF [(0, .d (.sl 4 (l.map Tp.c))), (1, .d (.sl 1 (Bu ws))), (7, .own 900), (8, .d (dI k))]) (fun k => mkH [(900, .row 3 1 ((Cx l 0 (ws.take k)).map iv))]) (fun k => ws.length - k) (0) (⟨Nat.zero_le _, by rw [List.drop_zero]⟩) ?_ ?_ ?_
 exact fz ⟨sr, sr, sr, sr, trivial⟩
 exact gz ⟨R, trivial⟩
 intro k hk0
 obtain ⟨hk, hgo⟩ := hk0
 refine zs<|zr<|zm R R<|zm R R<|XL.len R R R Tryz.underlying64 fun hl20=>zp (Aq R R R)<|zn<|?_
 refine zd R (fun c21 => ?_) (fun c21 => ?_)
 have hk0a : k < ws.length := by omega
 obtain ⟨x0, hx0⟩ := Av hk0a
 have hll : (Cx l 0 (ws.take k)).length = k := by rw [H3, List.length_take]; omega
 refine zi<|zs<|Ag<|zs<|zr<|zm R R<|zm R R<|zp (Ak R R R Cy hx0)<|zp (Ax R R Ai)<|zp (Aq R R R)<|zm R R<|?_
 refine XL.dec 29 R (fun g29 => ?_) (fun g29 => ?_)
 refine zk 5 R<|zq R R R<|zn<|Ao (by kernel_rfl) R<|zr<|za R R<|za R R<|zn<|zt<|?_
 exact Bj R (RV.nil (sz := 1) R R) (RV.tmp R R) (r2 (rSl (K1 c16 (e := 2) (by rw [← hgo, Iq hx0 (by rw [← (G1 (l := l) (n := k) (w := x0) (.inl g29)).2]; decide), ← (G1 (l := l) (n := k) (w := x0) (.inl g29)).2]) (by decide)).1) (rI (K1 c16 (e := 2) (by rw [← hgo, Iq hx0 (by rw [← (G1 (l := l) (n := k) (w := x0) (.inl g29)).2]; decide), ← (G1 (l := l) (n := k) (w := x0) (.inl g29)).2]) (by decide)).2))
 refine zm R R<|zm R R<|zp (Ak R R R Cy hx0)<|zp (Ax R R Ai)<|zp (A5 R R R)<|zq R R R<|zn<|?_
 refine zd R (fun c35 => ?_) (fun c35 => ?_)
 refine zr<|za R R<|za R R<|zn<|zt<|?_
 exact Bj R (RV.nil (sz := 1) R R) (RV.tmp R R) (r2 (rSl (K1 c16 (e := 2) (by rw [← hgo, Iq hx0 (by rw [← (G1 (l := l) (n := k) (w := x0) (.inr c35)).2]; decide), ← (G1 (l := l) (n := k) (w := x0) (.inr c35)).2]) (by decide)).1) (rI (K1 c16 (e := 2) (by rw [← hgo, Iq hx0 (by rw [← (G1 (l := l) (n := k) (w := x0) (.inr c35)).2]; decide), ← (G1 (l := l) (n := k) (w := x0) (.inr c35)).2]) (by decide)).2))
 refine zi<|zs<|?_
 have hh := hT.hits k
 refine Af (by kernel_rfl)<|zm R R<|zm R R<|zm R R<|zm R R<|zp (Ak R R R Cy hx0)<|zp (Ax R R Ai)<|XL.call1 R R (Afe l k x0 hT.ok hh (by omega) (by omega) hlen) R<|zm R R<|zp (Be R R R)<|zp (Be R R R)<|za R R<|za R R<|zn<|?_
 refine zs<|zr<|zm R R<|zp (C3 R R)<|zn<|?_
 refine Du (by kernel_rfl) R (fun c47 => ?_) (fun c47 => ?_)
 have c47 := Aox c47
 refine zr<|za R R<|za R R<|zn<|zt<|?_
 exact Bj R (RV.nil (sz := 1) R R) (RV.tmp R R) (r2 (rSl (K1 c16 (e := 16) (by rw [← hgo, Iq hx0 (by rw [St (by omega) (by omega) c47]; decide), St (by omega) (by omega) c47]) (by decide)).1) (rI (K1 c16 (e := 16) (by rw [← hgo, Iq hx0 (by rw [St (by omega) (by omega) c47]; decide), St (by omega) (by omega) c47]) (by decide)).2))
 have c47 := Aoy c47
 refine zi<|Af (by kernel_rfl)<|zp (Ar R (by conv => lhs; whnf))<|?_
 refine zm R R<|XL.step R (A9 50 R Tryz.underlying64 C2 Ef R R (by omega) (by omega))<|XL.step R (Az R Gw (.own R) (Src.own R) (by unfold maxLen; simp; omega) (by simp; omega))<|zp (Am R (by conv => lhs; whnf))<|?_
 refine zn<|Af (by kernel_rfl)<|zm R R<|zp (Aj R R R (by omega) (by omega))<|za R R<|zn<|?_
 exact Al (k + 1) (⟨by omega, by rw [← Uu hx0 (by rw [(Ajt (by omega) (by omega) c47).1]; decide)]; exact hgo⟩) (by omega) (fz ⟨sr, sr, sr, sr, trivial⟩) (gz ⟨D9 (by rw [← (Ajt (l := l) (n := k) (by omega) (by omega) c47).2]; rfl) (Q8 hx0), trivial⟩)
 have hk0b : k = ws.length := by omega
 have hz : Hy l 0 ws = 0 := by rw [← hgo, hk0b, List.drop_length]; rfl
 have ht : ws.take k = ws := by rw [hk0b, List.take_length]
 refine Ap<|zr<|zp (Ar R (by conv => lhs; whnf))<|?_
 refine zp (Am R (by conv => lhs; whnf))<|?_
 refine za R R<|zn<|zt<|Ba (i := 900) R<|?_
 exact Bj R (RV.tmp R R) (RV.tmp R R) (r2 (rSl (by rw [ht]; exact (So c16 hz).1)) (rI (So c16 hz).2))
theorem Ak1 {f c e : Nat} (h : ¬ (f ≤ e ∧ e < f + c)) : min (e + 1 - f) c = min (e - f) c := by omega
theorem P6 {f c e : Nat} (h : f ≤ e ∧ e < f + c) : min (e - f) c = e - f ∧ min (e + 1 - f) c = e - f + 1 := by omega
theorem Ajz (l : List Tp) (i : Nat) (t : Tp) (ws : List Int) (ht : l[i]? = some t) (hT : Tups l ws.length) (hws : ∀ w ∈ ws, 0 ≤ w ∧ w ≤ 7741440) : XC Tryz.prog 98 [.sl 4 (l.map Tp.c), .v (.int .i64 i), .sl 1 (Bu ws)] (fun r => r = .tup [dI ((E9 (l.drop (i + 1)) t ws).getD 0), dB (E9 (l.drop (i + 1)) t ws).isSome]) := by
 have hin := hT.inR t (List.mem_of_getElem? ht)
 have hok := hT.ok t (List.mem_of_getElem? ht)
 have hbd := hT.bd
 have hlen := hT.len
 have hil := (List.getElem?_eq_some_iff.1 ht).1
 have hin2 := hin
 simp only [Tp.inR] at hin2
 obtain ⟨f, hf⟩ : ∃ f : Nat, t.first = f := ⟨t.first.toNat, by omega⟩
 obtain ⟨c, hc⟩ : ∃ c : Nat, t.count = c := ⟨t.count.toNat, by omega⟩
 have hf2 : t.first.toNat = f := by omega
 have hc2 : t.count.toNat = c := by omega
 have hsl : (Fq t ws).length = c := by rw [Fq, List.length_take, List.length_drop]; omega
 have hoks := Aea hT.ok (i + 1)
 have hhs : ∀ e, hits (l.drop (i + 1)) e ≤ 3 := fun e => Nat.le_trans (Vu _ _ e) (hT.hits e)
 refine An Ab2 Tryz.func98 R R lb<|zr<|za R R<|za R R<|znr<|za R R<|zn<|zs<|zr<|za R R<|zn<|Ag<|?_
 refine Au (α := Nat × Int) (fun p => p.1 ≤ ws.length ∧ Fa (l.drop (i + 1)) (f + min (p.1 - f) c) ((Fq t ws).drop (min (p.1 - f) c)) p.2 = Fa (l.drop (i + 1)) f (Fq t ws) 0 ∧ 0 ≤ p.2 ∧ p.2 ≤ (p.1 : Int) * 253671505920) (fun p => mkF [(0, .d (.sl 4 (l.map Tp.c))), (1, .d (dI i)), (2, .d (.sl 1 (Bu ws))), (8, .d (dI p.2)), (9, .d (dI (p.1 : Nat)))]) (fun p => mkH []) (fun p => ws.length - p.1) ((0, 0)) (⟨Nat.zero_le _, by rw [Nat.zero_sub, Nat.zero_min, List.drop_zero]; rfl, Int.le_refl _, by simp⟩) ?_ ?_ ?_
 exact fz ⟨sr, sr, sr, sr, sr, trivial⟩
 exact HSub.nil
 intro p hk0
 obtain ⟨hk, hgo, hs0, hs1⟩ := hk0
 refine zs<|zr<|zm R R<|zm R R<|XL.len R R R Tryz.underlying64 fun hl16=>zp (Aq R R R)<|zn<|?_
 refine zd R (fun c17 => ?_) (fun c17 => ?_)
 have hpl : p.1 < ws.length := by omega
 obtain ⟨w, hw⟩ : ∃ w, ws[p.1]? = some w := Av hpl
 have hwb := hws w (List.mem_of_getElem? hw)
 have hh := hhs (p.1 : Nat)
 have hsb := Rq (n := ((p.1 : Nat) : Int)) (w := w) hoks hh
 have hdl : (l.drop (i + 1)).length = l.length - (i + 1) := List.length_drop
 refine zi<|zs<|Ag<|zs<|zr<|zm R R<|zm R R<|zp (Ak R R R Hi (ht))<|zp (Ae (s' := .d (.agg (Tp.c t))) (At R R Eq lb) (by kernel_rfl))<|zm R R<|XL.call1 R R (Mg _ _ (by assumption)) R<|zp (Bp R R)<|zn<|?_
 refine zd R (fun c26 => ?_) (fun c26 => ?_)
 refine Ap<|Af (by kernel_rfl)<|zm R R<|zp (Aj R R R (by omega) (by omega))<|za R R<|zn<|?_
 exact Al ((p.1 + 1, p.2)) (⟨by simp only; omega, by rw [Ak1 (fun h => c26 (by unfold Tp.has; omega))]; exact hgo, hs0, by simp only; omega⟩) (by simp only; omega) (fz ⟨sr, sr, sr, sr, sr, trivial⟩) (HSub.nil)
 refine zi<|zs<|?_
 have hhas : f ≤ p.1 ∧ p.1 < f + c := by have := Decidable.not_not.1 c26; unfold Tp.has at this; omega
 refine Af (by kernel_rfl)<|zm R R<|zm R R<|zp (Ae (s' := .d (dI (i + 1 : Nat))) (Aj R R R (by omega) (by omega)) (sI (by omega)))<|zm R R<|zm R R<|zm R R<|zp (Ak R R R Cy (hw))<|zp (Ax R R Ai)<|XL.call1 R R (Uy l (i + 1) (p.1 : Nat) w (by omega) hoks hh hwb.1 hwb.2 hlen) R<|zm R R<|zp (Be R R R)<|zp (Be R R R)<|za R R<|?_
 refine za R R<|zn<|zs<|zr<|zm R R<|zp (C3 R R)<|zn<|?_
 refine Du (by kernel_rfl) R (fun c40 => ?_) (fun c40 => ?_)
 have c40 := Aox c40
 refine zr<|za R R<|za R R<|zn<|zt<|?_
 exact Bj R (RV.tmp R R) (RV.tmp R R) (On (Sk (by rw [hf2, ← hgo, (P6 hhas).1, show f + (p.1 - f) = p.1 by omega]; exact Sm (w := w) (by rw [Tz (by omega), hf2, show f + (p.1 - f) = p.1 by omega]; exact hw) (by rw [St hwb.1 hwb.2 c40]; decide))))
 have c40 := Aoy c40
 have hE0 := Ajt hwb.1 hwb.2 c40
 refine zi<|Af (by kernel_rfl)<|zm R R<|zm R R<|zp (Ae (s' := .d (dI (p.2 + w * (A1 (l.drop (i + 1)) (p.1 : Nat)).1 / (A1 (l.drop (i + 1)) (p.1 : Nat)).2))) (Aj R R R (by rw [hE0.2] at hsb; omega) (by rw [hE0.2] at hsb; omega)) (sI (R)))<|za R R<|zn<|Af (by kernel_rfl)<|zm R R<|zp (Aj R R R (by omega) (by omega))<|za R R<|zn<|?_
 have hfe : f + (p.1 - f) = p.1 := by omega
 have hsw : (Fq t ws)[p.1 - f]? = some w := by rw [Tz (by omega), hf2, hfe]; exact hw
 have hnext : Fa (l.drop (i + 1)) (f + min (p.1 + 1 - f) c) ((Fq t ws).drop (min (p.1 + 1 - f) c)) (p.2 + Dr (l.drop (i + 1)) (p.1 : Nat) w) = Fa (l.drop (i + 1)) f (Fq t ws) 0 := by rw [(P6 hhas).1, hfe] at hgo; rw [(P6 hhas).2, ← hgo, Sn hsw (by rw [hE0.1]; decide), show f + (p.1 - f + 1) = p.1 + 1 by omega]
 exact Al ((p.1 + 1, p.2 + Dr (l.drop (i + 1)) (p.1 : Nat) w)) (⟨by simp only; omega, hnext, by simp only; omega, by simp only; omega⟩) (by simp only; omega) (fz ⟨sr, sr, sr, .same (sI (by rw [hE0.2])), sr, trivial⟩) (HSub.nil)
 have hu : Fa (l.drop (i + 1)) t.first.toNat (Fq t ws) 0 = some p.2 := by rw [hf2, ← hgo]; exact Uo (by omega)
 have hkb : p.2 ≤ 128 * 253671505920 := by omega
 refine Ap<|zr<|za R R<|zn<|zs<|zr<|za R R<|zn<|Ag<|?_
 refine Au (α := Nat) (fun k => k ≤ 10 ∧ ∀ j, j < k → ¬ p.2 = t.actual * (3870720 / 2 ^ j)) (fun k => mkF [(0, .d (.sl 4 (l.map Tp.c))), (1, .d (dI i)), (8, .d (dI p.2)), (12, .d (dI (H8 k))), (13, .d (dI ((k : Int) - 1)))]) (fun k => mkH []) (fun k => 10 - k) (0) (⟨Nat.zero_le _, fun j hj => absurd hj (Nat.not_lt_zero _)⟩) ?_ ?_ ?_
 exact fz ⟨sr, sr, sr, .same (sI (by decide)), .same (sI (by decide)), trivial⟩
 exact HSub.nil
 intro k hk2
 obtain ⟨hk, hno⟩ := hk2
 have hsh := P3 k
 refine zs<|zr<|zm R R<|zp (E4 R R R)<|zn<|?_
 refine zd R (fun c45 => ?_) (fun c45 => ?_)
 have hml1 : 0 ≤ H8 k * t.actual := Int.mul_nonneg hsh.1 (by omega)
 have hml2 : H8 k * t.actual ≤ 3870720 * 32 := Int.mul_le_mul hsh.2 (by omega) (by omega) (by omega)
 refine zi<|zs<|Ag<|zs<|zr<|zm R R<|zm R R<|zm R R<|zm R R<|zp (Ak R R R Hi (ht))<|zp (Bg R R J0)<|zp (Ax R R Ai)<|zp (Gy R R R (by omega) (by omega))<|zp (Ay R R R)<|?_
 refine zn<|?_
 refine zd R (fun c56 => ?_) (fun c56 => ?_)
 refine zr<|zm R R<|za R R<|za R R<|zn<|zt<|?_
 exact Bj R (RV.tmp R R) (RV.tmp R R) (Xy (by rw [Li hu]; exact Aef (by omega) (by rw [Int.mul_comm]; exact c56) hno))
 refine zi<|Af (by kernel_rfl)<|zm R R<|zp (F0 R R R (by omega) (by omega) (by omega))<|za R R<|zn<|Af (by kernel_rfl)<|zm R R<|zp (Aj R R R (by omega) (by omega))<|za R R<|zn<|?_
 exact Al (k + 1) (⟨by omega, fun j hj => by by_cases e : j = k; (· subst e; rw [Int.mul_comm]; exact c56); (· exact hno j (by omega))⟩) (by omega) (fz ⟨sr, sr, sr, .same (sI (Nm k)), .same (sI (by omega)), trivial⟩) (HSub.nil)
 have hke : k = 10 := by omega
 have hnone : Px t.actual p.2 = none := Vp (fun j hj => hno j (by omega))
 refine Ap<|zr<|za R R<|za R R<|zn<|zt<|?_
 exact Bj R (RV.tmp R R) (RV.tmp R R) (On (by rw [Li hu]; exact hnone))
end Go.Proofs.YtcihalbakenleaaGreat
namespace Go.Proofs.YtcihalbakenleaaGreat
open Go.RowKit
theorem Mf (l : List Tp) (h : l.length ≤ 1000) : XC Tryz.prog 55 [.sl 4 (l.map Tp.c)] (fun r => r = .sl 4 (l.map Tp.c)) := by
 refine An Ac0 Tryz.func55 R R lb<|zr<|za R R<|znr<|za R R<|zn<|zs<|zr<|za R R<|zn<|Ag<|C0 900 3 135 4 R<|?_
 refine Au (α := Nat) (fun k => k ≤ l.length) (fun k => mkF [(0, .d (.sl 4 (l.map Tp.c))), (2, .d (.v (.slice none 0 0))), (3, .own 900), (4, .d (dI k))]) (fun k => mkH [(900, .row 135 4 ((l.take k).map Tp.c))]) (fun k => l.length - k) (0) (Nat.zero_le _) ?_ ?_ ?_
 exact fz ⟨sr, sr, sr, sr, trivial⟩
 exact gz ⟨R, trivial⟩
 intro k hk0
 refine zs<|zr<|zm R R<|zm R R<|XL.len R R R Tryz.underlying23 fun hl7=>zp (Aq R R R)<|zn<|?_
 refine zd R (fun c8 => ?_) (fun c8 => ?_)
 have hk0a : k < l.length := by omega
 obtain ⟨x0, hx0⟩ := Av hk0a
 have htl : (l.take k).length = k := by rw [List.length_take]; omega
 refine zi<|zs<|Ag<|Cu 23 [] (by kernel_rfl) (by kernel_rfl) (by kernel_rfl) (by kernel_rfl) (by decide)<|yp (Ar R (by conv => lhs; whnf))<|?_
 refine ym R R<|ym R R<|yp (Ak R R R Ey hx0)<|yp (Bg R R Da)<|yp (Ax R R Ai)<|ym R R<|ym R R<|yp (Ak R R R Ey hx0)<|yp (Bg R R F5)<|yp (Ax R R Ai)<|ym R R<|ym R R<|yp (Ak R R R Ey hx0)<|yp (Bg R R K9)<|?_
 refine yp (Ax R R Ai)<|ym R R<|ym R R<|yp (Ak R R R Ey hx0)<|yp (Bg R R M9)<|yp (Ax R R Ai)<|yp (Ae (s' := .d (.agg [dI x0.first, dI x0.count, dI x0.actual, dI x0.normal])) (Ad (Bo R Ami Ji R)) (by kernel_rfl))<|ChK.cons R (CStep.slice R Tryz.underlying98 Nq Ji R R (by omega) (by omega))<|?_
 refine ChK.nil ⟨by kernel_rfl, ?_⟩
 refine XL.step R (Az R Tr (.own R) (Src.sl (by omega)) (by unfold maxLen; simp; omega) (by simp; omega))<|zp (Am R (by conv => lhs; whnf))<|?_
 refine zn<|Af (by kernel_rfl)<|zm R R<|zp (Aj R R R (by omega) (by omega))<|za R R<|zn<|?_
 exact Al (k + 1) (by omega) (by omega) (fz ⟨sr, sr, sr, sr, trivial⟩) (gz ⟨D9 R (Bf hx0), trivial⟩)
 have hk0b : k = l.length := by omega
 have ht : l.take k = l := by rw [hk0b, List.take_length]
 refine Ap<|zr<|zp (Ar R (by conv => lhs; whnf))<|?_
 refine zp (Am R (by conv => lhs; whnf))<|?_
 exact zn<|zt<|Ba (i := 900) R<|z1 R R (rSl (by rw [ht]))
theorem Ni (l : List Ev) (hv : ∀ e ∈ l, e.err = 0 ∧ e.kind ≠ 3) (h : l.length ≤ 1000) : XC Tryz.prog 74 [.sl 13 (l.map Ev.c)] (fun r => r = .sl 1 (Bu (wrS l))) := by
 refine An Acj Tryz.func74 R R lb<|zr<|za R R<|znr<|za R R<|zn<|zs<|zr<|za R R<|zn<|Ag<|C0 900 3 3 1 R<|?_
 refine Au (α := Nat) (fun k => k ≤ l.length) (fun k => mkF [(0, .d (.sl 13 (l.map Ev.c))), (2, .d (.v (.slice none 0 0))), (3, .own 900), (4, .d (dI k))]) (fun k => mkH [(900, .row 3 1 ((wrS (l.take k)).map iv))]) (fun k => l.length - k) (0) (Nat.zero_le _) ?_ ?_ ?_
 exact fz ⟨sr, sr, sr, sr, trivial⟩
 exact gz ⟨R, trivial⟩
 intro k hk0
 refine zs<|zr<|zm R R<|zm R R<|XL.len R R R Tryz.underlying22 fun hl7=>zp (Aq R R R)<|zn<|?_
 refine zd R (fun c8 => ?_) (fun c8 => ?_)
 have hk0a : k < l.length := by omega
 obtain ⟨x0, hx0⟩ := Av hk0a
 have htl : (wrS (l.take k)).length = k := by rw [H9, List.length_take]; omega
 have hxv := hv x0 (List.mem_of_getElem? hx0)
 have hval := (err_iff.1 hxv.1).2.2.2.1 hxv.2
 refine zi<|zs<|Ag<|Af (by kernel_rfl)<|zp (Ar R (by conv => lhs; whnf))<|?_
 refine zm R R<|zm R R<|zp (Ak R R R Ct hx0)<|zp (Bg R R B7)<|zp (Ae (s' := .d (.agg (Val.c x0.v))) (At R R B8 lb) (by kernel_rfl))<|XL.call1 R R (Ahm _ (by assumption)) R<|XL.step R (A9 18 R Tryz.underlying64 C2 Ef R R (by omega) (by omega))<|XL.step R (Az R Gw (.own R) (Src.own R) (by unfold maxLen; simp; omega) (by simp; omega))<|?_
 refine zp (Am R (by conv => lhs; whnf))<|?_
 refine zn<|Af (by kernel_rfl)<|zm R R<|zp (Aj R R R (by omega) (by omega))<|za R R<|zn<|?_
 exact Al (k + 1) (by omega) (by omega) (fz ⟨sr, sr, sr, sr, trivial⟩) (gz ⟨D9 (a := x0.len) (by rw [Ev.len_ok hxv.1 hxv.2]; rfl) (by rw [Bf hx0, Qc]; rfl), trivial⟩)
 have hk0b : k = l.length := by omega
 have ht : l.take k = l := by rw [hk0b, List.take_length]
 refine Ap<|zr<|zp (Ar R (by conv => lhs; whnf))<|?_
 refine zp (Am R (by conv => lhs; whnf))<|?_
 exact zn<|zt<|Ba (i := 900) R<|z1 R R (rSl (by rw [ht]))
theorem Amn (l : List Int) (h : Nums l) : XC Tryz.prog 58 [.sl 1 (Bu l)] (fun r => r = dI (tot l)) := by
 refine An Acx Tryz.func58 R R lb<|zr<|za R R<|znr<|za R R<|zn<|zs<|zr<|za R R<|zn<|Ag<|?_
 refine Au (α := Nat) (fun k => k ≤ l.length) (fun k => mkF [(0, .d (.sl 1 (Bu l))), (2, .d (dI 0)), (3, .d (dI (tot (l.take k)))), (4, .d (dI k))]) (fun k => mkH []) (fun k => l.length - k) (0) (Nat.zero_le _) ?_ ?_ ?_
 exact fz ⟨sr, sr, sr, sr, trivial⟩
 exact HSub.nil
 intro k hk0
 refine zs<|zr<|zm R R<|zm R R<|XL.len R R R Tryz.underlying64 fun hl7=>zp (Aq R R R)<|zn<|?_
 refine zd R (fun c8 => ?_) (fun c8 => ?_)
 have hk0a : k < l.length := by omega
 obtain ⟨x0, hx0⟩ := Av hk0a
 have h1 := (h.take k).tot
 have h2 := h.bd x0 (List.mem_of_getElem? hx0)
 refine zi<|zs<|Ag<|Af (by kernel_rfl)<|zm R R<|zm R R<|zm R R<|zp (Ak R R R Cy hx0)<|zp (Ax R R Ai)<|zp (Aj R R R (by omega) (by omega))<|za R R<|zn<|Af (by kernel_rfl)<|zm R R<|?_
 refine zp (Aj R R R (by omega) (by omega))<|za R R<|zn<|?_
 exact Al (k + 1) (by omega) (by omega) (fz ⟨sr, sr, .same (sI (by rw [Bf hx0, Il])), sr, trivial⟩) (HSub.nil)
 have hk0b : k = l.length := by omega
 have ht : l.take k = l := by rw [hk0b, List.take_length]
 exact Ap<|zr<|zm R R<|za R R<|zn<|zt<|z1 R R (rI (by rw [ht]))
theorem Xk (v : Vo) : XC Tryz.prog 72 [.agg (Vo.c v)] (fun r => r = dB (decide v.rest)) := by
 refine An Acl Tryz.func72 R R lb<|zr<|XL.step R (As 1 (l := [.d (.sl 13 (v.evs.map Ev.c)), .d (.sl 4 (v.tups.map Tp.c))]) R R (by kernel_rfl))<|za R R<|znr<|zp (Aa R R A0)<|zp (Ab R R Bq R R)<|XL.len R R R Tryz.underlying22 fun hl5=>zp (Ay R R R)<|zm R R<|?_
 refine XL.dec 7 R (fun g7 => ?_) (fun g7 => ?_)
 obtain ⟨e, he⟩ : ∃ e, v.evs[0]? = some e := Av (by omega)
 exact zp (Aa R R A0)<|zp (Ab R R Bq R R)<|zp (Ak (k := 0) R R R Ct (he))<|zp (Bg R R Bv)<|zp (Ax R R Ai)<|zp (Ay R R R)<|zq R R R<|za R R<|zn<|zt<|z1 R R (rB (by rw [decide_eq_decide]; exact ⟨fun h => ⟨(Ij he).2 h, by omega⟩, fun h => (Ij he).1 h.1⟩))
 exact zk 6 R<|zq R R R<|za R R<|zn<|zt<|z1 R R (rB (by rw [eq_comm, decide_eq_false_iff_not]; exact fun h => g7 (by have := h.2; omega)))
theorem Ahu (l : List Tp) (i : Nat) (t : Tp) (ws : List Int) (ht : l[i]? = some t) (hT : Tups l ws.length) (hws : ∀ w ∈ ws, 0 ≤ w ∧ w ≤ 7741440) : XC Tryz.prog 98 [.sl 4 (l.map Tp.c), dI i, .sl 1 (Bu ws)] (fun r => r = .tup [dI ((E9 (J4 l i) t ws).getD 0), dB (E9 (J4 l i) t ws).isSome]) := by
 have := Ajz l i t ws ht hT hws
 rwa [← Rm] at this
theorem Yb {v : Vo} {L : Int} (h : ¬ (L < 1 ∨ 15482880 < L)) : B4 v L = B4 v 1 := by unfold B4; rw [if_neg h, if_neg (show ¬ ((1 : Int) < 1 ∨ (15482880 : Int) < 1) by decide)]
theorem Vq {v : Vo} (h2 : ¬ 128 < (v.evs.length : Int)) (hr : v.rest) {e : Ev} (he : v.evs[0]? = some e) : B4 v 1 = (if e.err ≠ 0 then e.err else if 0 < v.tups.length then 21 else 0) := Wp (by decide) (by decide) h2 hr.1 (by have := hr.2; omega) he
theorem Ly {v : Vo} (h2 : ¬ 128 < (v.evs.length : Int)) (hr : ¬ v.rest) : B4 v 1 = Fn v := (Th (by decide) (by decide) h2 (fun k => hr ⟨k.1, by have := k.2; omega⟩)).2.symm
theorem Aoo {v : Vo} {k : Nat} {e : Ev} (h2 : ¬ 128 < (v.evs.length : Int)) (he : v.evs[k]? = some e) (h : e.err ≠ 0) (hgo : Ec v.evs.length k (v.evs.drop k) = Ec v.evs.length 0 v.evs) : e.err = B4 v 1 := by
 by_cases hr : v.rest
 ·have hk := (List.getElem?_eq_some_iff.1 he).1
  have : k = 0 := by have := hr.2; omega
  subst this
  rw [Vq h2 hr he, if_pos h]
 ·rw [Ly h2 hr, ← (M4 (v := v) (e := e.err) (by rw [← hgo, R7 he h]) h).2]
theorem Amz {v : Vo} {k : Nat} {e : Ev} (h2 : ¬ 128 < (v.evs.length : Int)) (he : v.evs[k]? = some e) (h : ¬ e.err ≠ 0) (h3 : e.kind = 3) (h4 : ¬ (v.evs.length : Int) = 1) (hgo : Ec v.evs.length k (v.evs.drop k) = Ec v.evs.length 0 v.evs) : 11 = B4 v 1 := by
 have hk := (List.getElem?_eq_some_iff.1 he).1
 have hr : ¬ v.rest := fun k => h4 (by have := k.2; omega)
 rw [Ly h2 hr, ← (M4 (v := v) (e := 11) (by rw [← hgo, K7 he h ⟨h3, by omega⟩]) (by decide)).2]
theorem Aon {v : Vo} (hz : Ec v.evs.length 0 v.evs = 0) : ∀ e ∈ v.evs, e.err = 0 := fun e he => by
 obtain ⟨j, hj⟩ := List.getElem?_of_mem he
 exact (inGo_zero.1 hz j e hj).1
theorem Ahx {v : Vo} (hz : Ec v.evs.length 0 v.evs = 0) (hr : ¬ v.rest) : ∀ e ∈ v.evs, e.err = 0 ∧ e.kind ≠ 3 := fun e he => by
 obtain ⟨j, hj⟩ := List.getElem?_of_mem he
 have h5 := inGo_zero.1 hz j e hj
 refine ⟨h5.1, fun k => ?_⟩
 have h6 := fun q => h5.2 ⟨k, q⟩
 have hl := (List.getElem?_eq_some_iff.1 hj).1
 have : j = 0 ∧ v.evs.length = 1 := by omega
 rw [this.1] at hj
 exact hr ⟨(Ij hj).2 k, this.2⟩
theorem Ad6 {v : Vo} (h2 : ¬ 128 < (v.evs.length : Int)) (hz : Ec v.evs.length 0 v.evs = 0) (hr : v.rest) : B4 v 1 = if 0 < v.tups.length then 21 else 0 := by
 obtain ⟨e, he⟩ : ∃ e, v.evs[0]? = some e := Av (by rw [hr.2]; omega)
 rw [Vq h2 hr he, if_neg (by rw [Aon hz e (List.mem_of_getElem? he)]; decide)]
theorem Aom {v : Vo} (h2 : ¬ 128 < (v.evs.length : Int)) (hz : Ec v.evs.length 0 v.evs = 0) (hr : ¬ v.rest) (h : Cv v.tups (wrS v.evs) ≠ 0) : Cv v.tups (wrS v.evs) = B4 v 1 := by
 rw [Ly h2 hr, ← (Af8 hz h).2]
theorem Amy {v : Vo} {k : Nat} {t : Tp} (h2 : ¬ 128 < (v.evs.length : Int)) (hz : Ec v.evs.length 0 v.evs = 0) (hr : ¬ v.rest) (h : ¬ Cv v.tups (wrS v.evs) ≠ 0) (ht : v.tups[k]? = some t) (hn : (!(E9 (J4 v.tups k) t (wrS v.evs)).isSome) = true) : 21 = B4 v 1 := by
 rw [Ly h2 hr, ← (Af7 hz h (by rw [← (Ajm h ht hn).2]; decide)).2]
theorem Ap7 {v : Vo} (h2 : ¬ 128 < (v.evs.length : Int)) (hz : Ec v.evs.length 0 v.evs = 0) (hr : ¬ v.rest) (h : ¬ Cv v.tups (wrS v.evs) ≠ 0) (hn : Jq v.tups (wrS v.evs)) : 0 = B4 v 1 := by
 rw [Ly h2 hr, ← (Af6 hz h (by rw [← (Ajl h hn).2]; decide)).2]
theorem Aho (v : Vo) (hE : Evs v.evs) (ht : v.tups.length ≤ 1000) : XC Tryz.prog 57 [.agg (Vo.c v), .v (.bool true)] (fun r => r = dI (B4 v 1)) := by
 refine An Acy Tryz.func57 R R lb<|zr<|XL.step R (As 2 (l := [.d (.sl 13 (v.evs.map Ev.c)), .d (.sl 4 (v.tups.map Tp.c))]) R R (by kernel_rfl))<|za R R<|zn<|zs<|zr<|zp (Aa R R A0)<|zp (Ab R R Bq R R)<|XL.len R R R Tryz.underlying22 fun hl14=>zp (A5 R R R)<|zn<|?_
 refine zd R (fun c15 => ?_) (fun c15 => ?_)
 exact zr<|za R R<|zn<|zt<|z1 R R (rI (Af5 (v := v) (L := 1) (by decide) (by decide) c15).2)
 refine zi<|zs<|zr<|za R R<|zn<|Ag<|?_
 refine Au (α := Nat) (fun k => k ≤ v.evs.length ∧ Ec v.evs.length k (v.evs.drop k) = Ec v.evs.length 0 v.evs) (fun k => mkF [(1, .d (dB true)), (2, .ptr 2 0 0), (5, .d (dI k))]) (fun k => mkH [(2, .box ((Vo.c v).map S.d))]) (fun k => v.evs.length - k) (0) (⟨Nat.zero_le _, by rw [List.drop_zero]⟩) ?_ ?_ ?_
 exact fz ⟨sr, sr, sr, trivial⟩
 exact gz ⟨R, trivial⟩
 intro k hk0
 obtain ⟨hk, hgo⟩ := hk0
 refine zs<|zr<|zm R R<|zp (Aa R R A0)<|zp (Ab R R Bq R R)<|XL.len R R R Tryz.underlying22 fun hl19=>zp (Aq R R R)<|zn<|?_
 refine zd R (fun c20 => ?_) (fun c20 => ?_)
 have hk0a : k < v.evs.length := by omega
 obtain ⟨x0, hx0⟩ := Av hk0a
 have he := hE x0 (List.mem_of_getElem? hx0)
 refine zi<|zs<|Ag<|zs<|zr<|zp (Aa R R A0)<|zp (Ab R R Bq R R)<|zm R R<|zp (Ak R R R Ct hx0)<|zp (Ae (s' := .d (.agg (Ev.c x0))) (At R R Aw lb) (by kernel_rfl))<|XL.call1 R R (Abq _ (by assumption)) R<|za R R<|znr<|zm R R<|?_
 refine zp (Bh R R R)<|zn<|?_
 refine zd R (fun c30 => ?_) (fun c30 => ?_)
 exact zr<|zm R R<|za R R<|zn<|zt<|z1 R R (rI (Aoo c15 hx0 c30 hgo))
 refine zi<|zr<|zp (Aa R R A0)<|zp (Ab R R Bq R R)<|zm R R<|zp (Ak R R R Ct hx0)<|zp (Bg R R Bv)<|zp (Ax R R Ai)<|zp (Ay R R R)<|zm R R<|?_
 refine XL.dec 39 R (fun g39 => ?_) (fun g39 => ?_)
 refine zm R R<|zm R R<|zp (Aa R R A0)<|zp (Ab R R Bq R R)<|XL.len R R R Tryz.underlying22 fun hl44=>zp (Ay R R R)<|zq R R R<|zp (Bp R R)<|zq R R R<|zn<|?_
 refine zd R (fun c48 => ?_) (fun c48 => ?_)
 exact zr<|za R R<|zn<|zt<|z1 R R (rI (Amz c15 hx0 c30 g39 c48 hgo))
 refine zi<|Af (by kernel_rfl)<|zm R R<|zp (Aj R R R (by omega) (by omega))<|za R R<|zn<|?_
 exact Al (k + 1) (⟨by omega, by rw [← M5 hx0 c30 (by omega)]; exact hgo⟩) (by omega) (fz ⟨sr, sr, sr, trivial⟩) (gz ⟨rfl, trivial⟩)
 refine zk 8 R<|zq R R R<|zn<|A3 (by kernel_rfl) R<|zi<|Af (by kernel_rfl)<|zm R R<|zp (Aj R R R (by omega) (by omega))<|za R R<|zn<|?_
 exact Al (k + 1) (⟨by omega, by rw [← M5 hx0 c30 (by omega)]; exact hgo⟩) (by omega) (fz ⟨sr, sr, sr, trivial⟩) (gz ⟨rfl, trivial⟩)
 have hk0b : k = v.evs.length := by omega
 have hz : Ec v.evs.length 0 v.evs = 0 := by rw [← hgo, hk0b, List.drop_length]; rfl
 refine Ap<|zs<|zr<|zp (Ae (s' := .d (.agg (Vo.c v))) (Ad (Ac R R A8 R lb)) (by kernel_rfl))<|XL.call1 R R (Xk _) R<|zn<|?_
 refine zd R (fun c50 => ?_) (fun c50 => ?_)
 refine zs<|zr<|zp (Aa R R B5)<|zp (Ab R R B3 R R)<|XL.len R R R Tryz.underlying23 fun hl53=>zp (A5 R R R)<|zn<|?_
 refine zd R (fun c54 => ?_) (fun c54 => ?_)
 exact zr<|za R R<|zn<|zt<|z1 R R (rI (by rw [Ad6 c15 hz c50, if_pos (by omega)]))
 exact zi<|zr<|za R R<|zn<|zt<|z1 R R (rI (by rw [Ad6 c15 hz c50, if_neg (by omega)]))
 refine zi<|zs<|zs<|?_
 have hnr : ¬ v.rest := c50
 have hva := Ahx hz hnr
 refine Bc [] (by kernel_rfl) (by kernel_rfl) (by kernel_rfl) (by decide)<|yp (Aa R R B5)<|yp (Ab R R B3 R R)<|ChK.cons R (CStep.call R (Mf _ (by omega)) R)<|yp (Aa R R A0)<|yp (Ab R R Bq R R)<|ChK.cons R (CStep.call R (Ni _ (by assumption) (by omega)) R)<|ChK.cons R (CStep.call R (Pe _ _) R)<|ym R R<|yp (Be R R R)<|?_
 refine yp (Be R R R)<|ya R R<|ya R R<|?_
 refine ChK.nil ⟨by kernel_rfl, ?_⟩
 refine zr<|zm R R<|zp (Bh R R R)<|zn<|?_
 refine zd R (fun c66 => ?_) (fun c66 => ?_)
 exact zr<|zm R R<|za R R<|zn<|zt<|z1 R R (rI (Aom c15 hz c50 c66))
 refine zi<|zs<|zs<|?_
 have hT := Jt c66
 have hws := Ak9 hva
 refine Af (by kernel_rfl)<|za R R<|zn<|Ag<|?_
 refine Au (α := Nat) (fun m => m ≤ v.tups.length ∧ ∀ j, j < m → (Qe v.tups j (wrS v.evs)).isSome = true) (fun m => mkF [(2, .ptr 2 0 0), (9, .d (dI m))]) (fun m => mkH [(2, .box ((Vo.c v).map S.d))]) (fun m => v.tups.length - m) (0) (⟨Nat.zero_le _, fun j hj => absurd hj (Nat.not_lt_zero _)⟩) ?_ ?_ ?_
 exact fz ⟨sr, sr, trivial⟩
 exact gz ⟨R, trivial⟩
 intro m hk2
 obtain ⟨hm, hall⟩ := hk2
 refine zs<|zr<|zm R R<|zp (Aa R R B5)<|zp (Ab R R B3 R R)<|XL.len R R R Tryz.underlying23 fun hl71=>zp (Aq R R R)<|zn<|?_
 refine zd R (fun c72 => ?_) (fun c72 => ?_)
 have hk2a : m < v.tups.length := by omega
 obtain ⟨x2, hx2⟩ := Av hk2a
 refine zi<|zs<|Ag<|zs<|Bc [] (by kernel_rfl) (by kernel_rfl) (by kernel_rfl) (by decide)<|yp (Aa R R B5)<|yp (Ab R R B3 R R)<|ChK.cons R (CStep.call R (Mf _ (by omega)) R)<|ym R R<|yp (Aa R R A0)<|yp (Ab R R Bq R R)<|ChK.cons R (CStep.call R (Ni _ (by assumption) (by omega)) R)<|?_
 refine ChK.cons R (CStep.call R (Ahu v.tups m x2 (wrS v.evs) hx2 hT hws) R)<|ym R R<|yp (Be R R R)<|yp (Be R R R)<|ya R R<|ya R R<|?_
 refine ChK.nil ⟨by kernel_rfl, ?_⟩
 refine zr<|zm R R<|zp (C3 R R)<|zn<|?_
 refine Du (by kernel_rfl) R (fun c87 => ?_) (fun c87 => ?_)
 exact zr<|za R R<|zn<|zt<|z1 R R (rI (Amy c15 hz c50 c66 hx2 c87))
 refine zi<|Af (by kernel_rfl)<|zm R R<|zp (Aj R R R (by omega) (by omega))<|za R R<|zn<|?_
 exact Al (m + 1) (⟨by omega, fun j hj => by by_cases e : j = m; (· subst e; rw [Kd hx2]; exact (by simpa using c87)); (· exact hall j (by omega))⟩) (by omega) (fz ⟨sr, sr, trivial⟩) (gz ⟨rfl, trivial⟩)
 have hk2b : m = v.tups.length := by omega
 have ha : Jq v.tups (wrS v.evs) := fun j hj => hall j (by omega)
 exact Ap<|zr<|za R R<|zn<|zt<|z1 R R (rI (Ap7 c15 hz c50 c66 ha))
theorem Aie {v : Vo} {L : Int} (h : B4 v L = 0) (hr : v.rest) : [L] = Co v L := by rw [Co, if_neg (by rw [h]; decide), if_pos (show v.whole ∧ v.evs.length = 1 from hr)]
theorem Aic {v : Vo} (h : B4 v 1 = 0) (hr : ¬ v.rest) : Fn v = 0 := by
 have h2 : ¬ 128 < (v.evs.length : Int) := by
  obtain ⟨h5, _⟩ := len_ok h
  omega
 rw [← Ly h2 hr]; exact h
theorem Am9 {v : Vo} {L : Int} (h : B4 v L = 0) (h1 : B4 v 1 = 0) (hr : ¬ v.rest) : G4 v.tups (wrS v.evs) = Co v L := by
 rw [Co, if_neg (by rw [h]; decide), if_neg (show ¬ (v.whole ∧ v.evs.length = 1) from hr), G0, if_pos (Aic h1 hr)]
theorem Am8 {v : Vo} (h : B4 v 1 = 0) (hr : ¬ v.rest) : ∀ e ∈ v.evs, e.err = 0 ∧ e.kind ≠ 3 := Ahx (innE_zero.1 (Aic h hr)).1 hr
theorem Ld (v : Vo) (L : Int) (h : B4 v L = 0) (h1 : B4 v 1 = 0) : XC Tryz.prog 32 [.agg (Vo.c v), .v (.int .i64 L)] (fun r => r = .sl 1 (Bu (Co v L))) := by
 have hev := (len_ok h).1
 have htl : v.tups.length ≤ 100 := by (rcases (len_ok h1).2.1 with q | q; (· omega); (· have := (Jt (fun k => k q)).len; omega))
 refine An Add Tryz.func32 R R lb<|zr<|XL.step R (As 2 (l := [.d (.sl 13 (v.evs.map Ev.c)), .d (.sl 4 (v.tups.map Tp.c))]) R R (by kernel_rfl))<|za R R<|zn<|zs<|zr<|zp (Ae (s' := .d (.agg (Vo.c v))) (Ad (Ac R R A8 R lb)) (by kernel_rfl))<|XL.call1 R R (Xk _) R<|zn<|?_
 refine zd R (fun c8 => ?_) (fun c8 => ?_)
 refine zr<|zm R R<|XL.step R (A9 10 R Tryz.underlying64 C2 Ef R R (by omega) (by omega))<|zp (Am R (by conv => lhs; whnf))<|?_
 exact zn<|zt<|Ba (i := 10) R<|z1 R R (rSl (l := [L]) (g := iv) (Aie h c8))
 refine zi<|zs<|?_
 have hva := Am8 h1 c8
 refine Bc [] (by kernel_rfl) (by kernel_rfl) (by kernel_rfl) (by decide)<|yp (Aa R R B5)<|yp (Ab R R B3 R R)<|ChK.cons R (CStep.call R (Mf _ (by omega)) R)<|yp (Aa R R A0)<|yp (Ab R R Bq R R)<|ChK.cons R (CStep.call R (Ni _ (by assumption) (by omega)) R)<|ChK.cons R (CStep.call R (Pe _ _) R)<|ym R R<|yp (Be R R R)<|?_
 refine yp (Be R R R)<|ya R R<|ya R R<|?_
 refine ChK.nil ⟨by kernel_rfl, ?_⟩
 exact zr<|zm R R<|za R R<|zn<|zt<|z1 R R (rSl (Am9 h h1 c8))
theorem Agq {v : Vo} {L a : Int} (h : B4 v L = a) (ha : a ≠ 0) : a = ckE v L := by rw [ckE, if_neg (by rw [h]; exact fun k => ha k.1), h]
theorem Aqv {v : Vo} {L : Int} (h : B4 v L = 0) (h2 : 0 < (v.evs.length : Int)) (h3 : tot (Co v L) ≠ L) : 20 = ckE v L := by rw [ckE, if_pos ⟨h, by rw [T7 h]; omega, h3⟩]
theorem Apu {v : Vo} {L : Int} (h : B4 v L = 0) (h3 : ¬ (0 < (v.evs.length : Int) ∧ tot (Co v L) ≠ L)) : 0 = ckE v L := by
 rw [ckE, if_neg, h]
 rintro ⟨_, k2, k3⟩
 rw [T7 h] at k2
 exact h3 ⟨by omega, k3⟩
theorem Nk (v : Vo) (L : Int) (hE : Evs v.evs) (ht : v.tups.length ≤ 1000) : XC Tryz.prog 19 [.agg (Vo.c v), .v (.int .i64 L)] (fun r => r = dI (ckE v L)) := by
 refine An Adj Tryz.func19 R R lb<|zr<|XL.step R (As 2 (l := [.d (.sl 13 (v.evs.map Ev.c)), .d (.sl 4 (v.tups.map Tp.c))]) R R (by kernel_rfl))<|za R R<|zn<|zs<|zr<|zm R R<|zp (Aq R R R)<|zm R R<|?_
 refine XL.dec 8 R (fun g8 => ?_) (fun g8 => ?_)
 exact zk 2 R<|zq R R R<|zn<|Ao (by kernel_rfl) R<|zr<|za R R<|zn<|zt<|z1 R R (rI (Agq (Qt (v := v) (L := L) (by omega)).2.symm (by decide)))
 refine zm R R<|zp (A5 R R R)<|zq R R R<|zn<|?_
 refine zd R (fun c11 => ?_) (fun c11 => ?_)
 exact zr<|za R R<|zn<|zt<|z1 R R (rI (Agq (Qt (v := v) (L := L) (by omega)).2.symm (by decide)))
 refine zi<|zs<|zs<|?_
 have hany : B4 v L = B4 v 1 := Yb (by omega)
 refine Af (by kernel_rfl)<|zp (Ae (s' := .d (.agg (Vo.c v))) (Ad (Ac R R A8 R lb)) (by kernel_rfl))<|XL.call1 R R (Aho _ (by assumption) (by omega)) R<|za R R<|znr<|zm R R<|zp (Bh R R R)<|zn<|?_
 refine zd R (fun c15 => ?_) (fun c15 => ?_)
 exact zr<|zm R R<|za R R<|zn<|zt<|z1 R R (rI (Agq hany c15))
 refine zi<|zs<|zs<|?_
 have hl1 : B4 v 1 = 0 := by omega
 have hl : B4 v L = 0 := by omega
 have hN := K5 v L
 refine Af (by kernel_rfl)<|zp (Aa R R A0)<|zp (Ab R R Bq R R)<|XL.len R R R Tryz.underlying22 fun hl19=>zp (A5 R R R)<|zm R R<|?_
 refine XL.dec 21 R (fun g21 => ?_) (fun g21 => ?_)
 refine zp (Ae (s' := .d (.agg (Vo.c v))) (Ad (Ac R R A8 R lb)) (by kernel_rfl))<|zm R R<|XL.call1 R R (Ld _ _ (by assumption) (by assumption)) R<|XL.call1 R R (Amn _ (by assumption)) R<|zm R R<|zp (Bh R R R)<|zq R R R<|zn<|?_
 refine zd R (fun c28 => ?_) (fun c28 => ?_)
 exact zr<|za R R<|zn<|zt<|z1 R R (rI (Aqv hl g21 c28))
 exact zi<|zr<|za R R<|zn<|zt<|z1 R R (rI (Apu hl (fun k => c28 k.2)))
 exact zk 6 R<|zq R R R<|zn<|A3 (by kernel_rfl) R<|zi<|zr<|za R R<|zn<|zt<|z1 R R (rI (Apu hl (fun k => g21 k.1)))
theorem U9 {l : List Int} {k : Nat} (h : k ≤ l.length) : (Fb l).take k = (List.range k).map fun j => tot (l.take j) := by
 rw [Fb, ← List.map_take, List.take_range, Nat.min_eq_left h]
theorem Ah5 {l : List Int} {k : Nat} (h : k < l.length) : (Fb l).take (k + 1) = (Fb l).take k ++ [tot (l.take k)] := by
 rw [U9 (by omega), U9 (by omega), List.range_succ, List.map_append]; rfl
theorem Aff (v : Vo) (L : Int) (h : B4 v L = 0) (h1 : B4 v 1 = 0) : XC Tryz.prog 33 [.agg (Vo.c v), .v (.int .i64 L)] (fun r => r = .sl 1 (Bu (Fb (Co v L)))) := by
 have hN := K5 v L
 have hNl := hN.len
 have hol := R0 (Co v L)
 refine An Adc Tryz.func33 R R lb<|zr<|XL.step R (As 2 (l := [.d (.sl 13 (v.evs.map Ev.c)), .d (.sl 4 (v.tups.map Tp.c))]) R R (by kernel_rfl))<|za R R<|znr<|za R R<|znr<|za R R<|znr<|zp (Ae (s' := .d (.agg (Vo.c v))) (Ad (Ac R R A8 R lb)) (by kernel_rfl))<|zm R R<|XL.call1 R R (Ld _ _ (by assumption) (by assumption)) R<|za R R<|zn<|?_
 refine zs<|zr<|za R R<|zn<|Ag<|C0 900 5 3 1 R<|?_
 refine Au (α := Nat) (fun k => k ≤ (Co v L).length) (fun k => mkF [(4, .d (.v (.slice none 0 0))), (5, .own 900), (6, .d (dI (tot ((Co v L).take k)))), (7, .d (.sl 1 (Bu (Co v L)))), (8, .d (dI k))]) (fun k => mkH [(900, .row 3 1 (((Fb (Co v L)).take k).map iv))]) (fun k => (Co v L).length - k) (0) (Nat.zero_le _) ?_ ?_ ?_
 exact fz ⟨sr, sr, sr, sr, sr, trivial⟩
 exact gz ⟨R, trivial⟩
 intro k hk0
 refine zs<|zr<|zm R R<|zm R R<|XL.len R R R Tryz.underlying64 fun hl14=>zp (Aq R R R)<|zn<|?_
 refine zd R (fun c15 => ?_) (fun c15 => ?_)
 have hk0a : k < (Co v L).length := by omega
 obtain ⟨x0, hx0⟩ := Av hk0a
 have htl : ((Fb (Co v L)).take k).length = k := by rw [List.length_take]; omega
 have hb1 := (hN.take k).tot
 have hb2 := hN.bd x0 (List.mem_of_getElem? hx0)
 refine zi<|zs<|Ag<|zr<|zp (Ar R (by conv => lhs; whnf))<|?_
 refine zm R R<|XL.step R (A9 20 R Tryz.underlying64 C2 Ef R R (by omega) (by omega))<|XL.step R (Az R Gw (.own R) (Src.own R) (by unfold maxLen; simp; omega) (by simp; omega))<|zp (Am R (by conv => lhs; whnf))<|?_
 refine zng<|zm R R<|zm R R<|zm R R<|zp (Ak R R R Cy hx0)<|zp (Ax R R Ai)<|zp (Aj R R R (by omega) (by omega))<|za R R<|zn<|Af (by kernel_rfl)<|zm R R<|zp (Aj R R R (by omega) (by omega))<|za R R<|zn<|?_
 exact Al (k + 1) (by omega) (by omega) (fz ⟨sr, sr, .same (sI (by rw [Bf hx0, Il])), sr, sr, trivial⟩) (gz ⟨D9 R (Ah5 hk0a), trivial⟩)
 have hk0b : k = (Co v L).length := by omega
 have ht : (Fb (Co v L)).take k = Fb (Co v L) := List.take_of_length_le (by omega)
 refine Ap<|zr<|zp (Ar R (by conv => lhs; whnf))<|?_
 refine zp (Am R (by conv => lhs; whnf))<|?_
 exact zn<|zt<|Ba (i := 900) R<|z1 R R (rSl (by rw [ht]))
theorem N3 {l : List Int} (h : ∀ x ∈ l, 0 < x) {j k : Nat} (hjk : j ≤ k) : tot (l.take j) ≤ tot (l.take k) := by
 rw [Qg l j k hjk]
 have : ∀ l : List Int, (∀ x ∈ l, 0 < x) → 0 ≤ tot l := by
  intro l
  induction l with
  | nil => intro _; exact Int.le_refl _
  | cons x l ih => intro h; rw [Hv]; have := h x List.mem_cons_self; have := ih fun y hy => h y (List.mem_cons_of_mem _ hy); omega
 have := this ((l.take k).drop j) fun x hx => h x (List.mem_of_mem_take (List.mem_of_mem_drop hx))
 omega
def atJ (l : List Int) : Nat → Int × Int
 | 0 => (0, 0)
 | j + 1 => ((j : Int), tot (l.take j))
theorem Agw {l : List Int} (h : ∀ x ∈ l, 0 < x) {t : Int} {j : Nat} (hj : j ≤ l.length) (h1 : ∀ i, i < j → tot (l.take i) ≤ t) (h2 : j = l.length ∨ t < tot (l.take j)) : ∀ n, j ≤ n → n ≤ l.length → atS l t n = atJ l j := by
 have h0 : atS l t j = atJ l j := by
  cases j with
  | zero => rfl
  | succ j =>
   obtain ⟨x, hx⟩ : ∃ x, l[j]? = some x := Av (by omega)
   rw [Tu hx (h1 j (by omega)) (h x (List.mem_of_getElem? hx))]; rfl
 intro n
 induction n with
 | zero =>
  intro hn _
  have : j = 0 := by omega
  subst this; exact h0
 | succ n ih =>
  intro hn hl
  by_cases e : j = n + 1
  ·rw [← e]; exact h0
  ·obtain ⟨x, hx⟩ : ∃ x, l[n]? = some x := Av (by omega)
   rw [L5 hx, ih (by omega) (by omega)]
   rintro ⟨k, _⟩
   have := N3 h (j := j) (k := n) (by omega)
   omega
theorem Al8 {v : Val} (h : C1 v = 0) : 0 < B9 v := by
 have hv := M1 (v := v) (by omega)
 have hp : 0 < Dw v := by
  unfold Dw
  obtain ⟨k, hk⟩ : ∃ k : Nat, (v.log + 1).toNat = k := ⟨_, rfl⟩
  rw [hk]
  have : k < 10 := by omega
  match k, this with
  | 0, _ => decide
  | 1, _ => decide
  | 2, _ => decide
  | 3, _ => decide
  | 4, _ => decide
  | 5, _ => decide
  | 6, _ => decide
  | 7, _ => decide
  | 8, _ => decide
  | 9, _ => decide
  | k + 10, h => omega
 have : ∀ n, Dw v ≤ (Eh (Dw v) n).2 := by
  intro n
  induction n with
  | zero => exact Int.le_refl _
  | succ n ih => have := (J1 (Int.le_of_lt hp) n).1; simp only [Eh]; omega
 have := this v.dots.toNat
 unfold B9
 omega
theorem Aoh {T : List Tp} {n w : Int} (hT : ∀ t ∈ T, t.ok) (hw : 0 < w) (h : Ds T n w = 0) : 0 < Dr T n w := by
 have hb := Pq T n hT
 unfold Ds at h
 split at h
 ·omega
 ·rename_i c
  split at h
  ·omega
  ·rename_i c2
   rw [Dr, if_neg c, if_neg c2]
   have h1 : 0 < w * (A1 T n).1 := Int.mul_pos hw (by omega)
   have h2 := Int.ediv_mul_cancel (Int.dvd_of_emod_eq_zero (Decidable.not_not.1 c2))
   refine Int.not_le.1 fun k => ?_
   have := Int.mul_le_mul_of_nonneg_right k (show 0 ≤ (A1 T n).2 by omega)
   omega
theorem Aew {v : Vo} {L : Int} (h : ckE v L = 0) : ∀ x ∈ ckL v L, 0 < x := by
 by_cases c : v.rest
 ·obtain ⟨_, hl, _⟩ := Ny c h
  have := (len_ok (Mq h).1).2.2.1
  rw [hl]; intro x hx; rw [List.mem_singleton.1 hx]; omega
 ·obtain ⟨_, _, hv, _⟩ := (Ky c).1 ⟨h, rfl⟩
  have hok : ∀ t ∈ v.tups, t.ok := fun t ht => (hv.tl.tv.inR t ht).ok (by have := hv.tl.wl; omega)
  intro x hx
  obtain ⟨i, hi⟩ := List.getElem?_of_mem hx
  rw [hv.tl.ls] at hi
  have hil := (List.getElem?_eq_some_iff.1 hi).1
  rw [H3] at hil
  obtain ⟨w, hw⟩ : ∃ w, (wrS v.evs)[i]? = some w := Av hil
  have hg : ∀ (ws : List Int) (n i : Nat) (w : Int), ws[i]? = some w → (Cx v.tups n ws)[i]? = some (Dr v.tups ((n + i : Nat) : Int) w) := by
   intro ws
   induction ws with
   | nil => intro n i w h; simp at h
   | cons a ws ih =>
    intro n i w h
    cases i with
    | zero => cases h; rfl
    | succ i =>
     have := ih (n + 1) i w (by simpa using h)
     rw [Cx, List.getElem?_cons_succ, this, show n + 1 + i = n + (i + 1) by omega]
  have hs := hv.tl.sc i w hw
  rw [hg _ 0 i w hw, Nat.zero_add] at hi
  cases hi
  refine Aoh hok ?_ hs
  obtain ⟨e, he, rfl⟩ := List.mem_map.1 (List.mem_of_getElem? hw)
  have hee := hv.ev e he
  rw [Ev.len_ok hee.1 hee.2]
  exact Al8 ((err_iff.1 hee.1).2.2.2.1 hee.2)
theorem Uf {v : Vo} {L : Int} (h : ckE v L = 0) : Co v L = ckL v L ∧ B4 v L = 0 ∧ B4 v 1 = 0 := by
 obtain ⟨h1, h2⟩ := Mq h
 exact ⟨h2.symm, h1, by obtain ⟨_, _, h6, h7⟩ := len_ok h1; rw [← Yb (L := L) (by omega)]; exact h1⟩
theorem Aok (v : Vo) (L t : Int) (h : ckE v L = 0) : XC Tryz.prog 24 [.agg (Vo.c v), .v (.int .i64 L), .v (.int .i64 t)] (fun r => r = .tup [dI (atS (ckL v L) t (ckL v L).length).1, dI (atS (ckL v L) t (ckL v L).length).2]) := by
 obtain ⟨hlL, hl, hl1⟩ := Uf h
 rw [← hlL]
 have hp := Aew h
 rw [← hlL] at hp
 have hol := R0 (Co v L)
 have hNl := (K5 v L).len
 refine An Adg Tryz.func24 R R lb<|zr<|XL.step R (As 3 (l := [.d (.sl 13 (v.evs.map Ev.c)), .d (.sl 4 (v.tups.map Tp.c))]) R R (by kernel_rfl))<|za R R<|za R R<|znr<|zp (Ae (s' := .d (.agg (Vo.c v))) (Ad (Ac R R A8 R lb)) (by kernel_rfl))<|zm R R<|XL.call1 R R (Aff _ _ (by assumption) (by assumption)) R<|za R R<|zn<|zs<|zr<|za R R<|?_
 refine zn<|Ag<|?_
 refine Au (α := Nat) (fun j => j ≤ (Co v L).length ∧ ∀ i, i < j → tot ((Co v L).take i) ≤ t) (fun j => mkF [(2, .d (dI t)), (6, .d (dI (atJ (Co v L) j).1)), (7, .d (dI (atJ (Co v L) j).2)), (8, .d (.sl 1 (Bu (Fb (Co v L))))), (9, .d (dI (j : Nat)))]) (fun j => mkH []) (fun j => (Co v L).length - j) (0) (⟨Nat.zero_le _, fun i h => absurd h (Nat.not_lt_zero _)⟩) ?_ ?_ ?_
 exact fz ⟨sr, sr, sr, sr, sr, trivial⟩
 exact HSub.nil
 intro j hk0
 obtain ⟨hj, hall⟩ := hk0
 refine zs<|zr<|zm R R<|zm R R<|XL.len R R R Tryz.underlying64 fun hl15=>zp (Aq R R R)<|zm R R<|?_
 refine XL.dec 17 R (fun g17 => ?_) (fun g17 => ?_)
 obtain ⟨x, hx⟩ : ∃ x, (Fb (Co v L))[j]? = some x := Av (by omega)
 refine zm R R<|zm R R<|zp (Ak R R R Cy (hx))<|zp (Ax R R Ai)<|zm R R<|zp (E4 R R R)<|zq R R R<|zn<|?_
 refine zd R (fun c24 => ?_) (fun c24 => ?_)
 refine zi<|zs<|Ag<|Bc [] (by kernel_rfl) (by kernel_rfl) (by kernel_rfl) (by decide)<|ym R R<|ym R R<|ym R R<|yp (Ak R R R Cy (hx))<|yp (Ax R R Ai)<|ya R R<|ya R R<|?_
 refine ChK.nil ⟨by kernel_rfl, ?_⟩
 refine Af (by kernel_rfl)<|zm R R<|zp (Aj R R R (by omega) (by omega))<|za R R<|zn<|?_
 exact Al (j + 1) (⟨by omega, fun i hi => by by_cases e : i = j; (· subst e; rw [← H0 hx]; exact c24); (· exact hall i (by omega))⟩) (by omega) (fz ⟨sr, sr, .same (sI (H0 hx)), sr, sr, trivial⟩) (HSub.nil)
 have he := Agw hp hj hall (.inr (by rw [← H0 hx]; omega)) (Co v L).length hj (Nat.le_refl _)
 refine Ap<|zr<|zm R R<|zm R R<|za R R<|za R R<|zn<|zt<|?_
 exact Bj R (RV.tmp R R) (RV.tmp R R) (r2 (rI (by rw [he])) (rI (by rw [he])))
 have he := Agw hp hj hall (.inl (by omega)) (Co v L).length hj (Nat.le_refl _)
 refine zk 6 R<|zq R R R<|zn<|A3 (by kernel_rfl) R<|Ap<|zr<|zm R R<|zm R R<|za R R<|za R R<|zn<|zt<|?_
 exact Bj R (RV.tmp R R) (RV.tmp R R) (r2 (rI (by rw [he])) (rI (by rw [he])))
end Go.Proofs.YtcihalbakenleaaGreat
namespace Go.Proofs.YtcihalbakenleaaGreat
open Go.RowKit
theorem D2 : DecQ Tryz.prog 3 Fo := DecQ.int Tryz.underlying3
def QPit : List D → Prop := QS [Fo, Fo, Fo]
theorem Ai0 : DecQ Tryz.prog 89 QPit := by
 refine DecQ.struct _ Tryz.underlying89 rfl (by kernel_rfl) fun i f Q hf hQ => ?_
 match i, hf, hQ with
 | 0, hf, hQ => cases hf; cases hQ; exact D2
 | 1, hf, hQ => cases hf; cases hQ; exact D2
 | 2, hf, hQ => cases hf; cases hQ; exact D2
 | _ + 3, hf, hQ => simp at hQ
def QHd : List D → Prop := QS [QPit, Agx, Fo]
theorem Aqs : DecQ Tryz.prog 91 QHd := by
 refine DecQ.struct _ Tryz.underlying91 rfl (by kernel_rfl) fun i f Q hf hQ => ?_
 match i, hf, hQ with
 | 0, hf, hQ => cases hf; cases hQ; exact Ai0
 | 1, hf, hQ => cases hf; cases hQ; exact (DecQ.bool Tryz.underlying4)
 | 2, hf, hQ => cases hf; cases hQ; exact D2
 | _ + 3, hf, hQ => simp at hQ
def QGr : List D → Prop := QS [QPit, Fo, Agx]
theorem Aqt : DecQ Tryz.prog 138 QGr := by
 refine DecQ.struct _ Tryz.underlying138 rfl (by kernel_rfl) fun i f Q hf hQ => ?_
 match i, hf, hQ with
 | 0, hf, hQ => cases hf; cases hQ; exact Ai0
 | 1, hf, hQ => cases hf; cases hQ; exact D2
 | 2, hf, hQ => cases hf; cases hQ; exact (DecQ.bool Tryz.underlying4)
 | _ + 3, hf, hQ => simp at hQ
def QSy : List D → Prop := QS [Apy, Fo]
theorem Aqo : DecQ Tryz.prog 140 QSy := by
 refine DecQ.struct _ Tryz.underlying140 rfl (by kernel_rfl) fun i f Q hf hQ => ?_
 match i, hf, hQ with
 | 0, hf, hQ => cases hf; cases hQ; exact (DecQ.str Tryz.underlying9)
 | 1, hf, hQ => cases hf; cases hQ; exact D2
 | _ + 2, hf, hQ => simp at hQ
def QId : List D → Prop := QS [Fo, Fo]
theorem Aqr : DecQ Tryz.prog 54 QId := by
 refine DecQ.struct _ Tryz.underlying54 rfl (by kernel_rfl) fun i f Q hf hQ => ?_
 match i, hf, hQ with
 | 0, hf, hQ => cases hf; cases hQ; exact D2
 | 1, hf, hQ => cases hf; cases hQ; exact D2
 | _ + 2, hf, hQ => simp at hQ
def Apx : List D → Prop := QS [Fo, Fo]
theorem Apq : DecQ Tryz.prog 56 Apx := by
 refine DecQ.struct _ Tryz.underlying56 rfl (by kernel_rfl) fun i f Q hf hQ => ?_
 match i, hf, hQ with
 | 0, hf, hQ => cases hf; cases hQ; exact D2
 | 1, hf, hQ => cases hf; cases hQ; exact D2
 | _ + 2, hf, hQ => simp at hQ
def QEv : List D → Prop := QS [QId, Fo, Apx, QSl 5 QHd, QSl 5 QGr, Fo, Fo, Fo, QSl 2 QSy, Fo, Fo]
theorem Aqu : DecQ Tryz.prog 60 QEv := by
 refine DecQ.struct _ Tryz.underlying60 rfl (by kernel_rfl) fun i f Q hf hQ => ?_
 match i, hf, hQ with
 | 0, hf, hQ => cases hf; cases hQ; exact Aqr
 | 1, hf, hQ => cases hf; cases hQ; exact D2
 | 2, hf, hQ => cases hf; cases hQ; exact Apq
 | 3, hf, hQ => cases hf; cases hQ; exact (DecQ.slice Tryz.underlying48 Aqs (by kernel_rfl) (by decide))
 | 4, hf, hQ => cases hf; cases hQ; exact (DecQ.slice Tryz.underlying57 Aqt (by kernel_rfl) (by decide))
 | 5, hf, hQ => cases hf; cases hQ; exact D2
 | 6, hf, hQ => cases hf; cases hQ; exact D2
 | 7, hf, hQ => cases hf; cases hQ; exact D2
 | 8, hf, hQ => cases hf; cases hQ; exact (DecQ.slice Tryz.underlying58 Aqo (by kernel_rfl) (by decide))
 | 9, hf, hQ => cases hf; cases hQ; exact D2
 | 10, hf, hQ => cases hf; cases hQ; exact D2
 | _ + 11, hf, hQ => simp at hQ
def QTp : List D → Prop := QS [Fo, Fo, Fo, Fo]
theorem Aqn : DecQ Tryz.prog 102 QTp := by
 refine DecQ.struct _ Tryz.underlying102 rfl (by kernel_rfl) fun i f Q hf hQ => ?_
 match i, hf, hQ with
 | 0, hf, hQ => cases hf; cases hQ; exact D2
 | 1, hf, hQ => cases hf; cases hQ; exact D2
 | 2, hf, hQ => cases hf; cases hQ; exact D2
 | 3, hf, hQ => cases hf; cases hQ; exact D2
 | _ + 4, hf, hQ => simp at hQ
def QVo : List D → Prop := QS [QSl 13 QEv, QSl 4 QTp]
theorem Aqm : DecQ Tryz.prog 25 QVo := by
 refine DecQ.struct _ Tryz.underlying25 rfl (by kernel_rfl) fun i f Q hf hQ => ?_
 match i, hf, hQ with
 | 0, hf, hQ => cases hf; cases hQ; exact (DecQ.slice Tryz.underlying22 Aqu (by kernel_rfl) (by decide))
 | 1, hf, hQ => cases hf; cases hQ; exact (DecQ.slice Tryz.underlying23 Aqn (by kernel_rfl) (by decide))
 | _ + 2, hf, hQ => simp at hQ
def QMe : List D → Prop := QS [Fo, Fo, QS (List.replicate 6 Fo)]
theorem Aqq : DecQ Tryz.prog 28 QMe := by
 refine DecQ.struct _ Tryz.underlying28 rfl (by kernel_rfl) fun i f Q hf hQ => ?_
 match i, hf, hQ with
 | 0, hf, hQ => cases hf; cases hQ; exact D2
 | 1, hf, hQ => cases hf; cases hQ; exact D2
 | 2, hf, hQ => cases hf; cases hQ; exact (DecQ.array Tryz.underlying26 (by kernel_rfl) D2)
 | _ + 3, hf, hQ => simp at hQ
def QPl : List D → Prop := QS [QMe, Fo, Fo]
theorem Aqp : DecQ Tryz.prog 30 QPl := by
 refine DecQ.struct _ Tryz.underlying30 rfl (by kernel_rfl) fun i f Q hf hQ => ?_
 match i, hf, hQ with
 | 0, hf, hQ => cases hf; cases hQ; exact Aqq
 | 1, hf, hQ => cases hf; cases hQ; exact D2
 | 2, hf, hQ => cases hf; cases hQ; exact D2
 | _ + 3, hf, hQ => simp at hQ
def QA2 : List D → Prop := QS (List.replicate 2 Fo)
theorem Kn {α : Type} {Q : List D → Prop} {c : α → List D} {ok : α → Prop} (hq : ∀ ds, Q ds → ∃ a, ds = c a ∧ ok a) : ∀ {l : List (List D)}, (∀ x ∈ l, Q x) → ∃ L : List α, l = L.map c ∧ ∀ a ∈ L, ok a
 | [], _ => ⟨[], rfl, fun a h => by cases h⟩
 | x :: l, h => by
  obtain ⟨a, rfl, ha⟩ := hq x (h x List.mem_cons_self)
  obtain ⟨L, rfl, hL⟩ := Kn hq fun y hy => h y (List.mem_cons_of_mem _ hy)
  refine ⟨a :: L, rfl, fun b hb => ?_⟩
  rcases List.mem_cons.1 hb with e | e
  ·rw [e]; exact ha
  ·exact hL b e
theorem QPit.inv {ds : List D} (h : QPit ds) : ∃ p : Pit, ds = p.c := by
 obtain ⟨_, _, rfl, ⟨a, rfl, ha⟩, _, _, rfl, ⟨b, rfl, hb⟩, _, _, rfl, ⟨c, rfl, hc⟩, rfl⟩ := h
 exact ⟨⟨a, b, c⟩, rfl⟩
theorem QHd.inv (ds : List D) (h : QHd ds) : ∃ x : Hd, ds = x.c ∧ True := by
 obtain ⟨_, _, rfl, hp, _, _, rfl, ⟨t, rfl⟩, _, _, rfl, ⟨s, rfl, _⟩, rfl⟩ := h
 obtain ⟨p, rfl⟩ := hp.inv
 exact ⟨⟨p, t, s⟩, rfl, trivial⟩
theorem QGr.inv (ds : List D) (h : QGr ds) : ∃ x : Gr, ds = x.c ∧ True := by
 obtain ⟨_, _, rfl, hp, _, _, rfl, ⟨s, rfl, _⟩, _, _, rfl, ⟨t, rfl⟩, rfl⟩ := h
 obtain ⟨p, rfl⟩ := hp.inv
 exact ⟨⟨p, s, t⟩, rfl, trivial⟩
theorem QSy.inv (ds : List D) (h : QSy ds) : ∃ x : Sy, ds = x.c ∧ True := by
 obtain ⟨_, _, rfl, ⟨t, rfl⟩, _, _, rfl, ⟨s, rfl, _⟩, rfl⟩ := h
 exact ⟨⟨t.data.toList, s⟩, rfl, trivial⟩
theorem QTp.inv (ds : List D) (h : QTp ds) : ∃ x : Tp, ds = x.c ∧ True := by
 obtain ⟨_, _, rfl, ⟨a, rfl, ha⟩, _, _, rfl, ⟨b, rfl, hb⟩, _, _, rfl, ⟨c, rfl, hc⟩, _, _, rfl, ⟨d, rfl, hd⟩, rfl⟩ := h
 exact ⟨⟨a, b, c, d⟩, rfl, trivial⟩
theorem QEv.inv (ds : List D) (h : QEv ds) : ∃ x : Ev, ds = x.c ∧ x.art ≤ 9223372036854775807 := by
 obtain ⟨_, _, rfl, ⟨_, _, rfl, ⟨s, rfl, _⟩, _, _, rfl, ⟨n, rfl, _⟩, rfl⟩, _, _, rfl, ⟨k, rfl, _⟩, _, _, rfl, ⟨_, _, rfl, ⟨lg, rfl, _⟩, _, _, rfl, ⟨dt, rfl, _⟩, rfl⟩, _, _, rfl, ⟨hs, rfl, hh⟩, _, _, rfl, ⟨gs, rfl, hg⟩,
  _, _, rfl, ⟨ar, rfl, har⟩, _, _, rfl, ⟨om, rfl, _⟩, _, _, rfl, ⟨dy, rfl, _⟩, _, _, rfl, ⟨ls, rfl, hl⟩, _, _, rfl, ⟨st, rfl, _⟩, _, _, rfl, ⟨be, rfl, _⟩, rfl⟩ := h
 obtain ⟨H, rfl, _⟩ := Kn QHd.inv hh
 obtain ⟨G, rfl, _⟩ := Kn QGr.inv hg
 obtain ⟨L, rfl, _⟩ := Kn QSy.inv hl
 exact ⟨⟨s, n, k, ⟨lg, dt⟩, H, G, ar, om, dy, L, st, be⟩, rfl, har.2⟩
theorem QVo.inv (ds : List D) (h : QVo ds) : ∃ v : Vo, ds = v.c ∧ Evs v.evs := by
 obtain ⟨_, _, rfl, ⟨es, rfl, he⟩, _, _, rfl, ⟨ts, rfl, ht⟩, rfl⟩ := h
 obtain ⟨E, rfl, hE⟩ := Kn QEv.inv he
 obtain ⟨T, rfl, _⟩ := Kn QTp.inv ht
 exact ⟨⟨E, T⟩, rfl, hE⟩
theorem QMe.inv (ds : List D) (h : QMe ds) : ∃ m : Me, ds = m.c := by
 obtain ⟨_, _, rfl, ⟨c, rfl, _⟩, _, _, rfl, ⟨u, rfl, _⟩, _, _, rfl, ⟨_, _, rfl, ⟨g0, rfl, hg0⟩, _, _, rfl, ⟨g1, rfl, hg1⟩, _, _, rfl, ⟨g2, rfl, hg2⟩, _, _, rfl, ⟨g3, rfl, hg3⟩, _, _, rfl, ⟨g4, rfl, hg4⟩, _, _, rfl, ⟨g5, rfl, hg5⟩, rfl⟩, rfl⟩ := h
 exact ⟨⟨c, u, g0, g1, g2, g3, g4, g5⟩, rfl⟩
theorem QPl.inv (ds : List D) (h : QPl ds) : ∃ p : Pl, ds = p.c := by
 obtain ⟨_, _, rfl, hm, _, _, rfl, ⟨a, rfl, _⟩, _, _, rfl, ⟨b, rfl, _⟩, rfl⟩ := h
 obtain ⟨m, rfl⟩ := QMe.inv _ hm
 exact ⟨⟨m, a, b⟩, rfl⟩
end Go.Proofs.YtcihalbakenleaaGreat
namespace Go.Proofs.YtcihalbakenleaaGreat
open Go.RowKit
def soundS (v : Vo) (L t : Int) : List Hd := if atE v L t ≠ 0 then [] else match v.evs[(atV v L t).1.toNat]? with
 | some x => x.heads
 | none => []
theorem Ai7 (v : Vo) (L t : Int) : (ckE v L ≠ 0 → atE v L t = ckE v L) ∧ (ckE v L = 0 → v.evs.length = 0 → atE v L t = 10) ∧ (ckE v L = 0 → v.evs.length ≠ 0 → (t < 0 ∨ L ≤ t) → atE v L t = 2) ∧ (ckE v L = 0 → v.evs.length ≠ 0 → ¬ (t < 0 ∨ L ≤ t) → atE v L t = 0) := by
 refine ⟨fun h => Abe h, fun h h2 => Abd (fun k => k h) (by have := J2 h; omega), fun h h2 h3 => Sc (fun k => k h) (by have := J2 h; omega) h3, fun h h2 h3 => (Agv (fun k => k h) (by have := J2 h; omega) h3).2.symm⟩
theorem Apv {v : Vo} {L t : Int} (h : atE v L t = 0) : atV v L t = atS (ckL v L) t (ckL v L).length := by rw [atV, if_neg (by omega)]
end Go.Proofs.YtcihalbakenleaaGreat
namespace Go.Proofs.YtcihalbakenleaaGreat
def Aq3 : List (List Pit × Int) → Int → List Pit
  | [], _ => []
  | (p, w) :: r, t => if t < w then p else Aq3 r (t - w)
def evP (e : Ev) : List Pit := Aor e.heads
def zipV (es : List Ev) (ls : List Int) : List (List Pit × Int) := (es.map evP).zip ls
theorem Ahe : ∀ {ls : List Int} {t : Int}, 0 ≤ t → t < tot ls → ∃ (k : Nat) (w : Int), ls[k]? = some w ∧ tot (ls.take k) ≤ t ∧ t < tot (ls.take k) + w
  | [], t, h0, h => by rw [Jr] at h; omega
  | w :: r, t, h0, h => by
    rw [Hv] at h
    by_cases c : t < w
    · exact ⟨0, w, rfl, by rw [List.take_zero, Jr]; exact h0, by rw [List.take_zero, Jr]; omega⟩
    · obtain ⟨k, u, h1, h2, h3⟩ := Ahe (ls := r) (t := t - w) (by omega) (by omega)
      exact ⟨k + 1, u, by simpa using h1, by rw [List.take_succ_cons, Hv]; omega, by rw [List.take_succ_cons, Hv]; omega⟩
theorem Ai4 {v : Vo} {L : Int} (h : ckE v L = 0) (hne : v.evs ≠ []) : tot (ckL v L) = L := by
  by_cases c : v.rest
  · rw [(Ny c h).2.1, Hv, Jr]; omega
  · exact ((Ky c).1 ⟨h, rfl⟩).2.2.2 hne
end Go.Proofs.YtcihalbakenleaaGreat
namespace Go.Proofs.YtcihalbakenleaaGreat
open Go.RowKit
def Le (u : Int) (j : Nat) : Bool := (List.range j).any fun i => decide (u = 2 ^ i)
theorem U2 (u : Int) (j : Nat) : Le u (j + 1) = (Le u j || decide (u = 2 ^ j)) := by
 unfold Le; rw [List.range_succ, List.any_append]; simp
theorem Aoq {j : Nat} (h : j ≤ 7) : (j < 7 ∧ 1 ≤ (2 : Int) ^ j ∧ (2 : Int) ^ j ≤ 64) ∨ (j = 7 ∧ (2 : Int) ^ j = 128) := by
 match j, h with
 | 0, _ => decide
 | 1, _ => decide
 | 2, _ => decide
 | 3, _ => decide
 | 4, _ => decide
 | 5, _ => decide
 | 6, _ => decide
 | 7, _ => decide
 | j + 8, h => omega
theorem pow_iff {m : Me} : Le m.unit 7 = true ↔ ¬ (m.unit < 1 ∨ 64 < m.unit ∨ ¬ m.pow) := by
 have h0 : ∀ n : Nat, n < 65 → (Le (n : Int) 7 = true ↔ ¬ ((n : Int) < 1 ∨ 64 < (n : Int) ∨ ¬ (((n : Int).toNat &&& ((n : Int) - 1).toNat : Nat) : Int) = 0)) := by decide +kernel
 by_cases c : 0 ≤ m.unit ∧ m.unit ≤ 64
 ·obtain ⟨n, hn⟩ := Int.eq_ofNat_of_zero_le c.1
  have := h0 n (by omega)
  unfold Me.pow
  rw [hn]; exact this
 ·constructor
  ·intro h
   unfold Le at h
   rw [List.any_eq_true] at h
   obtain ⟨i, hi, h⟩ := h
   have hi := List.mem_range.1 hi
   have h := of_decide_eq_true h
   have := Aoq (j := i) (by omega)
   omega
  ·intro h; omega
theorem Ais {m : Me} {s n : Int} (h : gGo 0 0 0 m.gs = some (s, n)) : m.flat ↔ n = 0 := by
 have hg : ∀ (l : List Int) (k : Nat) (s n s' n' : Int), gGo k s n l = some (s', n') → 0 ≤ n → n ≤ n' ∧ (n' = n ↔ ∀ g ∈ l, g = 0) := by
  intro l
  induction l with
  | nil =>
   intro k s n s' n' h _
   rw [gGo] at h; cases h
   exact ⟨Int.le_refl _, fun _ g hg => (by cases hg), fun _ => rfl⟩
  | cons g l ih =>
   intro k s n s' n' h h0
   rw [gGo] at h
   split at h
   ·cases h
   ·rename_i c
    split at h
    ·rename_i c2
     obtain ⟨h1, h2⟩ := ih _ _ _ _ _ h (by omega)
     exact ⟨by omega, fun e => by omega, fun e => by have := e g List.mem_cons_self; omega⟩
    ·rename_i c2
     obtain ⟨h1, h2⟩ := ih _ _ _ _ _ h h0
     refine ⟨h1, fun e x hx => ?_, fun e => h2.2 fun x hx => e x (List.mem_cons_of_mem _ hx)⟩
     rcases List.mem_cons.1 hx with q | q
     ·rw [q]; omega
     ·exact h2.1 e x q
 have h2 := (hg m.gs 0 0 0 s n h (Int.le_refl _)).2
 rw [h2]
 unfold Me.flat Me.gs
 simp only [List.mem_cons, List.not_mem_nil, or_false, forall_eq_or_imp, forall_eq]
theorem Anj {m : Me} {s n : Int} (h : gGo 0 0 0 m.gs = some (s, n)) (h0 : 0 ≤ n) : m.grouped ↔ ¬ (n = 1 ∨ (1 < n ∧ s ≠ m.count)) := by
 by_cases c : m.flat
 ·have := (Ais h).1 c
  exact ⟨fun _ => by omega, fun _ => .inl c⟩
 ·have hn := (not_congr (Ais h)).1 c
  rw [Yi c h]; omega
theorem Te {m : Me} (h : ¬ (m.count < 1 ∨ 64 < m.count)) (h2 : Le m.unit 7 = true) (h3 : ¬ m.grouped) : 19 = m.err := Ao1 h (pow_iff.1 h2) h3
theorem Aln {m : Me} (h : ¬ (m.count < 1 ∨ 64 < m.count)) (h2 : Le m.unit 7 = true) (h3 : m.grouped) : 0 = m.err := Ao0 h (pow_iff.1 h2) h3
theorem Aqg {m : Me} (h : ¬ (m.count < 1 ∨ 64 < m.count)) (h2 : ¬ Le m.unit 7 = true) : 17 = m.err := Af1 h (Decidable.not_not.1 fun k => h2 (pow_iff.2 k))
theorem X5 {m : Me} (h1 : gGo 0 0 0 m.gs = none) : ¬ m.grouped := by
 rintro (h | h)
 ·have : m.gs = [0, 0, 0, 0, 0, 0] := by unfold Me.flat at h; unfold Me.gs; rw [h.1, h.2.1, h.2.2.1, h.2.2.2.1, h.2.2.2.2.1, h.2.2.2.2.2]
  rw [this] at h1
  revert h1; decide
 ·rw [h1] at h; exact h
theorem Yg {m : Me} {k : Nat} {g : Int} (h : m.gs[k]? = some g) : ((Me.c m).map S.d)[2 + k]? = some (S.d (dI g)) := by
 have : (m.gs.map fun g => S.d (dI g))[k]? = some (S.d (dI g)) := by rw [List.getElem?_map, h]; rfl
 have e : ((Me.c m).map S.d) = [S.d (dI m.count), S.d (dI m.unit)] ++ m.gs.map fun g => S.d (dI g) := rfl
 rw [e, List.getElem?_append_right (by simp)]
 simpa using this
theorem Are {b : Bool} (h : (!b) = true) : ¬ b = true := by cases b <;> simp_all
theorem Aqf {b : Bool} (h : (!b) = false) : b = true := by cases b <;> simp_all
theorem Abr (m : Me) : XC Tryz.prog 36 [.agg (Me.c m)] (fun r => r = dI m.err) := by
 refine An Adb Tryz.func36 R R lb<|zr<|XL.step R (As 1 (l := [.d (dI m.count), .d (dI m.unit), .d (dI m.g0), .d (dI m.g1), .d (dI m.g2), .d (dI m.g3), .d (dI m.g4), .d (dI m.g5)]) R R (by kernel_rfl))<|za R R<|zn<|zs<|zr<|zp (Aa R R Dl)<|zp (Ab R R Ai R R)<|zp (Aq R R R)<|zm R R<|?_
 refine XL.dec 12 R (fun g12 => ?_) (fun g12 => ?_)
 exact zk 3 R<|zq R R R<|zn<|Ao (by kernel_rfl) R<|zr<|za R R<|zn<|zt<|z1 R R (rI (Af2 (.inl g12)))
 refine zp (Aa R R Dl)<|zp (Ab R R Ai R R)<|zp (A5 R R R)<|zq R R R<|zn<|?_
 refine zd R (fun c16 => ?_) (fun c16 => ?_)
 exact zr<|za R R<|zn<|zt<|z1 R R (rI (Af2 (.inr c16)))
 refine zi<|zr<|za R R<|zn<|zs<|zr<|za R R<|zn<|Ag<|?_
 refine Au (α := Nat) (fun j => j ≤ 7) (fun j => mkF [(1, .ptr 1 0 0), (2, .d (dI 0)), (3, .d (dB (Le m.unit j))), (4, .d (dI (2 ^ j)))]) (fun j => mkH [(1, .box ((Me.c m).map S.d))]) (fun j => 7 - j) (0) (Nat.zero_le _) ?_ ?_ ?_
 exact fz ⟨sr, sr, sr, .same (sI (by decide)), trivial⟩
 exact gz ⟨R, trivial⟩
 intro j hk0
 have hp7 := Aoq hk0
 refine zs<|zr<|zm R R<|zp (E4 R R R)<|zn<|?_
 refine zd R (fun c18 => ?_) (fun c18 => ?_)
 refine zi<|zs<|Ag<|Af (by kernel_rfl)<|zm R R<|zm R R<|?_
 refine XL.bool 22 R (fun g22 => ?_) (fun g22 => ?_)
 refine zk 4 R<|zq R R R<|za R R<|zn<|Af (by kernel_rfl)<|zm R R<|zp (Gy R R R (by omega) (by omega))<|za R R<|zn<|?_
 exact Al (j + 1) (by omega) (by omega) (fz ⟨sr, sr, .same (sB (by rw [U2, g22]; rfl)), .same (sI (by rw [Int.pow_succ]; omega)), trivial⟩) (gz ⟨R, trivial⟩)
 refine zp (Aa R R Hb)<|zp (Ab R R Ai R R)<|zm R R<|zp (Ay R R R)<|zq R R R<|za R R<|zn<|Af (by kernel_rfl)<|zm R R<|zp (Gy R R R (by omega) (by omega))<|za R R<|zn<|?_
 exact Al (j + 1) (by omega) (by omega) (fz ⟨sr, sr, .same (sB (by rw [U2, g22]; rfl)), .same (sI (by rw [Int.pow_succ]; omega)), trivial⟩) (gz ⟨R, trivial⟩)
 have hj7 : j = 7 := by omega
 subst hj7
 refine Ap<|zs<|zr<|zm R R<|zp (C3 R R)<|zn<|?_
 refine Du (by kernel_rfl) R (fun c29 => ?_) (fun c29 => ?_)
 exact zr<|za R R<|zn<|zt<|z1 R R (rI (Aqg (by omega) (Are c29)))
 have hpw := Aqf c29
 refine zi<|zr<|za R R<|za R R<|zn<|zs<|zr<|za R R<|zn<|Ag<|?_
 refine Au (α := Nat × Int × Int) (fun p => p.1 ≤ 6 ∧ gGo p.1 p.2.1 p.2.2 (m.gs.drop p.1) = gGo 0 0 0 m.gs ∧ 0 ≤ p.2.1 ∧ p.2.1 ≤ 64 * p.1 ∧ 0 ≤ p.2.2 ∧ p.2.2 ≤ p.1) (fun p => mkF [(1, .ptr 1 0 0), (5, .d (dI p.2.1)), (6, .d (dI p.2.2)), (7, .d (dI (p.1 : Nat)))]) (fun p => mkH [(1, .box ((Me.c m).map S.d))]) (fun p => 6 - p.1) ((0, 0, 0)) (⟨Nat.zero_le _, R, by simp, by simp, by simp, by simp⟩) ?_ ?_ ?_
 exact fz ⟨sr, sr, sr, sr, trivial⟩
 exact gz ⟨R, trivial⟩
 intro p hk2
 obtain ⟨hk, hgo, hs0, hs1, hn0, hn1⟩ := hk2
 refine zs<|zr<|zm R R<|zp (Aq R R R)<|zn<|?_
 refine zd R (fun c31 => ?_) (fun c31 => ?_)
 obtain ⟨g, hg⟩ : ∃ g, m.gs[p.1]? = some g := Av (by show p.1 < 6; omega)
 refine zi<|zs<|Ag<|zr<|zm R R<|zp (Aa R R Fu)<|zp (G5 R R R Tryz.underlying26 C2 (by omega))<|zp (Ab R R Ai R (Yg hg))<|za R R<|zn<|zs<|zr<|zm R R<|zp (Aq R R R)<|?_
 refine zm R R<|?_
 refine XL.dec 40 R (fun g40 => ?_) (fun g40 => ?_)
 exact zk 2 R<|zq R R R<|zm R R<|zk 7 R<|zq R R R<|zn<|Ao (by kernel_rfl) R<|zr<|za R R<|zn<|zt<|z1 R R (rI (Te (by omega) hpw (X5 (by rw [← hgo]; exact Ko hg (by omega)))))
 refine zm R R<|zp (A5 R R R)<|zq R R R<|zm R R<|?_
 refine XL.dec 44 R (fun g44 => ?_) (fun g44 => ?_)
 exact zk 7 R<|zq R R R<|zn<|Ao (by kernel_rfl) R<|zr<|za R R<|zn<|zt<|z1 R R (rI (Te (by omega) hpw (X5 (by rw [← hgo]; exact Ko hg (by omega)))))
 refine zm R R<|zp (A5 R R R)<|zm R R<|?_
 refine XL.dec 47 R (fun g47 => ?_) (fun g47 => ?_)
 refine zm R R<|zm R R<|zp (Aq R R R)<|zq R R R<|zq R R R<|zn<|?_
 refine zd R (fun c52 => ?_) (fun c52 => ?_)
 exact zr<|za R R<|zn<|zt<|z1 R R (rI (Te (by omega) hpw (X5 (by rw [← hgo]; exact Ko hg (by omega)))))
 refine zi<|zr<|zm R R<|zp (A5 R R R)<|zn<|?_
 refine zd R (fun c54 => ?_) (fun c54 => ?_)
 refine Af (by kernel_rfl)<|zm R R<|zm R R<|zp (Aj R R R (by omega) (by omega))<|zm R R<|zp (Aj R R R (by omega) (by omega))<|za R R<|za R R<|zn<|Af (by kernel_rfl)<|zm R R<|zp (Aj R R R (by omega) (by omega))<|za R R<|zn<|?_
 exact Al ((p.1 + 1, p.2.1 + g, p.2.2 + 1)) (⟨by simp only; omega, by rw [← Ael hg (by omega) c54]; exact hgo, by simp only; omega, by simp only; omega, by simp only; omega, by simp only; omega⟩) (by simp only; omega) (fz ⟨sr, sr, sr, sr, trivial⟩) (gz ⟨rfl, trivial⟩)
 refine zi<|Af (by kernel_rfl)<|zm R R<|zp (Aj R R R (by omega) (by omega))<|za R R<|zn<|?_
 exfalso; omega
 refine zk 3 R<|zq R R R<|zq R R R<|zn<|A3 (by kernel_rfl) R<|zi<|zr<|zm R R<|zp (A5 R R R)<|zn<|?_
 refine zd R (fun c54 => ?_) (fun c54 => ?_)
 refine Af (by kernel_rfl)<|zm R R<|zm R R<|zp (Aj R R R (by omega) (by omega))<|zm R R<|zp (Aj R R R (by omega) (by omega))<|za R R<|za R R<|zn<|Af (by kernel_rfl)<|zm R R<|zp (Aj R R R (by omega) (by omega))<|za R R<|zn<|?_
 exfalso; omega
 refine zi<|Af (by kernel_rfl)<|zm R R<|zp (Aj R R R (by omega) (by omega))<|za R R<|zn<|?_
 exact Al ((p.1 + 1, p.2.1, p.2.2)) (⟨by simp only; omega, by rw [← Aiq hg (by omega) c54]; exact hgo, by simp only; omega, by simp only; omega, by simp only; omega, by simp only; omega⟩) (by simp only; omega) (fz ⟨sr, sr, sr, sr, trivial⟩) (gz ⟨rfl, trivial⟩)
 have hke : p.1 = 6 := by omega
 have hend : gGo 0 0 0 m.gs = some (p.2.1, p.2.2) := by rw [← hgo, hke]; rfl
 have hgr := Anj hend hn0
 refine Ap<|zs<|zr<|zm R R<|zp (Ay R R R)<|zm R R<|?_
 refine XL.dec 62 R (fun g62 => ?_) (fun g62 => ?_)
 exact zk 8 R<|zq R R R<|zn<|Ao (by kernel_rfl) R<|zr<|za R R<|zn<|zt<|z1 R R (rI (Te (by omega) hpw (fun k => hgr.1 k (.inl g62))))
 refine zm R R<|zp (A5 R R R)<|zm R R<|?_
 refine XL.dec 65 R (fun g65 => ?_) (fun g65 => ?_)
 refine zm R R<|zp (Aa R R Dl)<|zp (Ab R R Ai R R)<|zp (Bh R R R)<|zq R R R<|zq R R R<|zn<|?_
 refine zd R (fun c71 => ?_) (fun c71 => ?_)
 exact zr<|za R R<|zn<|zt<|z1 R R (rI (Te (by omega) hpw (fun k => hgr.1 k (by omega))))
 exact zi<|zr<|za R R<|zn<|zt<|z1 R R (rI (Aln (by omega) hpw (hgr.2 (by omega))))
 exact zk 4 R<|zq R R R<|zq R R R<|zn<|A3 (by kernel_rfl) R<|zi<|zr<|za R R<|zn<|zt<|z1 R R (rI (Aln (by omega) hpw (hgr.2 (by omega))))
def Pl.err (p : Pl) : Int := if p.m.err ≠ 0 then p.m.err else if p.bad then 2 else 0
theorem Aqa {p : Pl} (h : p.m.err ≠ 0) : p.m.err = p.err := by rw [Pl.err, if_pos h]
theorem Wk {p : Pl} (h : ¬ p.m.err ≠ 0) (h2 : p.bad) : 2 = p.err := by rw [Pl.err, if_neg h, if_pos h2]
theorem Ap9 {p : Pl} (h : ¬ p.m.err ≠ 0) (h2 : ¬ p.bad) : 0 = p.err := by rw [Pl.err, if_neg h, if_neg h2]
theorem Alt {p : Pl} {v : Vo} : p.chk v = if p.err ≠ 0 then p.err else ckE v p.len := by
 unfold Pl.chk Pl.err
 by_cases c : p.m.err ≠ 0
 ·rw [if_pos c, if_pos c, if_pos c]
 ·rw [if_neg c, if_neg c]
  by_cases c2 : p.bad
  ·rw [if_pos c2, if_pos c2]; rfl
  ·rw [if_neg c2, if_neg c2, if_neg (by decide)]
theorem Ahv (p : Pl) : XC Tryz.prog 49 [.agg (Pl.c p)] (fun r => r = dI p.err) := by
 refine An Ac6 Tryz.func49 R R lb<|zr<|XL.step R (As 1 (l := [.d (dI p.m.count), .d (dI p.m.unit), .d (dI p.m.g0), .d (dI p.m.g1), .d (dI p.m.g2), .d (dI p.m.g3), .d (dI p.m.g4), .d (dI p.m.g5), .d (dI p.off), .d (dI p.len)]) R R (by kernel_rfl))<|za R R<|zn<|zs<|zr<|zp (Aa R R Mp)<|?_
 refine zp (Ae (s' := .d (.agg (Me.c p.m))) (Ad (Ac R R Bb R lb)) (by kernel_rfl))<|XL.call1 R R (Abr _) R<|za R R<|znr<|zm R R<|zp (Bh R R R)<|zn<|?_
 refine zd R (fun c8 => ?_) (fun c8 => ?_)
 exact zr<|zm R R<|za R R<|zn<|zt<|z1 R R (rI (Aqa c8))
 refine zi<|zs<|zr<|zp (Aa R R Ft)<|zp (Ab R R Ai R R)<|zp (Aq R R R)<|zm R R<|?_
 refine XL.dec 13 R (fun g13 => ?_) (fun g13 => ?_)
 exact zk 3 R<|zq R R R<|zm R R<|zk 3 R<|zq R R R<|zm R R<|zk 3 R<|zq R R R<|zn<|Ao (by kernel_rfl) R<|zr<|za R R<|zn<|zt<|z1 R R (rI (Wk c8 (by unfold Pl.bad; omega)))
 refine zp (Aa R R Ft)<|zp (Ab R R Ai R R)<|zp (A5 R R R)<|zq R R R<|zm R R<|?_
 refine XL.dec 18 R (fun g18 => ?_) (fun g18 => ?_)
 exact zk 3 R<|zq R R R<|zm R R<|zk 3 R<|zq R R R<|zn<|Ao (by kernel_rfl) R<|zr<|za R R<|zn<|zt<|z1 R R (rI (Wk c8 (by unfold Pl.bad; omega)))
 refine zp (Aa R R Kt)<|zp (Ab R R Ai R R)<|zp (Aq R R R)<|zq R R R<|zm R R<|?_
 refine XL.dec 23 R (fun g23 => ?_) (fun g23 => ?_)
 exact zk 3 R<|zq R R R<|zn<|Ao (by kernel_rfl) R<|zr<|za R R<|zn<|zt<|z1 R R (rI (Wk c8 (by unfold Pl.bad; omega)))
 refine zp (Aa R R Kt)<|zp (Ab R R Ai R R)<|zp (A5 R R R)<|zq R R R<|zn<|?_
 refine zd R (fun c27 => ?_) (fun c27 => ?_)
 exact zr<|za R R<|zn<|zt<|z1 R R (rI (Wk c8 (by unfold Pl.bad; omega)))
 exact zi<|zr<|za R R<|zn<|zt<|z1 R R (rI (Ap9 c8 (by unfold Pl.bad; omega)))
theorem Agg (v : Vo) (p : Pl) (hE : Evs v.evs) (ht : v.tups.length ≤ 1000) : XC Tryz.prog 16 [.agg (Vo.c v), .agg (Pl.c p)] (fun r => r = dI (p.chk v)) := by
 refine An Adm Tryz.func16 R R lb<|zr<|XL.step R (As 2 (l := [.d (.sl 13 (v.evs.map Ev.c)), .d (.sl 4 (v.tups.map Tp.c))]) R R (by kernel_rfl))<|XL.step R (As 3 (l := [.d (dI p.m.count), .d (dI p.m.unit), .d (dI p.m.g0), .d (dI p.m.g1), .d (dI p.m.g2), .d (dI p.m.g3), .d (dI p.m.g4), .d (dI p.m.g5), .d (dI p.off), .d (dI p.len)]) R R (by kernel_rfl))<|za R R<|zn<|zs<|zr<|?_
 refine zp (Ae (s' := .d (.agg (Pl.c p))) (Ad (Ac R R Kc R lb)) (by kernel_rfl))<|XL.call1 R R (Ahv _) R<|za R R<|znr<|zm R R<|zp (Bh R R R)<|zn<|?_
 refine zd R (fun c9 => ?_) (fun c9 => ?_)
 exact zr<|zm R R<|za R R<|zn<|zt<|z1 R R (rI (by rw [Alt, if_pos c9]))
 exact zi<|zr<|zp (Ae (s' := .d (.agg (Vo.c v))) (Ad (Ac R R A8 R lb)) (by kernel_rfl))<|zp (Aa R R G9)<|zp (Ab R R Ai R R)<|XL.call1 R R (Nk _ _ (by assumption) (by omega)) R<|za R R<|zn<|zt<|z1 R R (rI (by rw [Alt, if_neg c9]))
theorem Anx {v : Vo} {p : Pl} {t : Int} (hc : p.chk v = 0) (h : (Eo v p t).2 = 0) : Eo v p t = Fx v p t := by
 by_cases c : v.absent
 ·rw [Ak6 (by omega) c] at h; exact absurd h (by decide)
 ·by_cases c2 : t < 0 ∨ p.len < t
  ·rw [Ag0 (by omega) c c2] at h; exact absurd h (by decide)
  ·exact Ak5 (by omega) c c2
end Go.Proofs.YtcihalbakenleaaGreat
namespace Go.Proofs.YtcihalbakenleaaGreat
open Go.RowKit
theorem Gp (m : Me) (h : Mok m) : XC Tryz.prog 161 [.agg (Me.c m)] (fun r => r = dI m.u) := by
 have hu := h.unit
 exact An Zs Tryz.func161 R R lb<|zr<|XL.step R (As 1 (l := [.d (dI m.count), .d (dI m.unit), .d (dI m.g0), .d (dI m.g1), .d (dI m.g2), .d (dI m.g3), .d (dI m.g4), .d (dI m.g5)]) R R (by kernel_rfl))<|za R R<|znr<|zp (Aa R R Hb)<|zp (Ab R R Ai R R)<|zp (F0 R R R (by omega) (by omega) (by omega))<|za R R<|zn<|zt<|z1 R R (rI R)
theorem Rv (m : Me) (h : Mok m) : XC Tryz.prog 157 [.agg (Me.c m)] (fun r => r = dI m.len) := by
 have hu := h.u
 have hc := h.count
 have hl := h.len
 have hl2 : m.count * m.u = m.len := rfl
 refine An Zw Tryz.func157 R R lb<|zr<|XL.step R (As 1 (l := [.d (dI m.count), .d (dI m.unit), .d (dI m.g0), .d (dI m.g1), .d (dI m.g2), .d (dI m.g3), .d (dI m.g4), .d (dI m.g5)]) R R (by kernel_rfl))<|za R R<|zn<|zs<|Bc [] (by kernel_rfl) (by kernel_rfl) (by kernel_rfl) (by decide)<|yp (Aa R R Dl)<|yp (Ab R R Ai R R)<|?_
 refine yp (Ae (s' := .d (.agg (Me.c m))) (Ad (Ac R R Bb R lb)) (by kernel_rfl))<|ChK.cons R (CStep.call R (Gp _ (by assumption)) R)<|yp (Gy R R R (by omega) (by omega))<|ya R R<|?_
 refine ChK.nil ⟨by kernel_rfl, ?_⟩
 exact zt<|z1 R R (rI R)
theorem Ub : ∀ (l : List Int) (k : Nat) (s n s' n' : Int), gGo k s n l = some (s', n') → n ≤ k → (n < k → ∀ g ∈ l, g = 0) ∧ (n = k → l.filter nz = l.takeWhile fun g => decide (0 < g))
 | [], k, s, n, s', n', h, hn => ⟨fun _ g hg => (by cases hg), fun _ => rfl⟩
 | g :: l, k, s, n, s', n', h, hn => by
  rw [gGo] at h
  split at h
  ·cases h
  ·rename_i c
   split at h
   ·rename_i c2
    have hk : (k : Int) = n := by omega
    obtain ⟨h1, h2⟩ := Ub l (k + 1) _ _ _ _ h (by omega)
    refine ⟨fun e => by omega, fun e => ?_⟩
    rw [List.filter_cons_of_pos (S8 (by omega)), List.takeWhile_cons_of_pos (by simpa using c2), h2 (by omega)]
   ·rename_i c2
    obtain ⟨h1, h2⟩ := Ub l (k + 1) _ _ _ _ h (by omega)
    have h3 := h1 (by omega)
    refine ⟨fun e x hx => ?_, fun e => ?_⟩
    ·rcases List.mem_cons.1 hx with q | q
     ·omega
     ·exact h3 x q
    ·rw [List.filter_cons_of_neg (by rw [Afv (by omega)]; exact Bool.false_ne_true), List.takeWhile_cons_of_neg (by simpa using c2)]
     exact List.filter_eq_nil_iff.2 fun x hx => by rw [Afv (h3 x hx)]; exact Bool.false_ne_true
theorem Ua {m : Me} (h : m.grouped) : m.gs.filter nz = m.gs.takeWhile fun g => decide (0 < g) := by
 rcases h with h | h
 ·have : m.gs = [0, 0, 0, 0, 0, 0] := by unfold Me.flat at h; unfold Me.gs; rw [h.1, h.2.1, h.2.2.1, h.2.2.2.1, h.2.2.2.2.1, h.2.2.2.2.2]
  rw [this]; rfl
 ·cases hg : gGo 0 0 0 m.gs with
  | none => rw [hg] at h; exact h.elim
  | some p => exact (Ub m.gs 0 0 0 p.1 p.2 hg (Int.le_refl _)).2 rfl
theorem Wc {p : Int → Bool} : ∀ {l : List Int} {k : Nat}, k ≤ l.length → (∀ (j : Nat) x, j < k → l[j]? = some x → p x = true) → (k = l.length ∨ ∃ x, l[k]? = some x ∧ p x = false) → l.takeWhile p = l.take k
 | [], k, _, _, _ => by rw [List.takeWhile_nil, List.take_nil]
 | x :: l, 0, _, _, h => by
  rcases h with h | ⟨y, h1, h2⟩
  ·simp at h
  ·cases h1; rw [List.takeWhile_cons_of_neg (by rw [h2]; decide)]; rfl
 | x :: l, k + 1, hk, h, h2 => by
  rw [List.takeWhile_cons_of_pos (h 0 x (by omega) rfl), List.take_succ_cons, Wc (k := k) (by simpa using hk) (fun j y hj hy => h (j + 1) y (by omega) hy)]
  rcases h2 with h2 | ⟨y, h4, h5⟩
  ·left; simpa using h2
  ·right; exact ⟨y, by simpa using h4, h5⟩
def Me.gsz (m : Me) : Int := if 8 ≤ m.unit ∧ m.count % 3 = 0 then 3 else 1
theorem Qv {m : Me} (h : 8 ≤ m.unit ∧ m.count % 3 = 0) : m.gsz = 3 := by rw [Me.gsz, if_pos h]
theorem Jh {m : Me} (h : ¬ (8 ≤ m.unit ∧ m.count % 3 = 0)) : m.gsz = 1 := by rw [Me.gsz, if_neg h]
theorem Apa (m : Me) : 1 ≤ m.gsz ∧ m.gsz ≤ 3 := by unfold Me.gsz; split <;> omega
theorem Nv (m : Me) (j : Nat) : (j : Int) ≤ m.gsz * j := by unfold Me.gsz; split <;> omega
theorem Lz {m : Me} (h : m.flat) {j : Nat} (h1 : m.count ≤ m.gsz * j) (h2 : j = 0 ∨ m.gsz * (j - 1 : Nat) < m.count) (hc : 1 ≤ m.count) : List.replicate j m.gsz = m.groups := by
 unfold Me.gsz at *
 by_cases c : 8 ≤ m.unit ∧ m.count % 3 = 0
 ·rw [if_pos c] at h1 h2 ⊢
  rw [Agb (fun k => k h) c, show j = (m.count / 3).toNat by omega]
 ·rw [if_neg c] at h1 h2 ⊢
  rw [Wq (fun k => k h) c, show j = m.count.toNat by omega]
theorem G2 {m : Me} (h : m.grouped) (h0 : m.g0 = 0) : m.flat := by
 have h1 := Ua h
 have : m.gs.takeWhile (fun g => decide (0 < g)) = [] := by
  show (m.g0 :: [m.g1, m.g2, m.g3, m.g4, m.g5]).takeWhile _ = []
  rw [List.takeWhile_cons_of_neg (by rw [h0]; decide)]
 rw [this, List.filter_eq_nil_iff] at h1
 have hz : ∀ g ∈ m.gs, g = 0 := fun g hg => by
  refine Decidable.not_not.1 fun k => h1 g hg (S8 k)
 unfold Me.flat
 unfold Me.gs at hz
 simp only [List.mem_cons, List.not_mem_nil, or_false, forall_eq_or_imp, forall_eq] at hz
 exact hz
theorem Akd {m : Me} (h : ¬ m.g0 = 0) : ¬ m.flat := fun k => h k.1
theorem Kj (n : Nat) (x : Int) : List.replicate (n + 1) x = List.replicate n x ++ [x] := List.replicate_succ'
theorem Gb {m : Me} (h : m.grouped) {k : Nat} (hk : m.gs.takeWhile (fun g => decide (0 < g)) = m.gs.take k) (h0 : ¬ m.g0 = 0) : m.gs.take k = m.groups := by rw [Wr (Akd h0), Ua h, hk]
theorem Jy {m : Me} (h : m.flat) {k : Nat} (hk : m.gs.takeWhile (fun g => decide (0 < g)) = m.gs.take k) : m.gs.take k = [] := by
 rw [← hk]
 show (m.g0 :: [m.g1, m.g2, m.g3, m.g4, m.g5]).takeWhile _ = []
 rw [List.takeWhile_cons_of_neg (by rw [h.1]; decide)]
theorem Q6 (m : Me) (h : Mok m) : XC Tryz.prog 160 [.agg (Me.c m)] (fun r => r = .sl 1 (Bu m.groups)) := by
 have hgr := h.grp
 have hc := h.count
 have hz := Apa m
 have hgl : m.gs.length = 6 := rfl
 refine An Zt Tryz.func160 R R lb<|zr<|XL.step R (As 1 (l := [.d (dI m.count), .d (dI m.unit), .d (dI m.g0), .d (dI m.g1), .d (dI m.g2), .d (dI m.g3), .d (dI m.g4), .d (dI m.g5)]) R R (by kernel_rfl))<|za R R<|znr<|za R R<|zn<|zs<|zr<|za R R<|zn<|Ag<|C0 900 3 3 1 R<|?_
 refine Au (α := Nat) (fun k => k ≤ 6 ∧ ∀ (j : Nat) x, j < k → m.gs[j]? = some x → decide (0 < x) = true) (fun k => mkF [(1, .ptr 1 0 0), (2, .d (.v (.slice none 0 0))), (3, .own 900), (4, .d (dI (k : Nat)))]) (fun k => mkH [(1, .box ((Me.c m).map S.d)), (900, .row 3 1 ((m.gs.take k).map iv))]) (fun k => 6 - k) (0) (⟨Nat.zero_le _, fun j x hj => absurd hj (Nat.not_lt_zero _)⟩) ?_ ?_ ?_
 exact fz ⟨sr, sr, sr, sr, trivial⟩
 exact gz ⟨R, R, trivial⟩
 intro k hk0
 obtain ⟨hk, hall⟩ := hk0
 have htl : (m.gs.take k).length = k := by rw [List.length_take]; omega
 refine zs<|zr<|zm R R<|zp (Aq R R R)<|zm R R<|?_
 refine XL.dec 9 R (fun g9 => ?_) (fun g9 => ?_)
 obtain ⟨g, hg⟩ : ∃ g, m.gs[k]? = some g := Av (by omega)
 refine zm R R<|zp (Aa R R Fu)<|zp (G5 R R R Tryz.underlying26 C2 (by omega))<|zp (Ab R R Ai R (Yg hg))<|zp (A5 R R R)<|zq R R R<|zn<|?_
 refine zd R (fun c15 => ?_) (fun c15 => ?_)
 refine zi<|zs<|Ag<|Af (by kernel_rfl)<|zp (Ar R (by conv => lhs; whnf))<|?_
 refine zm R R<|zp (Aa R R Fu)<|zp (G5 R R R Tryz.underlying26 C2 (by omega))<|zp (Ab R R Ai R (Yg hg))<|XL.step R (A9 23 R Tryz.underlying64 C2 Ef R R (by omega) (by omega))<|XL.step R (Az R Gw (.own R) (Src.own R) (by unfold maxLen; simp; omega) (by simp; omega))<|zp (Am R (by conv => lhs; whnf))<|?_
 refine zn<|Af (by kernel_rfl)<|zm R R<|zp (Aj R R R (by omega) (by omega))<|za R R<|zn<|?_
 exact Al (k + 1) (⟨by omega, fun j x hj hx => by by_cases e : j = k; (· subst e; rw [hg] at hx; cases hx; exact decide_eq_true c15); (· exact hall j x (by omega) hx)⟩) (by omega) (fz ⟨sr, sr, sr, sr, trivial⟩) (gz ⟨rfl, D9 rfl (Bf hg), trivial⟩)
 have htw := Wc (p := fun g => decide (0 < g)) (l := m.gs) (k := k) (by omega) hall (.inr ⟨g, hg, decide_eq_false c15⟩)
 refine Ap<|zr<|za R R<|zn<|zs<|zr<|zp (Aa R R Hb)<|zp (Ab R R Ai R R)<|zp (D6 R R R)<|zm R R<|?_
 refine XL.dec 28 R (fun g28 => ?_) (fun g28 => ?_)
 refine zp (Aa R R Dl)<|zp (Ab R R Ai R R)<|zp (Dx R R R (by omega) (by omega))<|zp (Ay R R R)<|zq R R R<|zn<|?_
 refine zd R (fun c33 => ?_) (fun c33 => ?_)
 refine Af (by kernel_rfl)<|za R R<|zn<|zs<|zr<|za R R<|zn<|Ag<|?_
 refine Au (α := Nat) (fun j => m.gsz * j ≤ m.count + 2 ∧ (j = 0 ∨ (m.g0 = 0 ∧ m.gsz * (j - 1 : Nat) < m.count))) (fun j => mkF [(1, .ptr 1 0 0), (2, .d (.v (.slice none 0 0))), (3, .own 900), (5, .d (dI m.gsz)), (6, .d (dI (m.gsz * j)))]) (fun j => mkH [(1, .box ((Me.c m).map S.d)), (900, .row 3 1 ((m.gs.take k ++ List.replicate j m.gsz).map iv))]) (fun j => m.count.toNat + 3 - j) (0) (⟨by omega, .inl rfl⟩) ?_ ?_ ?_
 exact fz ⟨sr, sr, sr, .same (sI (by first | exact (Qv ⟨g28, c33⟩).symm | exact (Jh (fun k => c33 k.2)).symm | exact (Jh (fun k => g28 k.1)).symm)), .same (sI (by rw [Int.natCast_zero, Int.mul_zero])), trivial⟩
 exact gz ⟨R, by rw [List.replicate_zero, List.append_nil]; rfl, trivial⟩
 intro j hk2
 obtain ⟨hj1, hj2⟩ := hk2
 have hj0 := Nv m j
 have hjj : j ≤ 66 := by unfold Me.gsz at hj1; split at hj1 <;> omega
 have hll : (m.gs.take k ++ List.replicate j m.gsz).length = k + j := by rw [List.length_append, List.length_replicate, List.length_take]; omega
 refine zs<|zr<|zm R R<|zp (Aa R R Dl)<|zp (Ab R R Ai R R)<|zp (Aq R R R)<|zm R R<|?_
 refine XL.dec 38 R (fun g38 => ?_) (fun g38 => ?_)
 refine zp (Aa R R Fu)<|zp (G5 (k := 0) R R R Tryz.underlying26 C2 (by omega))<|zp (Ab R R Ai R R)<|zp (Ay R R R)<|zq R R R<|zn<|?_
 refine zd R (fun c43 => ?_) (fun c43 => ?_)
 refine zi<|zs<|Ag<|Af (by kernel_rfl)<|zp (Ar R (by conv => lhs; whnf))<|?_
 refine zm R R<|XL.step R (A9 49 R Tryz.underlying64 C2 Ef R R (by omega) (by omega))<|XL.step R (Az R Gw (.own R) (Src.own R) (by unfold maxLen; simp; omega) (by simp; omega))<|zp (Am R (by conv => lhs; whnf))<|?_
 refine zn<|Af (by kernel_rfl)<|zm R R<|zm R R<|zp (Aj R R R (by omega) (by omega))<|za R R<|zn<|?_
 exact Al (j + 1) (⟨by rw [Int.natCast_add, Int.mul_add]; omega, .inr ⟨c43, by rw [Nat.add_sub_cancel]; exact g38⟩⟩) (by omega) (fz ⟨sr, sr, sr, sr, .same (sI (by rw [Int.natCast_add, Int.mul_add]; omega)), trivial⟩) (gz ⟨rfl, D9 rfl (by rw [Kj, List.append_assoc]), trivial⟩)
 have hfin : (m.gs.take k ++ List.replicate j m.gsz) = m.groups := by rw [show j = 0 by omega, List.replicate_zero, List.append_nil]; exact Gb hgr htw c43
 refine Ap<|zr<|zp (Ar R (by conv => lhs; whnf))<|?_
 refine zp (Am R (by conv => lhs; whnf))<|?_
 exact zn<|zt<|Ba (i := 900) R<|z1 R R (rSl hfin)
 have hfin : (m.gs.take k ++ List.replicate j m.gsz) = m.groups := by by_cases c0 : m.g0 = 0; (· rw [Jy (G2 hgr c0) htw, List.nil_append]; exact Lz (G2 hgr c0) (by omega) (by omega) hc.1); (· rw [show j = 0 by omega, List.replicate_zero, List.append_nil]; exact Gb hgr htw c0)
 refine zk 4 R<|zq R R R<|zn<|A3 (by kernel_rfl) R<|Ap<|zr<|zp (Ar R (by conv => lhs; whnf))<|?_
 refine zp (Am R (by conv => lhs; whnf))<|?_
 exact zn<|zt<|Ba (i := 900) R<|z1 R R (rSl hfin)
 refine zi<|zs<|zr<|za R R<|zn<|Ag<|?_
 refine Au (α := Nat) (fun j => m.gsz * j ≤ m.count + 2 ∧ (j = 0 ∨ (m.g0 = 0 ∧ m.gsz * (j - 1 : Nat) < m.count))) (fun j => mkF [(1, .ptr 1 0 0), (2, .d (.v (.slice none 0 0))), (3, .own 900), (5, .d (dI m.gsz)), (6, .d (dI (m.gsz * j)))]) (fun j => mkH [(1, .box ((Me.c m).map S.d)), (900, .row 3 1 ((m.gs.take k ++ List.replicate j m.gsz).map iv))]) (fun j => m.count.toNat + 3 - j) (0) (⟨by omega, .inl rfl⟩) ?_ ?_ ?_
 exact fz ⟨sr, sr, sr, .same (sI (by first | exact (Qv ⟨g28, c33⟩).symm | exact (Jh (fun k => c33 k.2)).symm | exact (Jh (fun k => g28 k.1)).symm)), .same (sI (by rw [Int.natCast_zero, Int.mul_zero])), trivial⟩
 exact gz ⟨R, by rw [List.replicate_zero, List.append_nil]; rfl, trivial⟩
 intro j hk2
 obtain ⟨hj1, hj2⟩ := hk2
 have hj0 := Nv m j
 have hjj : j ≤ 66 := by unfold Me.gsz at hj1; split at hj1 <;> omega
 have hll : (m.gs.take k ++ List.replicate j m.gsz).length = k + j := by rw [List.length_append, List.length_replicate, List.length_take]; omega
 refine zs<|zr<|zm R R<|zp (Aa R R Dl)<|zp (Ab R R Ai R R)<|zp (Aq R R R)<|zm R R<|?_
 refine XL.dec 38 R (fun g38 => ?_) (fun g38 => ?_)
 refine zp (Aa R R Fu)<|zp (G5 (k := 0) R R R Tryz.underlying26 C2 (by omega))<|zp (Ab R R Ai R R)<|zp (Ay R R R)<|zq R R R<|zn<|?_
 refine zd R (fun c43 => ?_) (fun c43 => ?_)
 refine zi<|zs<|Ag<|Af (by kernel_rfl)<|zp (Ar R (by conv => lhs; whnf))<|?_
 refine zm R R<|XL.step R (A9 49 R Tryz.underlying64 C2 Ef R R (by omega) (by omega))<|XL.step R (Az R Gw (.own R) (Src.own R) (by unfold maxLen; simp; omega) (by simp; omega))<|zp (Am R (by conv => lhs; whnf))<|?_
 refine zn<|Af (by kernel_rfl)<|zm R R<|zm R R<|zp (Aj R R R (by omega) (by omega))<|za R R<|zn<|?_
 exact Al (j + 1) (⟨by rw [Int.natCast_add, Int.mul_add]; omega, .inr ⟨c43, by rw [Nat.add_sub_cancel]; exact g38⟩⟩) (by omega) (fz ⟨sr, sr, sr, sr, .same (sI (by rw [Int.natCast_add, Int.mul_add]; omega)), trivial⟩) (gz ⟨rfl, D9 rfl (by rw [Kj, List.append_assoc]), trivial⟩)
 have hfin : (m.gs.take k ++ List.replicate j m.gsz) = m.groups := by rw [show j = 0 by omega, List.replicate_zero, List.append_nil]; exact Gb hgr htw c43
 refine Ap<|zr<|zp (Ar R (by conv => lhs; whnf))<|?_
 refine zp (Am R (by conv => lhs; whnf))<|?_
 exact zn<|zt<|Ba (i := 900) R<|z1 R R (rSl hfin)
 have hfin : (m.gs.take k ++ List.replicate j m.gsz) = m.groups := by by_cases c0 : m.g0 = 0; (· rw [Jy (G2 hgr c0) htw, List.nil_append]; exact Lz (G2 hgr c0) (by omega) (by omega) hc.1); (· rw [show j = 0 by omega, List.replicate_zero, List.append_nil]; exact Gb hgr htw c0)
 refine zk 4 R<|zq R R R<|zn<|A3 (by kernel_rfl) R<|Ap<|zr<|zp (Ar R (by conv => lhs; whnf))<|?_
 refine zp (Am R (by conv => lhs; whnf))<|?_
 exact zn<|zt<|Ba (i := 900) R<|z1 R R (rSl hfin)
 refine zk 4 R<|zq R R R<|zn<|A3 (by kernel_rfl) R<|zi<|zs<|zr<|za R R<|zn<|Ag<|?_
 refine Au (α := Nat) (fun j => m.gsz * j ≤ m.count + 2 ∧ (j = 0 ∨ (m.g0 = 0 ∧ m.gsz * (j - 1 : Nat) < m.count))) (fun j => mkF [(1, .ptr 1 0 0), (2, .d (.v (.slice none 0 0))), (3, .own 900), (5, .d (dI m.gsz)), (6, .d (dI (m.gsz * j)))]) (fun j => mkH [(1, .box ((Me.c m).map S.d)), (900, .row 3 1 ((m.gs.take k ++ List.replicate j m.gsz).map iv))]) (fun j => m.count.toNat + 3 - j) (0) (⟨by omega, .inl rfl⟩) ?_ ?_ ?_
 exact fz ⟨sr, sr, sr, .same (sI (by first | exact (Qv ⟨g28, c33⟩).symm | exact (Jh (fun k => c33 k.2)).symm | exact (Jh (fun k => g28 k.1)).symm)), .same (sI (by rw [Int.natCast_zero, Int.mul_zero])), trivial⟩
 exact gz ⟨R, by rw [List.replicate_zero, List.append_nil]; rfl, trivial⟩
 intro j hk2
 obtain ⟨hj1, hj2⟩ := hk2
 have hj0 := Nv m j
 have hjj : j ≤ 66 := by unfold Me.gsz at hj1; split at hj1 <;> omega
 have hll : (m.gs.take k ++ List.replicate j m.gsz).length = k + j := by rw [List.length_append, List.length_replicate, List.length_take]; omega
 refine zs<|zr<|zm R R<|zp (Aa R R Dl)<|zp (Ab R R Ai R R)<|zp (Aq R R R)<|zm R R<|?_
 refine XL.dec 38 R (fun g38 => ?_) (fun g38 => ?_)
 refine zp (Aa R R Fu)<|zp (G5 (k := 0) R R R Tryz.underlying26 C2 (by omega))<|zp (Ab R R Ai R R)<|zp (Ay R R R)<|zq R R R<|zn<|?_
 refine zd R (fun c43 => ?_) (fun c43 => ?_)
 refine zi<|zs<|Ag<|Af (by kernel_rfl)<|zp (Ar R (by conv => lhs; whnf))<|?_
 refine zm R R<|XL.step R (A9 49 R Tryz.underlying64 C2 Ef R R (by omega) (by omega))<|XL.step R (Az R Gw (.own R) (Src.own R) (by unfold maxLen; simp; omega) (by simp; omega))<|zp (Am R (by conv => lhs; whnf))<|?_
 refine zn<|Af (by kernel_rfl)<|zm R R<|zm R R<|zp (Aj R R R (by omega) (by omega))<|za R R<|zn<|?_
 exact Al (j + 1) (⟨by rw [Int.natCast_add, Int.mul_add]; omega, .inr ⟨c43, by rw [Nat.add_sub_cancel]; exact g38⟩⟩) (by omega) (fz ⟨sr, sr, sr, sr, .same (sI (by rw [Int.natCast_add, Int.mul_add]; omega)), trivial⟩) (gz ⟨rfl, D9 rfl (by rw [Kj, List.append_assoc]), trivial⟩)
 have hfin : (m.gs.take k ++ List.replicate j m.gsz) = m.groups := by rw [show j = 0 by omega, List.replicate_zero, List.append_nil]; exact Gb hgr htw c43
 refine Ap<|zr<|zp (Ar R (by conv => lhs; whnf))<|?_
 refine zp (Am R (by conv => lhs; whnf))<|?_
 exact zn<|zt<|Ba (i := 900) R<|z1 R R (rSl hfin)
 have hfin : (m.gs.take k ++ List.replicate j m.gsz) = m.groups := by by_cases c0 : m.g0 = 0; (· rw [Jy (G2 hgr c0) htw, List.nil_append]; exact Lz (G2 hgr c0) (by omega) (by omega) hc.1); (· rw [show j = 0 by omega, List.replicate_zero, List.append_nil]; exact Gb hgr htw c0)
 refine zk 4 R<|zq R R R<|zn<|A3 (by kernel_rfl) R<|Ap<|zr<|zp (Ar R (by conv => lhs; whnf))<|?_
 refine zp (Am R (by conv => lhs; whnf))<|?_
 exact zn<|zt<|Ba (i := 900) R<|z1 R R (rSl hfin)
 have htw := Wc (p := fun g => decide (0 < g)) (l := m.gs) (k := k) (by omega) hall (.inl (by omega))
 refine zk 5 R<|zq R R R<|zn<|A3 (by kernel_rfl) R<|Ap<|zr<|za R R<|zn<|zs<|zr<|zp (Aa R R Hb)<|zp (Ab R R Ai R R)<|zp (D6 R R R)<|zm R R<|?_
 refine XL.dec 28 R (fun g28 => ?_) (fun g28 => ?_)
 refine zp (Aa R R Dl)<|zp (Ab R R Ai R R)<|zp (Dx R R R (by omega) (by omega))<|zp (Ay R R R)<|zq R R R<|zn<|?_
 refine zd R (fun c33 => ?_) (fun c33 => ?_)
 refine Af (by kernel_rfl)<|za R R<|zn<|zs<|zr<|za R R<|zn<|Ag<|?_
 refine Au (α := Nat) (fun j => m.gsz * j ≤ m.count + 2 ∧ (j = 0 ∨ (m.g0 = 0 ∧ m.gsz * (j - 1 : Nat) < m.count))) (fun j => mkF [(1, .ptr 1 0 0), (2, .d (.v (.slice none 0 0))), (3, .own 900), (5, .d (dI m.gsz)), (6, .d (dI (m.gsz * j)))]) (fun j => mkH [(1, .box ((Me.c m).map S.d)), (900, .row 3 1 ((m.gs.take k ++ List.replicate j m.gsz).map iv))]) (fun j => m.count.toNat + 3 - j) (0) (⟨by omega, .inl rfl⟩) ?_ ?_ ?_
 exact fz ⟨sr, sr, sr, .same (sI (by first | exact (Qv ⟨g28, c33⟩).symm | exact (Jh (fun k => c33 k.2)).symm | exact (Jh (fun k => g28 k.1)).symm)), .same (sI (by rw [Int.natCast_zero, Int.mul_zero])), trivial⟩
 exact gz ⟨R, by rw [List.replicate_zero, List.append_nil]; rfl, trivial⟩
 intro j hk2
 obtain ⟨hj1, hj2⟩ := hk2
 have hj0 := Nv m j
 have hjj : j ≤ 66 := by unfold Me.gsz at hj1; split at hj1 <;> omega
 have hll : (m.gs.take k ++ List.replicate j m.gsz).length = k + j := by rw [List.length_append, List.length_replicate, List.length_take]; omega
 refine zs<|zr<|zm R R<|zp (Aa R R Dl)<|zp (Ab R R Ai R R)<|zp (Aq R R R)<|zm R R<|?_
 refine XL.dec 38 R (fun g38 => ?_) (fun g38 => ?_)
 refine zp (Aa R R Fu)<|zp (G5 (k := 0) R R R Tryz.underlying26 C2 (by omega))<|zp (Ab R R Ai R R)<|zp (Ay R R R)<|zq R R R<|zn<|?_
 refine zd R (fun c43 => ?_) (fun c43 => ?_)
 refine zi<|zs<|Ag<|Af (by kernel_rfl)<|zp (Ar R (by conv => lhs; whnf))<|?_
 refine zm R R<|XL.step R (A9 49 R Tryz.underlying64 C2 Ef R R (by omega) (by omega))<|XL.step R (Az R Gw (.own R) (Src.own R) (by unfold maxLen; simp; omega) (by simp; omega))<|zp (Am R (by conv => lhs; whnf))<|?_
 refine zn<|Af (by kernel_rfl)<|zm R R<|zm R R<|zp (Aj R R R (by omega) (by omega))<|za R R<|zn<|?_
 exact Al (j + 1) (⟨by rw [Int.natCast_add, Int.mul_add]; omega, .inr ⟨c43, by rw [Nat.add_sub_cancel]; exact g38⟩⟩) (by omega) (fz ⟨sr, sr, sr, sr, .same (sI (by rw [Int.natCast_add, Int.mul_add]; omega)), trivial⟩) (gz ⟨rfl, D9 rfl (by rw [Kj, List.append_assoc]), trivial⟩)
 have hfin : (m.gs.take k ++ List.replicate j m.gsz) = m.groups := by rw [show j = 0 by omega, List.replicate_zero, List.append_nil]; exact Gb hgr htw c43
 refine Ap<|zr<|zp (Ar R (by conv => lhs; whnf))<|?_
 refine zp (Am R (by conv => lhs; whnf))<|?_
 exact zn<|zt<|Ba (i := 900) R<|z1 R R (rSl hfin)
 have hfin : (m.gs.take k ++ List.replicate j m.gsz) = m.groups := by by_cases c0 : m.g0 = 0; (· rw [Jy (G2 hgr c0) htw, List.nil_append]; exact Lz (G2 hgr c0) (by omega) (by omega) hc.1); (· rw [show j = 0 by omega, List.replicate_zero, List.append_nil]; exact Gb hgr htw c0)
 refine zk 4 R<|zq R R R<|zn<|A3 (by kernel_rfl) R<|Ap<|zr<|zp (Ar R (by conv => lhs; whnf))<|?_
 refine zp (Am R (by conv => lhs; whnf))<|?_
 exact zn<|zt<|Ba (i := 900) R<|z1 R R (rSl hfin)
 refine zi<|zs<|zr<|za R R<|zn<|Ag<|?_
 refine Au (α := Nat) (fun j => m.gsz * j ≤ m.count + 2 ∧ (j = 0 ∨ (m.g0 = 0 ∧ m.gsz * (j - 1 : Nat) < m.count))) (fun j => mkF [(1, .ptr 1 0 0), (2, .d (.v (.slice none 0 0))), (3, .own 900), (5, .d (dI m.gsz)), (6, .d (dI (m.gsz * j)))]) (fun j => mkH [(1, .box ((Me.c m).map S.d)), (900, .row 3 1 ((m.gs.take k ++ List.replicate j m.gsz).map iv))]) (fun j => m.count.toNat + 3 - j) (0) (⟨by omega, .inl rfl⟩) ?_ ?_ ?_
 exact fz ⟨sr, sr, sr, .same (sI (by first | exact (Qv ⟨g28, c33⟩).symm | exact (Jh (fun k => c33 k.2)).symm | exact (Jh (fun k => g28 k.1)).symm)), .same (sI (by rw [Int.natCast_zero, Int.mul_zero])), trivial⟩
 exact gz ⟨R, by rw [List.replicate_zero, List.append_nil]; rfl, trivial⟩
 intro j hk2
 obtain ⟨hj1, hj2⟩ := hk2
 have hj0 := Nv m j
 have hjj : j ≤ 66 := by unfold Me.gsz at hj1; split at hj1 <;> omega
 have hll : (m.gs.take k ++ List.replicate j m.gsz).length = k + j := by rw [List.length_append, List.length_replicate, List.length_take]; omega
 refine zs<|zr<|zm R R<|zp (Aa R R Dl)<|zp (Ab R R Ai R R)<|zp (Aq R R R)<|zm R R<|?_
 refine XL.dec 38 R (fun g38 => ?_) (fun g38 => ?_)
 refine zp (Aa R R Fu)<|zp (G5 (k := 0) R R R Tryz.underlying26 C2 (by omega))<|zp (Ab R R Ai R R)<|zp (Ay R R R)<|zq R R R<|zn<|?_
 refine zd R (fun c43 => ?_) (fun c43 => ?_)
 refine zi<|zs<|Ag<|Af (by kernel_rfl)<|zp (Ar R (by conv => lhs; whnf))<|?_
 refine zm R R<|XL.step R (A9 49 R Tryz.underlying64 C2 Ef R R (by omega) (by omega))<|XL.step R (Az R Gw (.own R) (Src.own R) (by unfold maxLen; simp; omega) (by simp; omega))<|zp (Am R (by conv => lhs; whnf))<|?_
 refine zn<|Af (by kernel_rfl)<|zm R R<|zm R R<|zp (Aj R R R (by omega) (by omega))<|za R R<|zn<|?_
 exact Al (j + 1) (⟨by rw [Int.natCast_add, Int.mul_add]; omega, .inr ⟨c43, by rw [Nat.add_sub_cancel]; exact g38⟩⟩) (by omega) (fz ⟨sr, sr, sr, sr, .same (sI (by rw [Int.natCast_add, Int.mul_add]; omega)), trivial⟩) (gz ⟨rfl, D9 rfl (by rw [Kj, List.append_assoc]), trivial⟩)
 have hfin : (m.gs.take k ++ List.replicate j m.gsz) = m.groups := by rw [show j = 0 by omega, List.replicate_zero, List.append_nil]; exact Gb hgr htw c43
 refine Ap<|zr<|zp (Ar R (by conv => lhs; whnf))<|?_
 refine zp (Am R (by conv => lhs; whnf))<|?_
 exact zn<|zt<|Ba (i := 900) R<|z1 R R (rSl hfin)
 have hfin : (m.gs.take k ++ List.replicate j m.gsz) = m.groups := by by_cases c0 : m.g0 = 0; (· rw [Jy (G2 hgr c0) htw, List.nil_append]; exact Lz (G2 hgr c0) (by omega) (by omega) hc.1); (· rw [show j = 0 by omega, List.replicate_zero, List.append_nil]; exact Gb hgr htw c0)
 refine zk 4 R<|zq R R R<|zn<|A3 (by kernel_rfl) R<|Ap<|zr<|zp (Ar R (by conv => lhs; whnf))<|?_
 refine zp (Am R (by conv => lhs; whnf))<|?_
 exact zn<|zt<|Ba (i := 900) R<|z1 R R (rSl hfin)
 refine zk 4 R<|zq R R R<|zn<|A3 (by kernel_rfl) R<|zi<|zs<|zr<|za R R<|zn<|Ag<|?_
 refine Au (α := Nat) (fun j => m.gsz * j ≤ m.count + 2 ∧ (j = 0 ∨ (m.g0 = 0 ∧ m.gsz * (j - 1 : Nat) < m.count))) (fun j => mkF [(1, .ptr 1 0 0), (2, .d (.v (.slice none 0 0))), (3, .own 900), (5, .d (dI m.gsz)), (6, .d (dI (m.gsz * j)))]) (fun j => mkH [(1, .box ((Me.c m).map S.d)), (900, .row 3 1 ((m.gs.take k ++ List.replicate j m.gsz).map iv))]) (fun j => m.count.toNat + 3 - j) (0) (⟨by omega, .inl rfl⟩) ?_ ?_ ?_
 exact fz ⟨sr, sr, sr, .same (sI (by first | exact (Qv ⟨g28, c33⟩).symm | exact (Jh (fun k => c33 k.2)).symm | exact (Jh (fun k => g28 k.1)).symm)), .same (sI (by rw [Int.natCast_zero, Int.mul_zero])), trivial⟩
 exact gz ⟨R, by rw [List.replicate_zero, List.append_nil]; rfl, trivial⟩
 intro j hk2
 obtain ⟨hj1, hj2⟩ := hk2
 have hj0 := Nv m j
 have hjj : j ≤ 66 := by unfold Me.gsz at hj1; split at hj1 <;> omega
 have hll : (m.gs.take k ++ List.replicate j m.gsz).length = k + j := by rw [List.length_append, List.length_replicate, List.length_take]; omega
 refine zs<|zr<|zm R R<|zp (Aa R R Dl)<|zp (Ab R R Ai R R)<|zp (Aq R R R)<|zm R R<|?_
 refine XL.dec 38 R (fun g38 => ?_) (fun g38 => ?_)
 refine zp (Aa R R Fu)<|zp (G5 (k := 0) R R R Tryz.underlying26 C2 (by omega))<|zp (Ab R R Ai R R)<|zp (Ay R R R)<|zq R R R<|zn<|?_
 refine zd R (fun c43 => ?_) (fun c43 => ?_)
 refine zi<|zs<|Ag<|Af (by kernel_rfl)<|zp (Ar R (by conv => lhs; whnf))<|?_
 refine zm R R<|XL.step R (A9 49 R Tryz.underlying64 C2 Ef R R (by omega) (by omega))<|XL.step R (Az R Gw (.own R) (Src.own R) (by unfold maxLen; simp; omega) (by simp; omega))<|zp (Am R (by conv => lhs; whnf))<|?_
 refine zn<|Af (by kernel_rfl)<|zm R R<|zm R R<|zp (Aj R R R (by omega) (by omega))<|za R R<|zn<|?_
 exact Al (j + 1) (⟨by rw [Int.natCast_add, Int.mul_add]; omega, .inr ⟨c43, by rw [Nat.add_sub_cancel]; exact g38⟩⟩) (by omega) (fz ⟨sr, sr, sr, sr, .same (sI (by rw [Int.natCast_add, Int.mul_add]; omega)), trivial⟩) (gz ⟨rfl, D9 rfl (by rw [Kj, List.append_assoc]), trivial⟩)
 have hfin : (m.gs.take k ++ List.replicate j m.gsz) = m.groups := by rw [show j = 0 by omega, List.replicate_zero, List.append_nil]; exact Gb hgr htw c43
 refine Ap<|zr<|zp (Ar R (by conv => lhs; whnf))<|?_
 refine zp (Am R (by conv => lhs; whnf))<|?_
 exact zn<|zt<|Ba (i := 900) R<|z1 R R (rSl hfin)
 have hfin : (m.gs.take k ++ List.replicate j m.gsz) = m.groups := by by_cases c0 : m.g0 = 0; (· rw [Jy (G2 hgr c0) htw, List.nil_append]; exact Lz (G2 hgr c0) (by omega) (by omega) hc.1); (· rw [show j = 0 by omega, List.replicate_zero, List.append_nil]; exact Gb hgr htw c0)
 refine zk 4 R<|zq R R R<|zn<|A3 (by kernel_rfl) R<|Ap<|zr<|zp (Ar R (by conv => lhs; whnf))<|?_
 refine zp (Am R (by conv => lhs; whnf))<|?_
 exact zn<|zt<|Ba (i := 900) R<|z1 R R (rSl hfin)
end Go.Proofs.YtcihalbakenleaaGreat
namespace Go.Proofs.YtcihalbakenleaaGreat
open Go.RowKit
theorem Afk (m : Me) (h : Mok m) : XC Tryz.prog 179 [.agg (Me.c m)] (fun r => r = .sl 1 (Bu m.beats)) := by
 have hg := h.groups
 have hu := h.u
 have hbl := Qb m
 have hgl := hg.len
 refine An Zc Tryz.func179 R R lb<|zr<|XL.step R (As 1 (l := [.d (dI m.count), .d (dI m.unit), .d (dI m.g0), .d (dI m.g1), .d (dI m.g2), .d (dI m.g3), .d (dI m.g4), .d (dI m.g5)]) R R (by kernel_rfl))<|za R R<|znr<|za R R<|znr<|zp (Ae (s' := .d (.agg (Me.c m))) (Ad (Ac R R Bb R lb)) (by kernel_rfl))<|XL.call1 R R (Q6 _ (by assumption)) R<|za R R<|znr<|?_
 refine za R R<|zn<|zs<|zr<|za R R<|zn<|Ag<|C0 900 3 3 1 R<|?_
 refine Au (α := Nat) (fun k => k ≤ m.groups.length) (fun k => mkF [(1, .ptr 1 0 0), (2, .d (.v (.slice none 0 0))), (3, .own 900), (4, .d (.sl 1 (Bu m.groups))), (5, .d (dI (tot (m.groups.take k) * m.u))), (6, .d (dI k))]) (fun k => mkH [(1, .box ((Me.c m).map S.d)), (900, .row 3 1 ((m.beats.take k).map iv))]) (fun k => m.groups.length - k) (0) (Nat.zero_le _) ?_ ?_ ?_
 exact fz ⟨sr, sr, sr, sr, .same (sI (by rw [List.take_zero]; show 0 = 0 * m.u; omega)), sr, trivial⟩
 exact gz ⟨R, R, trivial⟩
 intro k hk0
 refine zs<|zr<|zm R R<|zm R R<|XL.len R R R Tryz.underlying64 fun hl11=>zp (Aq R R R)<|zn<|?_
 refine zd R (fun c12 => ?_) (fun c12 => ?_)
 have hk0a : k < m.groups.length := by omega
 obtain ⟨x0, hx0⟩ := Av hk0a
 have hx1 := hg.bd x0 (List.mem_of_getElem? hx0)
 have ht1 := hg.tot k
 have ht2 := hg.tot (k + 1)
 have hb1 := Nt ht1.1 ht1.2 (by omega) hu.2
 have hb2 := Nt ht2.1 ht2.2 (by omega) hu.2
 have hb3 := Nt hx1.1 (by omega : x0 ≤ 4096) (by omega) hu.2
 have hst : tot (m.groups.take (k + 1)) * m.u = tot (m.groups.take k) * m.u + x0 * m.u := by rw [N2 hx0, Int.add_mul]
 have htl : (m.beats.take k).length = k := by rw [List.length_take]; omega
 refine zi<|zs<|Ag<|zr<|zp (Ar R (by conv => lhs; whnf))<|?_
 refine zm R R<|XL.step R (A9 17 R Tryz.underlying64 C2 Ef R R (by omega) (by omega))<|XL.step R (Az R Gw (.own R) (Src.own R) (by unfold maxLen; simp; omega) (by simp; omega))<|zp (Am R (by conv => lhs; whnf))<|?_
 refine zn<|Bc [] (by kernel_rfl) (by kernel_rfl) (by kernel_rfl) (by decide)<|ym R R<|ym R R<|ym R R<|yp (Ak R R R Cy hx0)<|yp (Ax R R Ai)<|yp (Ae (s' := .d (.agg (Me.c m))) (Ad (Ac R R Bb R lb)) (by kernel_rfl))<|ChK.cons R (CStep.call R (Gp _ (by assumption)) R)<|yp (Gy R R R (by omega) (by omega))<|yp (Aj R R R (by omega) (by omega))<|?_
 refine ya R R<|?_
 refine ChK.nil ⟨by kernel_rfl, ?_⟩
 refine Af (by kernel_rfl)<|zm R R<|zp (Aj R R R (by omega) (by omega))<|za R R<|zn<|?_
 exact Al (k + 1) (by omega) (by omega) (fz ⟨sr, sr, sr, sr, .same (sI hst.symm), sr, trivial⟩) (gz ⟨R, D9 R (Bf (Ng hk0a)), trivial⟩)
 have hk0b : k = m.groups.length := by omega
 have ht : m.beats.take k = m.beats := by rw [hk0b, ← hbl, List.take_length]
 refine Ap<|zr<|zp (Ar R (by conv => lhs; whnf))<|?_
 refine zp (Am R (by conv => lhs; whnf))<|?_
 exact zn<|zt<|Ba (i := 900) R<|z1 R R (rSl ht)
def Wt (l : List Int) : Prop := ∀ (j : Nat) x y, l[j]? = some x → l[0]? = some y → x = y
theorem Aoz {l : List Int} : l ≠ [] → (∀ x ∈ l, Gi l ≤ x ∧ x ≤ Gj l) ∧ (∀ y, (∀ x ∈ l, x = y) → Gi l = y ∧ Gj l = y) := by
 refine Kg (p := fun l => l ≠ [] → (∀ x ∈ l, Gi l ≤ x ∧ x ≤ Gj l) ∧ (∀ y, (∀ x ∈ l, x = y) → Gi l = y ∧ Gj l = y)) (fun h => absurd rfl h) (fun l a ih _ => ?_) l
 by_cases c : l = []
 ·subst c
  refine ⟨fun x hx => ?_, fun y hy => ?_⟩
  ·rw [List.nil_append] at hx; rw [List.mem_singleton.1 hx]; exact ⟨Int.le_refl _, Int.le_refl _⟩
  ·have := hy a (by simp); subst this; exact ⟨rfl, rfl⟩
 ·obtain ⟨h1, h2⟩ := ih c
  rw [Vd c, Vf c]
  refine ⟨fun x hx => ?_, fun y hy => ?_⟩
  ·rcases List.mem_append.1 hx with q | q
   ·have := h1 x q; omega
   ·rw [List.mem_singleton.1 q]; omega
  ·have h3 := h2 y fun x hx => hy x (List.mem_append_left _ hx)
   have h4 := hy a (List.mem_append_right _ (List.mem_singleton.2 rfl))
   omega
theorem V7 {l : List Int} (hne : l ≠ []) : Wt l ↔ Gi l = Gj l := by
 obtain ⟨h1, h2⟩ := Aoz hne
 obtain ⟨y, hy⟩ : ∃ y, l[0]? = some y := Av (by cases l with | nil => exact absurd rfl hne | cons a l => simp)
 constructor
 ·intro h
  have := h2 y fun x hx => by
   obtain ⟨j, hj⟩ := List.getElem?_of_mem hx
   exact h j x y hj hy
  omega
 ·intro h j x z hx hz
  have h3 := h1 x (List.mem_of_getElem? hx)
  have h4 := h1 z (List.mem_of_getElem? hz)
  omega
instance (l : List Int) : Decidable (Wt l) := by
 cases l with
 | nil => exact .isTrue fun j x y h => by simp at h
 | cons a l => exact decidable_of_iff _ (V7 (l := a :: l) (by simp)).symm
def leN (l : List Int) (t : Int) : Nat := (l.takeWhile fun x => decide (x ≤ t)).length
def X2 (l : List Int) (t : Int) (n : Nat) : Int := if n = 0 then 0 else t - l[n - 1]?.getD 0
def Agt (n : Nat) : Int := if n = 0 then 0 else ((n - 1 : Nat) : Int)
theorem Aih {l : List Int} {t : Int} {k : Nat} (h1 : k ≤ l.length) (h2 : ∀ (j : Nat) x, j < k → l[j]? = some x → decide (x ≤ t) = true) (h3 : k = l.length ∨ ∃ x, l[k]? = some x ∧ decide (x ≤ t) = false) : leN l t = k := by
 rw [leN, Wc h1 h2 h3, List.length_take]; omega
theorem W6 {p : Int → Bool} : ∀ {l : List Int} {x : Int}, x ∈ l.takeWhile p → p x = true
 | [], x, h => by simp at h
 | a :: l, x, h => by
  by_cases c : p a = true
  ·rw [List.takeWhile_cons_of_pos c] at h
   rcases List.mem_cons.1 h with e | e
   ·rw [e]; exact c
   ·exact W6 e
  ·rw [List.takeWhile_cons_of_neg c] at h; cases h
theorem Akc {l : List Int} {t : Int} (hinc : ∀ (i j : Nat) x y, i < j → l[i]? = some x → l[j]? = some y → x < y) (h0 : l[0]? = some 0) (ht : 0 ≤ t) : X2 l t (leN l t) = 0 ↔ t ∈ l := by
 have hle : leN l t ≤ l.length := (List.takeWhile_sublist _).length_le
 have hall : ∀ (j : Nat) x, j < leN l t → l[j]? = some x → x ≤ t := fun j x hj hx => by
  have hm : (l.takeWhile fun x => decide (x ≤ t))[j]? = some x := by
   have hp := List.takeWhile_prefix (l := l) fun x => decide (x ≤ t)
   obtain ⟨s, hs⟩ := hp
   have : (l.takeWhile (fun x => decide (x ≤ t)) ++ s)[j]? = some x := by rw [hs]; exact hx
   rwa [List.getElem?_append_left hj] at this
  exact of_decide_eq_true (W6 (p := fun x => decide (x ≤ t)) (List.mem_of_getElem? hm))
 have hpos : leN l t ≠ 0 := fun k => by
  unfold leN at k
  cases hl : l with
  | nil => rw [hl] at h0; cases h0
  | cons a r =>
   rw [hl] at h0 k
   cases h0
   rw [List.takeWhile_cons_of_pos (by simpa using ht)] at k
   cases k
 obtain ⟨y, hy⟩ : ∃ y, l[leN l t - 1]? = some y := Av (by omega)
 rw [X2, if_neg hpos, hy]
 show t - y = 0 ↔ t ∈ l
 constructor
 ·intro h; rw [show t = y by omega]; exact List.mem_of_getElem? hy
 ·intro h
  obtain ⟨i, hi⟩ := List.getElem?_of_mem h
  have hyt := hall _ y (by omega) hy
  by_cases c : i < leN l t - 1
  ·have := hinc i _ t y c hi hy; omega
  ·by_cases c2 : i = leN l t - 1
   ·rw [c2, hy] at hi; cases hi; omega
   ·have := hinc _ i y t (by omega) hy hi
    have hil := (List.getElem?_eq_some_iff.1 hi).1
    obtain ⟨z, hz⟩ : ∃ z, l[leN l t]? = some z := Av (by omega)
    have hzt : t < z := by
     refine Int.not_le.1 fun k => ?_
     have e : leN l t = leN l t + 1 → False := fun e => by omega
     have hpre : ∀ (l : List Int) (n : Nat) (z : Int), n = (l.takeWhile fun x => decide (x ≤ t)).length → l[n]? = some z → ¬ z ≤ t := by
      intro l
      induction l with
      | nil => intro n z _ h; simp at h
      | cons a r ih =>
       intro n z hn h
       by_cases c : a ≤ t
       ·rw [List.takeWhile_cons_of_pos (by simpa using c)] at hn
        subst hn
        exact ih _ z rfl (by simpa using h)
       ·rw [List.takeWhile_cons_of_neg (by simpa using c)] at hn
        subst hn
        cases h; exact c
     exact hpre l _ z rfl hz k
    by_cases c3 : leN l t = i
    ·rw [c3, hi] at hz; cases hz; omega
    ·have := hinc _ i z t (by omega) hz hi; omega
theorem Agc {m : Me} (h : Mok m) : ∀ x ∈ m.groups, 0 < x := by
 intro x hx
 by_cases c : m.flat
 ·by_cases c2 : 8 ≤ m.unit ∧ m.count % 3 = 0
  ·rw [Agb (fun k => k c) c2] at hx
   rw [List.eq_of_mem_replicate hx]; decide
  ·rw [Wq (fun k => k c) c2] at hx
   rw [List.eq_of_mem_replicate hx]; decide
 ·rw [Wr c, Ua h.grp] at hx
  exact of_decide_eq_true (W6 (p := fun g => decide (0 < g)) hx)
theorem V6 {m : Me} (h : Mok m) : ∀ (i j : Nat) x y, i < j → m.beats[i]? = some x → m.beats[j]? = some y → x < y := by
 intro i j x y hij hx hy
 have hu := h.u
 have hg := h.groups
 have hjl := (List.getElem?_eq_some_iff.1 hy).1
 rw [Qb] at hjl
 rw [Ng (by omega)] at hx hy
 cases hx; cases hy
 have hpos := Agc h
 have h1 := N3 hpos (j := i + 1) (k := j) (by omega)
 obtain ⟨g, hgi⟩ : ∃ g, m.groups[i]? = some g := Av (by omega)
 rw [Bf hgi, Il] at h1
 have h2 := hpos g (List.mem_of_getElem? hgi)
 exact Int.mul_lt_mul_of_pos_right (by omega) (by omega)
theorem Ae0 {m : Me} (h : Mok m) : m.beats[0]? = some 0 := by
 have hg := h.groups
 have := hg.pos
 rw [Ng (by omega), List.take_zero, Jr, Int.zero_mul]
def rl (t u : Int) : Nat → Nat → Int
 | 0, _ => 15
 | f + 1, k => if (u / 2 ^ k * 2 ^ k = u ∧ 7560 ≤ u / 2 ^ k) ∧ t % (u / 2 ^ k) = 0 then 3 + (k : Int) else rl t u f (k + 1)
theorem u_7 {m : Me} (h : Mok m) : m.u = 1935360 ∨ m.u = 967680 ∨ m.u = 483840 ∨ m.u = 241920 ∨ m.u = 120960 ∨ m.u = 60480 ∨ m.u = 30240 := by
 have hp : Le m.unit 7 = true := pow_iff.2 fun k => k.elim (fun k => by have := h.unit; omega) fun k => k.elim (fun k => by have := h.unit; omega) fun k => k h.pow
 unfold Le at hp
 rw [List.any_eq_true] at hp
 obtain ⟨i, hi, hp⟩ := hp
 have hi := List.mem_range.1 hi
 have hp := of_decide_eq_true hp
 unfold Me.u
 rw [hp]
 match i, hi with
 | 0, _ => decide
 | 1, _ => decide
 | 2, _ => decide
 | 3, _ => decide
 | 4, _ => decide
 | 5, _ => decide
 | 6, _ => decide
 | i + 7, h => omega
theorem Ap4 {t u : Int} (hu : u = 1935360 ∨ u = 967680 ∨ u = 483840 ∨ u = 241920 ∨ u = 120960 ∨ u = 60480 ∨ u = 30240) : rl t u 9 0 = if t % u = 0 then 3 else H1 t 9 1 u := by
 rcases hu with rfl | rfl | rfl | rfl | rfl | rfl | rfl <;> simp [rl, H1]
theorem Ahp {t u : Int} {f k : Nat} (h : (u / 2 ^ k * 2 ^ k = u ∧ 7560 ≤ u / 2 ^ k) ∧ t % (u / 2 ^ k) = 0) : rl t u (f + 1) k = 3 + (k : Int) := by rw [rl, if_pos h]
theorem Lw {t u : Int} {f k : Nat} (h : ¬ ((u / 2 ^ k * 2 ^ k = u ∧ 7560 ≤ u / 2 ^ k) ∧ t % (u / 2 ^ k) = 0)) : rl t u (f + 1) k = rl t u f (k + 1) := by rw [rl, if_neg h]
theorem Aeg {m : Me} {a : Int} (hm : Mok m) (h : ¬ a % m.len = 0) (h1 : ¬ ((2 * (a % m.len) = m.len ∧ (m.groups.length : Int) % 2 = 0) ∧ Gi m.groups = Gj m.groups)) (h2 : ¬ a % m.len ∈ m.beats) : rl (a % m.len) m.u 9 0 = m.level a := by
 rw [Ap4 (u_7 hm), Me.level, if_neg h, if_neg h1, if_neg h2]
theorem Aop {k : Nat} (h : k ≤ 9) : 1 ≤ (2 : Int) ^ k ∧ (2 : Int) ^ k ≤ 512 := by
 match k, h with
 | 0, _ => decide
 | 1, _ => decide
 | 2, _ => decide
 | 3, _ => decide
 | 4, _ => decide
 | 5, _ => decide
 | 6, _ => decide
 | 7, _ => decide
 | 8, _ => decide
 | 9, _ => decide
 | k + 10, h => omega
theorem Afj (l : List Int) : XC Tryz.prog 159 [.sl 1 (Bu l)] (fun r => r = dB (decide (Wt l ∧ (l.length : Int) % 2 = 0))) := by
 refine An Zu Tryz.func159 R R lb<|zr<|za R R<|zn<|zs<|zr<|za R R<|zn<|Ag<|?_
 refine Au (α := Nat) (fun k => 1 ≤ k ∧ ∀ (j : Nat) x y, j < k → l[j]? = some x → l[0]? = some y → x = y) (fun k => mkF [(0, .d (.sl 1 (Bu l))), (3, .d (dI (k : Nat)))]) (fun k => mkH []) (fun k => l.length + 1 - k) (1) (⟨Nat.le_refl _, fun j x y hj hx hy => by rw [show j = 0 by omega, hy] at hx; cases hx; rfl⟩) ?_ ?_ ?_
 exact fz ⟨sr, sr, trivial⟩
 exact HSub.nil
 intro k hk0
 obtain ⟨hk, hall⟩ := hk0
 refine zs<|zr<|zm R R<|zm R R<|XL.len R R R Tryz.underlying64 fun hl6=>zp (Aq R R R)<|zn<|?_
 refine zd R (fun c7 => ?_) (fun c7 => ?_)
 have hkl : k < l.length := by omega
 obtain ⟨x, hx⟩ := Av hkl
 obtain ⟨y, hy⟩ : ∃ y, l[0]? = some y := Av (by omega)
 refine zi<|zs<|Ag<|zs<|Bc [] (by kernel_rfl) (by kernel_rfl) (by kernel_rfl) (by decide)<|ym R R<|ym R R<|yp (Ak R R R Cy (hx))<|yp (Ax R R Ai)<|ym R R<|yp (Ak (k := 0) R R R Cy (hy))<|yp (Ax R R Ai)<|yp (Bh R R R)<|?_
 refine ChK.nil ⟨by kernel_rfl, ?_⟩
 refine zd R (fun c17 => ?_) (fun c17 => ?_)
 exact zr<|za R R<|zn<|zt<|z1 R R (rB (dno (fun h => c17 (h.1 k x y hx hy))))
 refine zi<|Af (by kernel_rfl)<|zm R R<|zp (Aj R R R (by omega) (by omega))<|za R R<|zn<|?_
 exact Al (k + 1) (⟨by omega, fun j x2 y2 hj hx2 hy2 => by by_cases e : j = k; (· subst e; rw [hx] at hx2; rw [hy] at hy2; cases hx2; cases hy2; exact Decidable.not_not.1 c17); (· exact hall j x2 y2 (by omega) hx2 hy2)⟩) (by omega) (fz ⟨sr, sr, trivial⟩) (HSub.nil)
 have hae : Wt l := fun j x y hx hy => hall j x y (by have := (List.getElem?_eq_some_iff.1 hx).1; omega) hx hy
 exact Ap<|zr<|zm R R<|XL.len R R R Tryz.underlying64 fun hl19=>zp (Dx R R R (by omega) (by omega))<|zp (Ay R R R)<|za R R<|zn<|zt<|z1 R R (rB (by rw [decide_eq_decide]; exact ⟨fun h => ⟨hae, h⟩, fun h => h.2⟩))
theorem Amx (m : Me) (a : Int) (h : Mok m) (ha : 0 ≤ a ∧ a ≤ 4398046511104) : XC Tryz.prog 158 [.agg (Me.c m), .v (.int .i64 a)] (fun r => r = .tup [dI (Agt (leN m.beats (a % m.len))), dI (X2 m.beats (a % m.len) (leN m.beats (a % m.len)))]) := by
 have hl := h.len
 have ht0 := Int.emod_nonneg a (by omega : m.len ≠ 0)
 have ht1 := Int.emod_lt_of_pos a (by omega : 0 < m.len)
 refine An Zv Tryz.func158 R R lb<|zr<|XL.step R (As 2 (l := [.d (dI m.count), .d (dI m.unit), .d (dI m.g0), .d (dI m.g1), .d (dI m.g2), .d (dI m.g3), .d (dI m.g4), .d (dI m.g5)]) R R (by kernel_rfl))<|za R R<|za R R<|znr<|zm R R<|zp (Ae (s' := .d (.agg (Me.c m))) (Ad (Ac R R Bb R lb)) (by kernel_rfl))<|XL.call1 R R (Rv _ (by assumption)) R<|?_
 refine zp (Dx R R R (by omega) (by omega))<|za R R<|znr<|zp (Ae (s' := .d (.agg (Me.c m))) (Ad (Ac R R Bb R lb)) (by kernel_rfl))<|XL.call1 R R (Afk _ (by assumption)) R<|za R R<|zn<|zs<|zr<|za R R<|zn<|Ag<|?_
 refine Au (α := Nat) (fun j => j ≤ m.beats.length ∧ ∀ (i : Nat) x, i < j → m.beats[i]? = some x → decide (x ≤ a % m.len) = true) (fun j => mkF [(4, .d (dI (Agt j))), (5, .d (dI (X2 m.beats (a % m.len) j))), (6, .d (dI (a % m.len))), (7, .d (.sl 1 (Bu m.beats))), (8, .d (dI (j : Nat)))]) (fun j => mkH []) (fun j => m.beats.length - j) (0) (⟨Nat.zero_le _, fun i x h => absurd h (Nat.not_lt_zero _)⟩) ?_ ?_ ?_
 exact fz ⟨sr, sr, sr, sr, sr, trivial⟩
 exact HSub.nil
 intro j hk0
 obtain ⟨hj, hall⟩ := hk0
 refine zs<|zr<|zm R R<|zm R R<|XL.len R R R Tryz.underlying64 fun hl17=>zp (Aq R R R)<|zm R R<|?_
 refine XL.dec 19 R (fun g19 => ?_) (fun g19 => ?_)
 obtain ⟨x, hx⟩ : ∃ x, m.beats[j]? = some x := Av (by omega)
 have hx0 : 0 ≤ x := by have h1 := Ae0 h; by_cases e : j = 0; (· rw [e, h1] at hx; cases hx; omega); (· have := V6 h 0 j 0 x (by omega) h1 hx; omega)
 refine zm R R<|zm R R<|zp (Ak R R R Cy (hx))<|zp (Ax R R Ai)<|zm R R<|zp (E4 R R R)<|zq R R R<|zn<|?_
 refine zd R (fun c26 => ?_) (fun c26 => ?_)
 refine zi<|zs<|Ag<|Bc [] (by kernel_rfl) (by kernel_rfl) (by kernel_rfl) (by decide)<|ym R R<|ym R R<|ym R R<|ym R R<|yp (Ak R R R Cy (hx))<|yp (Ax R R Ai)<|yp (Dj R R R (by omega) (by omega))<|ya R R<|ya R R<|?_
 refine ChK.nil ⟨by kernel_rfl, ?_⟩
 refine Af (by kernel_rfl)<|zm R R<|zp (Aj R R R (by omega) (by omega))<|za R R<|zn<|?_
 exact Al (j + 1) (⟨by have := (List.getElem?_eq_some_iff.1 hx).1; omega, fun i x2 hi hx2 => by by_cases e : i = j; (· subst e; rw [hx] at hx2; cases hx2; exact decide_eq_true c26); (· exact hall i x2 (by omega) hx2)⟩) (by have := (List.getElem?_eq_some_iff.1 hx).1; omega) (fz ⟨.same (sI (by rw [Agt, if_neg (by omega), Nat.add_sub_cancel])), .same (sI (by rw [X2, if_neg (by omega), Nat.add_sub_cancel, hx]; rfl)), sr, sr, sr, trivial⟩) (HSub.nil)
 have hn := Aih (t := a % m.len) hj hall (.inr ⟨x, hx, decide_eq_false c26⟩)
 refine Ap<|zr<|zm R R<|zm R R<|za R R<|za R R<|zn<|zt<|?_
 exact Bj R (RV.tmp R R) (RV.tmp R R) (r2 (rI (by rw [hn])) (rI (by rw [hn])))
 have hn := Aih (t := a % m.len) hj hall (.inl (by omega))
 refine zk 6 R<|zq R R R<|zn<|A3 (by kernel_rfl) R<|Ap<|zr<|zm R R<|zm R R<|za R R<|za R R<|zn<|zt<|?_
 exact Bj R (RV.tmp R R) (RV.tmp R R) (r2 (rI (by rw [hn])) (rI (by rw [hn])))
theorem Og (m : Me) (a : Int) (h : Mok m) (ha : 0 ≤ a ∧ a ≤ 4398046511104) : XC Tryz.prog 126 [.agg (Me.c m), .v (.int .i64 a)] (fun r => r = dI (m.level a)) := by
 have hl := h.len
 have hg := h.groups
 have hgp := hg.pos
 have hu := h.u
 have ht0 := Int.emod_nonneg a (by omega : m.len ≠ 0)
 have ht1 := Int.emod_lt_of_pos a (by omega : 0 < m.len)
 have hof := Akc (t := a % m.len) (V6 h) (Ae0 h) ht0
 have hne : m.groups ≠ [] := fun k => by rw [k] at hgp; exact absurd hgp (by decide)
 have hae := V7 hne
 refine An Aam Tryz.func126 R R lb<|zr<|XL.step R (As 2 (l := [.d (dI m.count), .d (dI m.unit), .d (dI m.g0), .d (dI m.g1), .d (dI m.g2), .d (dI m.g3), .d (dI m.g4), .d (dI m.g5)]) R R (by kernel_rfl))<|za R R<|znr<|zm R R<|zp (Ae (s' := .d (.agg (Me.c m))) (Ad (Ac R R Bb R lb)) (by kernel_rfl))<|XL.call1 R R (Rv _ (by assumption)) R<|?_
 refine zp (Dx R R R (by omega) (by omega))<|za R R<|znr<|zp (Ae (s' := .d (.agg (Me.c m))) (Ad (Ac R R Bb R lb)) (by kernel_rfl))<|zm R R<|XL.call1 R R (Amx _ _ (by assumption) (by omega)) R<|zm R R<|zp (Be R R R)<|zp (Be R R R)<|za R R<|za R R<|zn<|zs<|Ag<|?_
 refine zr<|zm R R<|zp (Ay R R R)<|za R R<|zn<|?_
 refine zd R (fun c20 => ?_) (fun c20 => ?_)
 exact zr<|za R R<|zn<|zt<|z1 R R (rI (Ao4 c20))
 refine zr<|zm R R<|zp (Gy R R R (by omega) (by omega))<|zp (Ae (s' := .d (.agg (Me.c m))) (Ad (Ac R R Bb R lb)) (by kernel_rfl))<|XL.call1 R R (Rv _ (by assumption)) R<|zp (Ay R R R)<|zm R R<|?_
 refine XL.dec 29 R (fun g29 => ?_) (fun g29 => ?_)
 refine zp (Ae (s' := .d (.agg (Me.c m))) (Ad (Ac R R Bb R lb)) (by kernel_rfl))<|XL.call1 R R (Q6 _ (by assumption)) R<|XL.call1 R R (Afj _) R<|zq R R R<|za R R<|zn<|?_
 refine zd R (fun c23 => ?_) (fun c23 => ?_)
 exact zr<|za R R<|zn<|zt<|z1 R R (rI (Ao3 c20 ⟨⟨g29, c23.2⟩, hae.1 c23.1⟩))
 refine zs<|?_
 have hns : ¬ ((2 * (a % m.len) = m.len ∧ (m.groups.length : Int) % 2 = 0) ∧ Gi m.groups = Gj m.groups) := by first | exact fun k => c23 ⟨hae.2 k.2, k.1.2⟩ | exact fun k => g29 k.1.1
 refine Af (by kernel_rfl)<|zm R R<|zp (Ay R R R)<|za R R<|zn<|?_
 refine zd R (fun c34 => ?_) (fun c34 => ?_)
 exact zr<|za R R<|zn<|zt<|z1 R R (rI (X8 c20 hns (hof.1 c34)))
 refine zi<|zs<|zr<|za R R<|zn<|Ag<|?_
 refine Au (α := Nat) (fun k => k ≤ 9 ∧ rl (a % m.len) m.u (9 - k) k = m.level a) (fun k => mkF [(2, .ptr 2 0 0), (5, .d (dI (a % m.len))), (8, .d (dI (k : Nat)))]) (fun k => mkH [(2, .box ((Me.c m).map S.d))]) (fun k => 9 - k) (0) (⟨Nat.zero_le _, Aeg h c20 hns (fun q => c34 (hof.2 q))⟩) ?_ ?_ ?_
 exact fz ⟨sr, sr, sr, trivial⟩
 exact gz ⟨R, trivial⟩
 intro k hk1
 obtain ⟨hk, hgo⟩ := hk1
 have hp9 := Aop hk
 have hq0 : 0 ≤ m.u / 2 ^ k := Int.ediv_nonneg (by omega) (by omega)
 have hq1 : m.u / 2 ^ k ≤ m.u := Int.ediv_le_self _ (by omega)
 have hq2 : m.u / 2 ^ k * 2 ^ k ≤ m.u := Int.ediv_mul_le _ (by omega)
 have hq3 : 0 ≤ m.u / 2 ^ k * 2 ^ k := Int.mul_nonneg hq0 (by omega)
 refine zs<|zr<|zm R R<|zp (E4 R R R)<|zn<|?_
 refine zd R (fun c38 => ?_) (fun c38 => ?_)
 obtain ⟨f, hf⟩ : ∃ f, 9 - k = f + 1 := ⟨8 - k, by omega⟩
 rw [hf] at hgo
 have hf2 : 9 - (k + 1) = f := by omega
 have hkn : (k : Int).toNat = k := Int.toNat_natCast k
 refine zi<|zs<|Ag<|zr<|zp (Ae (s' := .d (.agg (Me.c m))) (Ad (Ac R R Bb R lb)) (by kernel_rfl))<|XL.call1 R R (Gp _ (by assumption)) R<|zm R R<|zp (Wm R R R (by omega) (by omega))<|za R R<|zn<|zs<|?_
 by_cases q50 : m.u / 2 ^ k * 2 ^ k = m.u
 by_cases q53 : 7560 ≤ m.u / 2 ^ k
 refine Bc [] (by kernel_rfl) (by kernel_rfl) (by kernel_rfl) (by decide)<|ym R R<|ym R R<|yp (Qp R R R (by omega) (by omega) (by rw [hkn]; omega) (by rw [hkn]; omega))<|yp (Ae (s' := .d (.agg (Me.c m))) (Ad (Ac R R Bb R lb)) (by kernel_rfl))<|ChK.cons R (CStep.call R (Gp _ (by assumption)) R)<|yp (Di (Ay R R R) (q50))<|ym R R<|ym R R<|?_
 refine yp (Di (D6 R R R) (q53))<|yp (A6 R R (by conv => lhs; whnf))<|?_
 refine ym R R<|ym R R<|ym R R<|yp (Dx R R R (by omega) (by rw [hkn]; omega))<|yp (Ay R R R)<|yp (A6 R R (by conv => lhs; whnf))<|?_
 refine ChK.nil ⟨by kernel_rfl, ?_⟩
 refine zd R (fun c60 => ?_) (fun c60 => ?_)
 exact zr<|zm R R<|zp (Aj R R R (by omega) (by omega))<|za R R<|zn<|zt<|z1 R R (rI ((Ahp ⟨⟨q50, q53⟩, c60⟩).symm.trans hgo))
 refine zi<|Af (by kernel_rfl)<|zm R R<|zp (Aj R R R (by omega) (by omega))<|za R R<|zn<|?_
 exact Al (k + 1) (⟨by omega, by rw [hf2, ← hgo]; exact (Lw (by first | exact fun q => c60 q.2 | exact fun q => q53 q.1.2 | exact fun q => q50 q.1.1)).symm⟩) (by omega) (fz ⟨sr, sr, sr, trivial⟩) (gz ⟨rfl, trivial⟩)
 refine Bc [] (by kernel_rfl) (by kernel_rfl) (by kernel_rfl) (by decide)<|ym R R<|ym R R<|yp (Qp R R R (by omega) (by omega) (by rw [hkn]; omega) (by rw [hkn]; omega))<|yp (Ae (s' := .d (.agg (Me.c m))) (Ad (Ac R R Bb R lb)) (by kernel_rfl))<|ChK.cons R (CStep.call R (Gp _ (by assumption)) R)<|yp (Di (Ay R R R) (q50))<|ym R R<|ym R R<|?_
 refine yp (F9 (D6 R R R) (q53))<|yp (A6 R R (by conv => lhs; whnf))<|?_
 refine ym R R<|ChK.skip R<|ChK.skip R<|ChK.skip R<|ChK.skip R<|yp (A6 R R (by conv => lhs; whnf))<|?_
 refine ChK.nil ⟨by kernel_rfl, ?_⟩
 refine A3 (by kernel_rfl) R<|zi<|Af (by kernel_rfl)<|zm R R<|zp (Aj R R R (by omega) (by omega))<|za R R<|zn<|?_
 exact Al (k + 1) (⟨by omega, by rw [hf2, ← hgo]; exact (Lw (by first | exact fun q => c60 q.2 | exact fun q => q53 q.1.2 | exact fun q => q50 q.1.1)).symm⟩) (by omega) (fz ⟨sr, sr, sr, trivial⟩) (gz ⟨rfl, trivial⟩)
 refine Bc [] (by kernel_rfl) (by kernel_rfl) (by kernel_rfl) (by decide)<|ym R R<|ym R R<|yp (Qp R R R (by omega) (by omega) (by rw [hkn]; omega) (by rw [hkn]; omega))<|yp (Ae (s' := .d (.agg (Me.c m))) (Ad (Ac R R Bb R lb)) (by kernel_rfl))<|ChK.cons R (CStep.call R (Gp _ (by assumption)) R)<|yp (F9 (Ay R R R) (q50))<|ym R R<|ChK.skip R<|ChK.skip R<|?_
 refine yp (A6 R R (by conv => lhs; whnf))<|?_
 refine ym R R<|ChK.skip R<|ChK.skip R<|ChK.skip R<|ChK.skip R<|yp (A6 R R (by conv => lhs; whnf))<|?_
 refine ChK.nil ⟨by kernel_rfl, ?_⟩
 refine A3 (by kernel_rfl) R<|zi<|Af (by kernel_rfl)<|zm R R<|zp (Aj R R R (by omega) (by omega))<|za R R<|zn<|?_
 exact Al (k + 1) (⟨by omega, by rw [hf2, ← hgo]; exact (Lw (by first | exact fun q => c60 q.2 | exact fun q => q53 q.1.2 | exact fun q => q50 q.1.1)).symm⟩) (by omega) (fz ⟨sr, sr, sr, trivial⟩) (gz ⟨rfl, trivial⟩)
 have hk9 : k = 9 := by omega
 subst hk9
 exact Ap<|zr<|za R R<|zn<|zt<|z1 R R (rI hgo)
 refine zk 3 R<|zq R R R<|za R R<|zn<|A3 (by kernel_rfl) R<|zs<|?_
 have hns : ¬ ((2 * (a % m.len) = m.len ∧ (m.groups.length : Int) % 2 = 0) ∧ Gi m.groups = Gj m.groups) := by first | exact fun k => c23 ⟨hae.2 k.2, k.1.2⟩ | exact fun k => g29 k.1.1
 refine Af (by kernel_rfl)<|zm R R<|zp (Ay R R R)<|za R R<|zn<|?_
 refine zd R (fun c34 => ?_) (fun c34 => ?_)
 exact zr<|za R R<|zn<|zt<|z1 R R (rI (X8 c20 hns (hof.1 c34)))
 refine zi<|zs<|zr<|za R R<|zn<|Ag<|?_
 refine Au (α := Nat) (fun k => k ≤ 9 ∧ rl (a % m.len) m.u (9 - k) k = m.level a) (fun k => mkF [(2, .ptr 2 0 0), (5, .d (dI (a % m.len))), (8, .d (dI (k : Nat)))]) (fun k => mkH [(2, .box ((Me.c m).map S.d))]) (fun k => 9 - k) (0) (⟨Nat.zero_le _, Aeg h c20 hns (fun q => c34 (hof.2 q))⟩) ?_ ?_ ?_
 exact fz ⟨sr, sr, sr, trivial⟩
 exact gz ⟨R, trivial⟩
 intro k hk1
 obtain ⟨hk, hgo⟩ := hk1
 have hp9 := Aop hk
 have hq0 : 0 ≤ m.u / 2 ^ k := Int.ediv_nonneg (by omega) (by omega)
 have hq1 : m.u / 2 ^ k ≤ m.u := Int.ediv_le_self _ (by omega)
 have hq2 : m.u / 2 ^ k * 2 ^ k ≤ m.u := Int.ediv_mul_le _ (by omega)
 have hq3 : 0 ≤ m.u / 2 ^ k * 2 ^ k := Int.mul_nonneg hq0 (by omega)
 refine zs<|zr<|zm R R<|zp (E4 R R R)<|zn<|?_
 refine zd R (fun c38 => ?_) (fun c38 => ?_)
 obtain ⟨f, hf⟩ : ∃ f, 9 - k = f + 1 := ⟨8 - k, by omega⟩
 rw [hf] at hgo
 have hf2 : 9 - (k + 1) = f := by omega
 have hkn : (k : Int).toNat = k := Int.toNat_natCast k
 refine zi<|zs<|Ag<|zr<|zp (Ae (s' := .d (.agg (Me.c m))) (Ad (Ac R R Bb R lb)) (by kernel_rfl))<|XL.call1 R R (Gp _ (by assumption)) R<|zm R R<|zp (Wm R R R (by omega) (by omega))<|za R R<|zn<|zs<|?_
 by_cases q50 : m.u / 2 ^ k * 2 ^ k = m.u
 by_cases q53 : 7560 ≤ m.u / 2 ^ k
 refine Bc [] (by kernel_rfl) (by kernel_rfl) (by kernel_rfl) (by decide)<|ym R R<|ym R R<|yp (Qp R R R (by omega) (by omega) (by rw [hkn]; omega) (by rw [hkn]; omega))<|yp (Ae (s' := .d (.agg (Me.c m))) (Ad (Ac R R Bb R lb)) (by kernel_rfl))<|ChK.cons R (CStep.call R (Gp _ (by assumption)) R)<|yp (Di (Ay R R R) (q50))<|ym R R<|ym R R<|?_
 refine yp (Di (D6 R R R) (q53))<|yp (A6 R R (by conv => lhs; whnf))<|?_
 refine ym R R<|ym R R<|ym R R<|yp (Dx R R R (by omega) (by rw [hkn]; omega))<|yp (Ay R R R)<|yp (A6 R R (by conv => lhs; whnf))<|?_
 refine ChK.nil ⟨by kernel_rfl, ?_⟩
 refine zd R (fun c60 => ?_) (fun c60 => ?_)
 exact zr<|zm R R<|zp (Aj R R R (by omega) (by omega))<|za R R<|zn<|zt<|z1 R R (rI ((Ahp ⟨⟨q50, q53⟩, c60⟩).symm.trans hgo))
 refine zi<|Af (by kernel_rfl)<|zm R R<|zp (Aj R R R (by omega) (by omega))<|za R R<|zn<|?_
 exact Al (k + 1) (⟨by omega, by rw [hf2, ← hgo]; exact (Lw (by first | exact fun q => c60 q.2 | exact fun q => q53 q.1.2 | exact fun q => q50 q.1.1)).symm⟩) (by omega) (fz ⟨sr, sr, sr, trivial⟩) (gz ⟨rfl, trivial⟩)
 refine Bc [] (by kernel_rfl) (by kernel_rfl) (by kernel_rfl) (by decide)<|ym R R<|ym R R<|yp (Qp R R R (by omega) (by omega) (by rw [hkn]; omega) (by rw [hkn]; omega))<|yp (Ae (s' := .d (.agg (Me.c m))) (Ad (Ac R R Bb R lb)) (by kernel_rfl))<|ChK.cons R (CStep.call R (Gp _ (by assumption)) R)<|yp (Di (Ay R R R) (q50))<|ym R R<|ym R R<|?_
 refine yp (F9 (D6 R R R) (q53))<|yp (A6 R R (by conv => lhs; whnf))<|?_
 refine ym R R<|ChK.skip R<|ChK.skip R<|ChK.skip R<|ChK.skip R<|yp (A6 R R (by conv => lhs; whnf))<|?_
 refine ChK.nil ⟨by kernel_rfl, ?_⟩
 refine A3 (by kernel_rfl) R<|zi<|Af (by kernel_rfl)<|zm R R<|zp (Aj R R R (by omega) (by omega))<|za R R<|zn<|?_
 exact Al (k + 1) (⟨by omega, by rw [hf2, ← hgo]; exact (Lw (by first | exact fun q => c60 q.2 | exact fun q => q53 q.1.2 | exact fun q => q50 q.1.1)).symm⟩) (by omega) (fz ⟨sr, sr, sr, trivial⟩) (gz ⟨rfl, trivial⟩)
 refine Bc [] (by kernel_rfl) (by kernel_rfl) (by kernel_rfl) (by decide)<|ym R R<|ym R R<|yp (Qp R R R (by omega) (by omega) (by rw [hkn]; omega) (by rw [hkn]; omega))<|yp (Ae (s' := .d (.agg (Me.c m))) (Ad (Ac R R Bb R lb)) (by kernel_rfl))<|ChK.cons R (CStep.call R (Gp _ (by assumption)) R)<|yp (F9 (Ay R R R) (q50))<|ym R R<|ChK.skip R<|ChK.skip R<|?_
 refine yp (A6 R R (by conv => lhs; whnf))<|?_
 refine ym R R<|ChK.skip R<|ChK.skip R<|ChK.skip R<|ChK.skip R<|yp (A6 R R (by conv => lhs; whnf))<|?_
 refine ChK.nil ⟨by kernel_rfl, ?_⟩
 refine A3 (by kernel_rfl) R<|zi<|Af (by kernel_rfl)<|zm R R<|zp (Aj R R R (by omega) (by omega))<|za R R<|zn<|?_
 exact Al (k + 1) (⟨by omega, by rw [hf2, ← hgo]; exact (Lw (by first | exact fun q => c60 q.2 | exact fun q => q53 q.1.2 | exact fun q => q50 q.1.1)).symm⟩) (by omega) (fz ⟨sr, sr, sr, trivial⟩) (gz ⟨rfl, trivial⟩)
 have hk9 : k = 9 := by omega
 subst hk9
 exact Ap<|zr<|za R R<|zn<|zt<|z1 R R (rI hgo)
end Go.Proofs.YtcihalbakenleaaGreat
namespace Go.Proofs.YtcihalbakenleaaGreat
open Go.RowKit
theorem Afi (v : Val) (h : C1 v = 0) : XC Tryz.prog 156 [.agg (Val.c v)] (fun r => r = dI (B9 v)) := by
 have hv := M1 (v := v) (by omega)
 have hp := Kv v
 refine An Zx Tryz.func156 R R lb<|zr<|XL.step R (As 1 (l := [.d (dI v.log), .d (dI v.dots)]) R R (by kernel_rfl))<|za R R<|znr<|za R R<|zn<|zs<|zr<|za R R<|zn<|Ag<|?_
 refine Au (α := Nat) (fun k => (k : Int) ≤ v.log + 1) (fun k => mkF [(1, .ptr 1 0 0), (2, .d (dI 0)), (3, .d (dI (H8 k))), (4, .d (dI ((k : Int) - 1)))]) (fun k => mkH [(1, .box ((Val.c v).map S.d))]) (fun k => (v.log + 1).toNat - k) (0) (by omega) ?_ ?_ ?_
 exact fz ⟨sr, sr, .same (sI (by decide)), .same (sI (by decide)), trivial⟩
 exact gz ⟨R, trivial⟩
 intro k hk0
 have hh := P3 k
 refine zs<|zr<|zm R R<|zp (Aa R R Ks)<|zp (Ab R R Ai R R)<|zp (Aq R R R)<|zn<|?_
 refine zd R (fun c10 => ?_) (fun c10 => ?_)
 refine zi<|zs<|Ag<|Af (by kernel_rfl)<|zm R R<|zp (F0 R R R (by omega) (by omega) (by omega))<|za R R<|zn<|Af (by kernel_rfl)<|zm R R<|zp (Aj R R R (by omega) (by omega))<|za R R<|zn<|?_
 exact Al (k + 1) (by omega) (by omega) (fz ⟨sr, sr, .same (sI (Nm k)), .same (sI (by omega)), trivial⟩) (gz ⟨R, trivial⟩)
 have hpl := Tl (v := v) (k := k) (by omega)
 refine Ap<|zr<|zm R R<|za R R<|zn<|zs<|zr<|za R R<|zn<|Ag<|?_
 refine Au (α := Nat) (fun m => (m : Int) ≤ v.dots) (fun m => mkF [(1, .ptr 1 0 0), (2, .d (dI 0)), (3, .d (dI (Eh (Dw v) m).1)), (5, .d (dI (Eh (Dw v) m).2)), (6, .d (dI (m : Nat)))]) (fun m => mkH [(1, .box ((Val.c v).map S.d))]) (fun m => v.dots.toNat - m) (0) (hv.2.2.1) ?_ ?_ ?_
 exact fz ⟨sr, sr, .same (sI hpl), .same (sI hpl), sr, trivial⟩
 exact gz ⟨R, trivial⟩
 intro m hk2
 refine zs<|zr<|zm R R<|zp (Aa R R G8)<|zp (Ab R R Ai R R)<|zp (Aq R R R)<|zn<|?_
 refine zd R (fun c19 => ?_) (fun c19 => ?_)
 have hb := J1 hp.1 m
 have hb2 : Dw v * ((m : Int) + 1) ≤ 3870720 * 4 := Int.mul_le_mul hp.2 (by omega) (by omega) (by omega)
 refine zi<|zs<|Ag<|zr<|zm R R<|zp (F0 R R R (by omega) (by omega) (by omega))<|za R R<|zng<|zm R R<|zm R R<|zp (Aj R R R (by omega) (by omega))<|za R R<|zn<|Af (by kernel_rfl)<|?_
 refine zm R R<|zp (Aj R R R (by omega) (by omega))<|za R R<|zn<|?_
 exact Al (m + 1) (by omega) (by omega) (fz ⟨sr, sr, sr, sr, sr, trivial⟩) (gz ⟨R, trivial⟩)
 have hke : v.dots.toNat = m := by omega
 exact Ap<|zr<|zm R R<|za R R<|zn<|zt<|z1 R R (rI (by rw [B9, hke]))
theorem Aen {p : Val → Bool} : ∀ {l : List Val} {q : Nat} {x : Val}, l[q]? = some x → p x = true → (∀ (i : Nat) y, i < q → l[i]? = some y → p y = false) → l.find? p = some x
 | [], q, x, h, _, _ => by simp at h
 | a :: l, 0, x, h, hp, _ => by cases h; rw [List.find?_cons_of_pos hp]
 | a :: l, q + 1, x, h, hp, hb => by
  rw [List.find?_cons_of_neg (by rw [hb 0 a (by omega) rfl]; decide)]
  exact Aen (by simpa using h) hp fun i y hi hy => hb (i + 1) y (by omega) hy
theorem Sd {q : Nat} (h : q < 40) : allV[q]? = some (Dm q) := by rw [allV, List.getElem?_map, Abg h]; rfl
theorem Ak4 : allV.length = 40 := by rw [allV, List.length_map, allQ, List.length_ofFn]
theorem Aji (k j : Nat) (hj : j < 4) : Dm (4 * k + j) = ⟨(k : Int) - 1, (j : Int)⟩ := by
 unfold Dm
 rw [show (4 * k + j) / 4 = k by omega, show (4 * k + j) % 4 = j by omega]
theorem Apc {d : Int} {q : Nat} (hq : q < 40) (hall : ∀ i, i < q → B9 (Dm i) ≠ d) (h : B9 (Dm q) = d) : B6 d = Dm q ∧ Ee d = 0 := by
 have : Hh d allV = some (Dm q) := Aen (Sd hq) (by simpa using h) fun i y hi hy => by
  rw [Sd (by omega)] at hy; cases hy; exact decide_eq_false (hall i hi)
 exact ⟨by rw [B6, this]; rfl, by rw [Ee, this, if_neg (by simp)]⟩
theorem Anl {d : Int} (hall : ∀ i, i < 40 → B9 (Dm i) ≠ d) : B6 d = ⟨0, 0⟩ ∧ Ee d = 17 := by
 have : Hh d allV = none := by
  unfold Hh
  rw [List.find?_eq_none]
  intro x hx
  obtain ⟨i, hi⟩ := List.getElem?_of_mem hx
  have hl := (List.getElem?_eq_some_iff.1 hi).1
  rw [Ak4] at hl
  rw [Sd hl] at hi; cases hi
  simpa using hall i hl
 exact ⟨by rw [B6, this]; rfl, by rw [Ee, this, if_pos rfl]⟩
theorem Al7 {d : Int} {v : Val} (h : B6 d = v ∧ Ee d = 0) : D.tup [.agg (Val.c v), dB true] = .tup [.agg (Val.c (B6 d)), dB (decide (Ee d = 0))] := by rw [h.1, h.2]; rfl
theorem An3 {d : Int} (h : B6 d = ⟨0, 0⟩ ∧ Ee d = 17) : D.tup [.agg (Val.c ⟨0, 0⟩), dB false] = .tup [.agg (Val.c (B6 d)), dB (decide (Ee d = 0))] := by rw [h.1, h.2]; rfl
theorem Afh (d : Int) : XC Tryz.prog 125 [.v (.int .i64 d)] (fun r => r = .tup [.agg (Val.c (B6 d)), dB (decide (Ee d = 0))]) := by
 refine An Aan Tryz.func125 R R lb<|zr<|XL.step R (A7 2 (l := [.d (dI 0), .d (dI 0)]) R C6 (by kernel_rfl))<|za R R<|zn<|zs<|zr<|za R R<|zn<|Ag<|?_
 refine Au (α := Nat) (fun k => k ≤ 10 ∧ ∀ i, i < 4 * k → B9 (Dm i) ≠ d) (fun k => mkF [(0, .d (dI d)), (2, .ptr 2 0 0), (4, .d (dI ((k : Int) - 1)))]) (fun k => mkH [(2, .box [.d (dI 0), .d (dI 0)])]) (fun k => 10 - k) (0) (⟨Nat.zero_le _, fun i h => absurd h (Nat.not_lt_zero _)⟩) ?_ ?_ ?_
 exact fz ⟨sr, sr, .same (sI (by decide)), trivial⟩
 exact gz ⟨R, trivial⟩
 intro k hk0
 obtain ⟨hk, hall⟩ := hk0
 refine zs<|zr<|zm R R<|zp (E4 R R R)<|zn<|?_
 refine zd R (fun c8 => ?_) (fun c8 => ?_)
 refine zi<|zs<|Ag<|zr<|za R R<|zn<|Ag<|?_
 refine Au (α := Nat) (fun j => j ≤ 4 ∧ ∀ i, i < 4 * k + j → B9 (Dm i) ≠ d) (fun j => mkF [(0, .d (dI d)), (2, .ptr 2 0 0), (4, .d (dI ((k : Int) - 1))), (5, .d (dI (j : Nat)))]) (fun j => mkH [(2, .box [.d (dI 0), .d (dI 0)])]) (fun j => 4 - j) (0) (⟨Nat.zero_le _, fun i h => hall i (by omega)⟩) ?_ ?_ ?_
 exact fz ⟨sr, sr, sr, sr, trivial⟩
 exact gz ⟨R, trivial⟩
 intro j hk2
 obtain ⟨hj, hall2⟩ := hk2
 refine zs<|zr<|zm R R<|zp (E4 R R R)<|zn<|?_
 refine zd R (fun c12 => ?_) (fun c12 => ?_)
 have hj4 : j < 4 := by omega
 have hkj := Aji k j hj4
 have hve : C1 ⟨(k : Int) - 1, (j : Int)⟩ = 0 := (Ph ⟨by show -1 ≤ (k : Int) - 1; omega, by show (k : Int) - 1 ≤ 8; omega, by show (0 : Int) ≤ (j : Int); omega, by show (j : Int) ≤ 3; omega⟩).symm
 refine zi<|zs<|Ag<|zr<|zm R R<|zm R R<|zp (Ae (s' := .d (.agg [dI ((k : Int) - 1), dI (j : Nat)])) (Ad (Bo R In C6 R)) (by kernel_rfl))<|XL.step R (A7 6 (l := [.d (dI 0), .d (dI 0)]) R C6 (by kernel_rfl))<|XL.step R (Ah (l' := [.d (dI ((k : Int) - 1)), .d (dI (j : Nat))]) R R R R Dd R lb (by kernel_rfl))<|znr<|?_
 refine zp (Ae (s' := .d (.agg [dI ((k : Int) - 1), dI (j : Nat)])) (Ad (Ac R R B8 R lb)) (by kernel_rfl))<|XL.call1 R R (Afi ⟨(k : Int) - 1, (j : Int)⟩ hve) R<|zm R R<|zp (Ay R R R)<|zn<|?_
 refine zd R (fun c21 => ?_) (fun c21 => ?_)
 refine zr<|zp (Ae (s' := .d (.agg [dI ((k : Int) - 1), dI (j : Nat)])) (Ad (Ac R R B8 R lb)) (by kernel_rfl))<|XL.step R (Ah (l' := [.d (dI ((k : Int) - 1)), .d (dI (j : Nat))]) R R R R Dd R lb (by kernel_rfl))<|za R R<|zn<|zt<|?_
 exact Bj R (RV.cells R R R B8 lb R) (RV.tmp R R) (Al7 (v := ⟨(k : Int) - 1, (j : Int)⟩) (by rw [← hkj]; exact Apc (by omega) hall2 (by rw [hkj]; exact c21)))
 refine zi<|Af (by kernel_rfl)<|zm R R<|zp (Aj R R R (by omega) (by omega))<|za R R<|zn<|?_
 exact Al (j + 1) (⟨by omega, fun i hi => by by_cases e : i = 4 * k + j; (· rw [e, hkj]; exact c21); (· exact hall2 i (by omega))⟩) (by omega) (fz ⟨sr, sr, sr, sr, trivial⟩) (gz ⟨rfl, trivial⟩)
 refine Ap<|Af (by kernel_rfl)<|zm R R<|zp (Aj R R R (by omega) (by omega))<|za R R<|zn<|?_
 exact Al (k + 1) (⟨by omega, fun i hi => hall2 i (by omega)⟩) (by omega) (fz ⟨sr, sr, .same (sI (by omega)), trivial⟩) (gz ⟨rfl, trivial⟩)
 refine Ap<|zr<|zp (Ae (s' := .d (.agg [dI 0, dI 0])) (Ad (Bo R In C6 R)) (by kernel_rfl))<|XL.step R (Ah (l' := [.d (dI 0), .d (dI 0)]) R R R R Dd R lb (by kernel_rfl))<|za R R<|zn<|zt<|?_
 exact Bj R (RV.cells R R R B8 lb R) (RV.tmp R R) (An3 (Anl (fun i hi => hall i (by omega))))
def stl (p : Int × Int × Bool) : Int := if p.2.2 = true then p.2.1 else 99
theorem Wf {p : Int × Int × Bool} (h : p.2.2 = true) : stl p = p.2.1 := by rw [stl, if_pos h]
theorem Alf {p : Int × Int × Bool} (h : ¬ p.2.2 = true) : stl p = 99 := by rw [stl, if_neg h]
theorem Ahb {m : Me} {a : Int} {k : Nat} (h : m.level (a + 7560 * (k + 1)) < stl (Dy m a k)) : Dy m a (k + 1) = (a + 7560 * (k + 1), m.level (a + 7560 * (k + 1)), true) := by
 refine Hx ?_
 by_cases c : (Dy m a k).2.2 = true
 ·rw [Wf c] at h; exact .inr h
 ·exact .inl (by simpa using c)
theorem Alg {m : Me} {a : Int} {k : Nat} (h : ¬ m.level (a + 7560 * (k + 1)) < stl (Dy m a k)) : Dy m a (k + 1) = Dy m a k := by
 have hl := Ow m (a + 7560 * (k + 1))
 by_cases c : (Dy m a k).2.2 = true
 ·rw [Wf c] at h; exact Qj c h
 ·rw [Alf c] at h; omega
theorem Abt (m : Me) (a b : Int) (h : Mok m) (ha : 0 ≤ a ∧ a ≤ 4398046511104) (hb : b ≤ 4398046511104) : XC Tryz.prog 124 [.agg (Me.c m), .v (.int .i64 a), .v (.int .i64 b)] (fun r => r = .tup [dI (m.strong a b).1, dI (stl (m.strong a b))]) := by
 have hN : Cz a b = ((b - a - 1) / 7560).toNat := rfl
 refine An Aao Tryz.func124 R R lb<|zr<|XL.step R (As 3 (l := [.d (dI m.count), .d (dI m.unit), .d (dI m.g0), .d (dI m.g1), .d (dI m.g2), .d (dI m.g3), .d (dI m.g4), .d (dI m.g5)]) R R (by kernel_rfl))<|za R R<|za R R<|znr<|za R R<|zn<|zs<|zr<|zm R R<|zp (Aj R R R (by omega) (by omega))<|za R R<|zn<|?_
 refine Ag<|?_
 refine Au (α := Nat) (fun k => k ≤ Cz a b) (fun k => mkF [(2, .d (dI b)), (3, .ptr 3 0 0), (6, .d (dI (Dy m a k).1)), (7, .d (dI (stl (Dy m a k)))), (8, .d (dI (a + 7560 * (k + 1))))]) (fun k => mkH [(3, .box ((Me.c m).map S.d))]) (fun k => Cz a b - k) (0) (Nat.zero_le _) ?_ ?_ ?_
 exact fz ⟨sr, sr, sr, sr, .same (sI (by omega)), trivial⟩
 exact gz ⟨R, trivial⟩
 intro k hk0
 refine zs<|zr<|zm R R<|zm R R<|zp (Aq R R R)<|zn<|?_
 refine zd R (fun c14 => ?_) (fun c14 => ?_)
 have hlt : k < Cz a b := by omega
 refine zi<|zs<|Ag<|zr<|zp (Ae (s' := .d (.agg (Me.c m))) (Ad (Ac R R Bb R lb)) (by kernel_rfl))<|zm R R<|XL.call1 R R (Og _ _ (by assumption) (by omega)) R<|za R R<|znr<|zm R R<|zm R R<|zp (Aq R R R)<|zn<|?_
 refine zd R (fun c22 => ?_) (fun c22 => ?_)
 refine Af (by kernel_rfl)<|zm R R<|zm R R<|za R R<|za R R<|zn<|Af (by kernel_rfl)<|zm R R<|zp (Aj R R R (by omega) (by omega))<|za R R<|zn<|?_
 exact Al (k + 1) (by omega) (by omega) (fz ⟨sr, sr, .same (sI (by rw [Ahb c22])), .same (sI (by rw [Ahb c22]; rfl)), .same (sI (by omega)), trivial⟩) (gz ⟨R, trivial⟩)
 refine zi<|Af (by kernel_rfl)<|zm R R<|zp (Aj R R R (by omega) (by omega))<|za R R<|zn<|?_
 exact Al (k + 1) (by omega) (by omega) (fz ⟨sr, sr, .same (sI (by rw [Alg c22])), .same (sI (by rw [Alg c22])), .same (sI (by omega)), trivial⟩) (gz ⟨R, trivial⟩)
 have hk : k = Cz a b := by omega
 refine Ap<|zr<|zm R R<|zm R R<|za R R<|za R R<|zn<|zt<|?_
 exact Bj R (RV.tmp R R) (RV.tmp R R) (by rw [hk]; rfl)
theorem Agh : (B6 7560).dots = 0 := by decide +kernel
theorem Oh {m : Me} {a b : Int} (hab : a ≤ b) (hne : ¬ a = b) (ha : a % 7560 = 0) (hb : b % 7560 = 0) (h : ¬ ((Ee (b - a) = 0 ∧ (B6 (b - a)).dots ≤ 2) ∧ m.level a ≤ stl (m.strong a b) ∧ (0 < (B6 (b - a)).dots ∨ m.level b ≤ stl (m.strong a b)))) : (m.strong a b).2.2 = true := by
 refine Decidable.not_not.1 fun c => h ?_
 have hn := Q4 (m := m) (a := a) (b := b) (by simpa using c)
 unfold Cz at hn
 have hd : b - a = 7560 := by omega
 have h1 := Ow m a
 have h2 := Ow m b
 rw [hd, Alf c, Vy, Agh]
 omega
theorem Mh {m : Me} {a b : Int} (h : (Ee (b - a) = 0 ∧ (B6 (b - a)).dots ≤ 2) ∧ m.level a ≤ stl (m.strong a b) ∧ (0 < (B6 (b - a)).dots ∨ m.level b ≤ stl (m.strong a b))) : m.simp a b ∨ (m.strong a b).2.2 = false := by
 by_cases c : (m.strong a b).2.2 = true
 ·rw [Wf c] at h
  exact .inl ⟨h.1.1, h.1.2, fun _ => h.2⟩
 ·exact .inr (by simpa using c)
theorem Mi {m : Me} {a b : Int} (hw : (m.strong a b).2.2 = true) (h : ¬ ((Ee (b - a) = 0 ∧ (B6 (b - a)).dots ≤ 2) ∧ m.level a ≤ stl (m.strong a b) ∧ (0 < (B6 (b - a)).dots ∨ m.level b ≤ stl (m.strong a b)))) : ¬ m.simp a b := fun ⟨k1, k2, k3⟩ => h ⟨⟨k1, k2⟩, by rw [Wf hw]; exact k3 hw⟩
theorem Lj {m : Me} {a b : Int} (ha : a % 7560 = 0) (hw : (m.strong a b).2.2 = true) : (m.strong a b).1 % 7560 = 0 := by
 obtain ⟨j, _, hj⟩ := Pk hw
 rw [hj]; omega
theorem Xq (m : Me) (h : Mok m) (f : Nat) (ih : ∀ a b, SpP f a b → a % 7560 = 0 → b % 7560 = 0 → XS Tryz.prog 76 [.agg (Me.c m), dI a, dI b] (.own 7001) [(7001, .row 56 2 ((Dz m f a b).map Val.c))]) (a b : Int) (hp : SpP (f + 1) a b) (hma : a % 7560 = 0) (hmb : b % 7560 = 0) : XS Tryz.prog 76 [.agg (Me.c m), .v (.int .i64 a), .v (.int .i64 b)] (.own 7001) [(7001, .row 56 2 ((Dz m (f + 1) a b).map Val.c))] := by
 obtain ⟨ha, hab, hb, hd, hf⟩ := id hp
 refine I2 Ach Tryz.func76 R R lb (by kernel_rfl) (by kernel_rfl)<|zr<|XL.step R (As 3 (l := [.d (dI m.count), .d (dI m.unit), .d (dI m.g0), .d (dI m.g1), .d (dI m.g2), .d (dI m.g3), .d (dI m.g4), .d (dI m.g5)]) R R (by kernel_rfl))<|za R R<|zn<|zs<|zr<|zm R R<|zm R R<|zp (Ay R R R)<|zn<|?_
 refine zd R (fun c13 => ?_) (fun c13 => ?_)
 refine zr<|za R R<|zn<|C0 7001 6 56 2 R<|zt<|?_
 exact ⟨D1 R (RVS.tmp R R), HSub.cons (by first | exact Db (by rw [Ce c13]; rfl) | exact E3 (Cf c13 (Mi hw hno) hw) | exact Db (by rw [Cd c13 (Mh ⟨⟨by omega, by omega⟩, by omega, by omega⟩)]; rfl)) (HSub.nil)⟩
 refine zi<|zr<|zp (Ae (s' := .d (.agg (Me.c m))) (Ad (Ac R R Bb R lb)) (by kernel_rfl))<|zm R R<|zm R R<|XL.call1 R R (Abt _ _ _ (by assumption) (by omega) (by omega)) R<|zm R R<|zp (Be R R R)<|zp (Be R R R)<|za R R<|za R R<|znr<|zm R R<|zm R R<|?_
 refine zp (Dj R R R (by omega) (by omega))<|XL.call1 R R (Afh _) R<|zm R R<|zp (Be R R R)<|zp (Be R R R)<|XL.step R (A7 9 (l := [.d (dI 0), .d (dI 0)]) R C6 (by kernel_rfl))<|XL.step R (Ah (l' := [.d (dI (B6 (b - a)).log), .d (dI (B6 (b - a)).dots)]) R R R R Dd R lb (by kernel_rfl))<|za R R<|zn<|zs<|zr<|zm R R<|zm R R<|?_
 refine XL.bool 29 R (fun g29 => ?_) (fun g29 => ?_)
 have g29 := of_decide_eq_true g29
 refine zp (Aa R R G8)<|zp (Ab R R Ai R R)<|zp (E4 R R R)<|zq R R R<|zm R R<|?_
 refine XL.dec 34 R (fun g34 => ?_) (fun g34 => ?_)
 refine zm R R<|zp (Ae (s' := .d (.agg (Me.c m))) (Ad (Ac R R Bb R lb)) (by kernel_rfl))<|zm R R<|XL.call1 R R (Og _ _ (by assumption) (by omega)) R<|zp (D6 R R R)<|zq R R R<|zm R R<|?_
 refine XL.dec 41 R (fun g41 => ?_) (fun g41 => ?_)
 refine zp (Aa R R G8)<|zp (Ab R R Ai R R)<|zp (A5 R R R)<|zm R R<|?_
 refine XL.dec 45 R (fun g45 => ?_) (fun g45 => ?_)
 refine zk 5 R<|zq R R R<|zq R R R<|zn<|Ao (by kernel_rfl) R<|zr<|zp (Ae (s' := .d (.agg (Val.c (B6 (b - a))))) (Ad (Ac R R B8 R lb)) (by kernel_rfl))<|XL.step R (A9 7001 R Tryz.underlying106 Dd C6 R R (by omega) (by omega))<|zp (Am R (by conv => lhs; whnf))<|?_
 refine zn<|zt<|?_
 exact ⟨D1 R (RVS.tmp R R), HSub.cons (by first | exact Db (by rw [Ce c13]; rfl) | exact E3 (Cf c13 (Mi hw hno) hw) | exact Db (by rw [Cd c13 (Mh ⟨⟨by omega, by omega⟩, by omega, by omega⟩)]; rfl)) (HSub.nil)⟩
 refine zm R R<|zp (Ae (s' := .d (.agg (Me.c m))) (Ad (Ac R R Bb R lb)) (by kernel_rfl))<|zm R R<|XL.call1 R R (Og _ _ (by assumption) (by omega)) R<|zp (D6 R R R)<|zq R R R<|zq R R R<|zn<|?_
 refine zd R (fun c52 => ?_) (fun c52 => ?_)
 refine zr<|zp (Ae (s' := .d (.agg (Val.c (B6 (b - a))))) (Ad (Ac R R B8 R lb)) (by kernel_rfl))<|XL.step R (A9 7001 R Tryz.underlying106 Dd C6 R R (by omega) (by omega))<|zp (Am R (by conv => lhs; whnf))<|?_
 refine zn<|zt<|?_
 exact ⟨D1 R (RVS.tmp R R), HSub.cons (by first | exact Db (by rw [Ce c13]; rfl) | exact E3 (Cf c13 (Mi hw hno) hw) | exact Db (by rw [Cd c13 (Mh ⟨⟨by omega, by omega⟩, by omega, by omega⟩)]; rfl)) (HSub.nil)⟩
 refine zi<|zs<|?_
 have hno : ¬ ((Ee (b - a) = 0 ∧ (B6 (b - a)).dots ≤ 2) ∧ m.level a ≤ stl (m.strong a b) ∧ (0 < (B6 (b - a)).dots ∨ m.level b ≤ stl (m.strong a b))) := by omega
 have hw := Oh hab c13 hma hmb hno
 have hmc := Lj hma hw
 obtain ⟨hp1, hp2, hp3⟩ := Fk hp hw
 have hl1 := Ck (m := m) f _ _ hp1
 have hl2 := Ck (m := m) f _ _ hp2
 have hN : Cz a b ≤ 2048 := by unfold Cz; omega
 refine Cu 7 [7001] (by kernel_rfl) (by kernel_rfl) (by kernel_rfl) (by kernel_rfl) (by decide)<|yp (Ae (s' := .d (.agg (Me.c m))) (Ad (Ac R R Bb R lb)) (by kernel_rfl))<|ym R R<|ym R R<|ChK.cons R (CStep.callS R ((ih _ _ hp1 hma hmc).lab 7001) R (Eg (by kernel_rfl)))<|yp (Ae (s' := .d (.agg (Me.c m))) (Ad (Ac R R Bb R lb)) (by kernel_rfl))<|?_
 refine ym R R<|ym R R<|?_
 refine ChK.nil ⟨by kernel_rfl, ?_⟩
 refine XL.callS R R ((ih _ _ hp2 hmc hmb).lab 7002) R<|XL.step R (Az R Ib (.own R) (Src.own R) (by simp only [List.length_map]; unfold maxLen; omega) (by simp only [List.length_map]; omega))<|zp (Am R (by conv => lhs; whnf))<|?_
 refine zn<|zt<|?_
 exact ⟨D1 R (RVS.tmp R R), HSub.cons (by first | exact Db (by rw [Ce c13]; rfl) | exact E3 (Cf c13 (Mi hw hno) hw) | exact Db (by rw [Cd c13 (Mh ⟨⟨by omega, by omega⟩, by omega, by omega⟩)]; rfl)) (HSub.nil)⟩
 refine zk 10 R<|zq R R R<|zn<|A3 (by kernel_rfl) R<|zi<|zs<|?_
 have hno : ¬ ((Ee (b - a) = 0 ∧ (B6 (b - a)).dots ≤ 2) ∧ m.level a ≤ stl (m.strong a b) ∧ (0 < (B6 (b - a)).dots ∨ m.level b ≤ stl (m.strong a b))) := by omega
 have hw := Oh hab c13 hma hmb hno
 have hmc := Lj hma hw
 obtain ⟨hp1, hp2, hp3⟩ := Fk hp hw
 have hl1 := Ck (m := m) f _ _ hp1
 have hl2 := Ck (m := m) f _ _ hp2
 have hN : Cz a b ≤ 2048 := by unfold Cz; omega
 refine Cu 7 [7001] (by kernel_rfl) (by kernel_rfl) (by kernel_rfl) (by kernel_rfl) (by decide)<|yp (Ae (s' := .d (.agg (Me.c m))) (Ad (Ac R R Bb R lb)) (by kernel_rfl))<|ym R R<|ym R R<|ChK.cons R (CStep.callS R ((ih _ _ hp1 hma hmc).lab 7001) R (Eg (by kernel_rfl)))<|yp (Ae (s' := .d (.agg (Me.c m))) (Ad (Ac R R Bb R lb)) (by kernel_rfl))<|?_
 refine ym R R<|ym R R<|?_
 refine ChK.nil ⟨by kernel_rfl, ?_⟩
 refine XL.callS R R ((ih _ _ hp2 hmc hmb).lab 7003) R<|XL.step R (Az R Ib (.own R) (Src.own R) (by simp only [List.length_map]; unfold maxLen; omega) (by simp only [List.length_map]; omega))<|zp (Am R (by conv => lhs; whnf))<|?_
 refine zn<|zt<|?_
 exact ⟨D1 R (RVS.tmp R R), HSub.cons (by first | exact Db (by rw [Ce c13]; rfl) | exact E3 (Cf c13 (Mi hw hno) hw) | exact Db (by rw [Cd c13 (Mh ⟨⟨by omega, by omega⟩, by omega, by omega⟩)]; rfl)) (HSub.nil)⟩
 refine zk 5 R<|zq R R R<|zm R R<|zk 10 R<|zq R R R<|zn<|A3 (by kernel_rfl) R<|zi<|zs<|?_
 have hno : ¬ ((Ee (b - a) = 0 ∧ (B6 (b - a)).dots ≤ 2) ∧ m.level a ≤ stl (m.strong a b) ∧ (0 < (B6 (b - a)).dots ∨ m.level b ≤ stl (m.strong a b))) := by omega
 have hw := Oh hab c13 hma hmb hno
 have hmc := Lj hma hw
 obtain ⟨hp1, hp2, hp3⟩ := Fk hp hw
 have hl1 := Ck (m := m) f _ _ hp1
 have hl2 := Ck (m := m) f _ _ hp2
 have hN : Cz a b ≤ 2048 := by unfold Cz; omega
 refine Cu 7 [7001] (by kernel_rfl) (by kernel_rfl) (by kernel_rfl) (by kernel_rfl) (by decide)<|yp (Ae (s' := .d (.agg (Me.c m))) (Ad (Ac R R Bb R lb)) (by kernel_rfl))<|ym R R<|ym R R<|ChK.cons R (CStep.callS R ((ih _ _ hp1 hma hmc).lab 7001) R (Eg (by kernel_rfl)))<|yp (Ae (s' := .d (.agg (Me.c m))) (Ad (Ac R R Bb R lb)) (by kernel_rfl))<|?_
 refine ym R R<|ym R R<|?_
 refine ChK.nil ⟨by kernel_rfl, ?_⟩
 refine XL.callS R R ((ih _ _ hp2 hmc hmb).lab 7004) R<|XL.step R (Az R Ib (.own R) (Src.own R) (by simp only [List.length_map]; unfold maxLen; omega) (by simp only [List.length_map]; omega))<|zp (Am R (by conv => lhs; whnf))<|?_
 refine zn<|zt<|?_
 exact ⟨D1 R (RVS.tmp R R), HSub.cons (by first | exact Db (by rw [Ce c13]; rfl) | exact E3 (Cf c13 (Mi hw hno) hw) | exact Db (by rw [Cd c13 (Mh ⟨⟨by omega, by omega⟩, by omega, by omega⟩)]; rfl)) (HSub.nil)⟩
 have g29 := of_decide_eq_false g29
 refine zk 3 R<|zq R R R<|zm R R<|zk 5 R<|zq R R R<|zm R R<|zk 10 R<|zq R R R<|zn<|A3 (by kernel_rfl) R<|zi<|zs<|?_
 have hno : ¬ ((Ee (b - a) = 0 ∧ (B6 (b - a)).dots ≤ 2) ∧ m.level a ≤ stl (m.strong a b) ∧ (0 < (B6 (b - a)).dots ∨ m.level b ≤ stl (m.strong a b))) := by omega
 have hw := Oh hab c13 hma hmb hno
 have hmc := Lj hma hw
 obtain ⟨hp1, hp2, hp3⟩ := Fk hp hw
 have hl1 := Ck (m := m) f _ _ hp1
 have hl2 := Ck (m := m) f _ _ hp2
 have hN : Cz a b ≤ 2048 := by unfold Cz; omega
 refine Cu 7 [7001] (by kernel_rfl) (by kernel_rfl) (by kernel_rfl) (by kernel_rfl) (by decide)<|yp (Ae (s' := .d (.agg (Me.c m))) (Ad (Ac R R Bb R lb)) (by kernel_rfl))<|ym R R<|ym R R<|ChK.cons R (CStep.callS R ((ih _ _ hp1 hma hmc).lab 7001) R (Eg (by kernel_rfl)))<|yp (Ae (s' := .d (.agg (Me.c m))) (Ad (Ac R R Bb R lb)) (by kernel_rfl))<|?_
 refine ym R R<|ym R R<|?_
 refine ChK.nil ⟨by kernel_rfl, ?_⟩
 refine XL.callS R R ((ih _ _ hp2 hmc hmb).lab 7005) R<|XL.step R (Az R Ib (.own R) (Src.own R) (by simp only [List.length_map]; unfold maxLen; omega) (by simp only [List.length_map]; omega))<|zp (Am R (by conv => lhs; whnf))<|?_
 refine zn<|zt<|?_
 exact ⟨D1 R (RVS.tmp R R), HSub.cons (by first | exact Db (by rw [Ce c13]; rfl) | exact E3 (Cf c13 (Mi hw hno) hw) | exact Db (by rw [Cd c13 (Mh ⟨⟨by omega, by omega⟩, by omega, by omega⟩)]; rfl)) (HSub.nil)⟩
theorem S2 (m : Me) (h : Mok m) : ∀ (f : Nat) (a b : Int), SpP f a b → a % 7560 = 0 → b % 7560 = 0 → XS Tryz.prog 76 [.agg (Me.c m), dI a, dI b] (.own 7001) [(7001, .row 56 2 ((Dz m f a b).map Val.c))]
 | 0, a, b, hp, _, _ => by have := hp.2.2.2.2; omega
 | f + 1, a, b, hp, h1, h2 => Xq m h f (S2 m h f) a b hp h1 h2
theorem Q5 (m : Me) (a b : Int) (h : m.splitE a b = 0) : XS Tryz.prog 76 [.agg (Me.c m), dI a, dI b] (.own 7001) [(7001, .row 56 2 ((m.split a b).map Val.c))] := by
 obtain ⟨h0, h1, h2, h3, h4, h5, h6, h7⟩ := Ur h
 rw [h7]
 exact S2 m (Ah9 (by omega)) _ a b ⟨h1, h2, h3, h6, Nat.le_refl _⟩ h4 h5
end Go.Proofs.YtcihalbakenleaaGreat
namespace Go.Proofs.YtcihalbakenleaaGreat
open Go.RowKit
theorem I5 (l : List Hd) (h : l.length ≤ 1000) : XC Tryz.prog 51 [.sl 5 (l.map Hd.c)] (fun r => r = .sl 5 ((l.map Hd.tie).map Hd.c)) := by
 refine An Ac4 Tryz.func51 R R lb<|zr<|za R R<|znr<|za R R<|zn<|zs<|zr<|za R R<|zn<|Ag<|C0 900 3 91 5 R<|?_
 refine Au (α := Nat) (fun k => k ≤ l.length) (fun k => mkF [(0, .d (.sl 5 (l.map Hd.c))), (2, .d (.v (.slice none 0 0))), (3, .own 900), (4, .d (dI k))]) (fun k => mkH [(900, .row 91 5 (((l.take k).map Hd.tie).map Hd.c))]) (fun k => l.length - k) (0) (Nat.zero_le _) ?_ ?_ ?_
 exact fz ⟨sr, sr, sr, sr, trivial⟩
 exact gz ⟨R, trivial⟩
 intro k hk0
 refine zs<|zr<|zm R R<|zm R R<|XL.len R R R Tryz.underlying48 fun hl7=>zp (Aq R R R)<|zn<|?_
 refine zd R (fun c8 => ?_) (fun c8 => ?_)
 have hk0a : k < l.length := by omega
 obtain ⟨x0, hx0⟩ := Av hk0a
 have htl : ((l.take k).map Hd.tie).length = k := by rw [List.length_map, List.length_take]; omega
 refine zi<|zs<|Ag<|Cu 13 [] (by kernel_rfl) (by kernel_rfl) (by kernel_rfl) (by kernel_rfl) (by decide)<|yp (Ar R (by conv => lhs; whnf))<|?_
 refine ym R R<|ym R R<|yp (Ak R R R F8 hx0)<|yp (Bg R R H7)<|yp (Ae (s' := .d (.agg (Pit.c x0.p))) (At R R Fh lb) (by kernel_rfl))<|ym R R<|ym R R<|yp (Ak R R R F8 hx0)<|yp (Bg R R O0)<|yp (Ax R R Ai)<|?_
 refine yp (Ae (s' := .d (.agg [dI x0.p.step, dI x0.p.alter, dI x0.p.oct, dB true, dI x0.sh])) (Ad (Bo R W9 I1 R)) (by kernel_rfl))<|ChK.cons R (CStep.slice R Tryz.underlying48 Qh I1 R R (by omega) (by omega))<|?_
 refine ChK.nil ⟨by kernel_rfl, ?_⟩
 refine XL.step R (Az R Ys (.own R) (Src.sl (by omega)) (by unfold maxLen; simp; omega) (by simp; omega))<|zp (Am R (by conv => lhs; whnf))<|?_
 refine zn<|Af (by kernel_rfl)<|zm R R<|zp (Aj R R R (by omega) (by omega))<|za R R<|zn<|?_
 exact Al (k + 1) (by omega) (by omega) (fz ⟨sr, sr, sr, sr, trivial⟩) (gz ⟨D9 (a := Hd.tie x0) R (by rw [Bf hx0, List.map_append]; rfl), trivial⟩)
 have hk0b : k = l.length := by omega
 have ht : l.take k = l := by rw [hk0b, List.take_length]
 refine Ap<|zr<|zp (Ar R (by conv => lhs; whnf))<|?_
 refine zp (Am R (by conv => lhs; whnf))<|?_
 exact zn<|zt<|Ba (i := 900) R<|z1 R R (rSl (by rw [ht]))
theorem Abu (l : List Hd) (h : l.length ≤ 1000) : XC Tryz.prog 96 [.sl 5 (l.map Hd.c)] (fun r => r = .sl 5 ((l.map Hd.plain).map Hd.c)) := by
 refine An Ab4 Tryz.func96 R R lb<|zr<|za R R<|znr<|za R R<|zn<|zs<|zr<|za R R<|zn<|Ag<|C0 900 3 91 5 R<|?_
 refine Au (α := Nat) (fun k => k ≤ l.length) (fun k => mkF [(0, .d (.sl 5 (l.map Hd.c))), (2, .d (.v (.slice none 0 0))), (3, .own 900), (4, .d (dI k))]) (fun k => mkH [(900, .row 91 5 (((l.take k).map Hd.plain).map Hd.c))]) (fun k => l.length - k) (0) (Nat.zero_le _) ?_ ?_ ?_
 exact fz ⟨sr, sr, sr, sr, trivial⟩
 exact gz ⟨R, trivial⟩
 intro k hk0
 refine zs<|zr<|zm R R<|zm R R<|XL.len R R R Tryz.underlying48 fun hl7=>zp (Aq R R R)<|zn<|?_
 refine zd R (fun c8 => ?_) (fun c8 => ?_)
 have hk0a : k < l.length := by omega
 obtain ⟨x0, hx0⟩ := Av hk0a
 have htl : ((l.take k).map Hd.plain).length = k := by rw [List.length_map, List.length_take]; omega
 refine zi<|zs<|Ag<|Cu 13 [] (by kernel_rfl) (by kernel_rfl) (by kernel_rfl) (by kernel_rfl) (by decide)<|yp (Ar R (by conv => lhs; whnf))<|?_
 refine ym R R<|ym R R<|yp (Ak R R R F8 hx0)<|yp (Bg R R H7)<|yp (Ae (s' := .d (.agg (Pit.c x0.p))) (At R R Fh lb) (by kernel_rfl))<|ym R R<|ym R R<|yp (Ak R R R F8 hx0)<|yp (Bg R R Jn)<|yp (Ax R R Ob)<|?_
 refine yp (Ae (s' := .d (.agg [dI x0.p.step, dI x0.p.alter, dI x0.p.oct, dB x0.tied, dI 0])) (Ad (Bo R W9 I1 R)) (by kernel_rfl))<|ChK.cons R (CStep.slice R Tryz.underlying48 Qh I1 R R (by omega) (by omega))<|?_
 refine ChK.nil ⟨by kernel_rfl, ?_⟩
 refine XL.step R (Az R Ys (.own R) (Src.sl (by omega)) (by unfold maxLen; simp; omega) (by simp; omega))<|zp (Am R (by conv => lhs; whnf))<|?_
 refine zn<|Af (by kernel_rfl)<|zm R R<|zp (Aj R R R (by omega) (by omega))<|za R R<|zn<|?_
 exact Al (k + 1) (by omega) (by omega) (fz ⟨sr, sr, sr, sr, trivial⟩) (gz ⟨D9 (a := Hd.plain x0) R (by rw [Bf hx0, List.map_append]; rfl), trivial⟩)
 have hk0b : k = l.length := by omega
 have ht : l.take k = l := by rw [hk0b, List.take_length]
 refine Ap<|zr<|zp (Ar R (by conv => lhs; whnf))<|?_
 refine zp (Am R (by conv => lhs; whnf))<|?_
 exact zn<|zt<|Ba (i := 900) R<|z1 R R (rSl (by rw [ht]))
def Ev.furV (x : Ev) : Ev := ⟨0, 0, x.kind, x.v, x.heads.map Hd.plain, [], 0, 0, 0, [], x.stem, 0⟩
theorem Mz (x : Ev) (h : x.fit) : XC Tryz.prog 52 [.agg (Ev.c x)] (fun r => r = .agg (Ev.c x.furV)) := by
 have h1 := h.1
 refine An Ac3 Tryz.func52 R R lb<|zr<|XL.step R (As 1 (l := [.d (dI x.site), .d (dI x.num), .d (dI x.kind), .d (dI x.v.log), .d (dI x.v.dots), .d (.sl 5 (x.heads.map Hd.c)), .d (.sl 5 (x.graces.map Gr.c)), .d (dI x.art), .d (dI x.orn), .d (dI x.dyn), .d (.sl 2 (x.lyr.map Sy.c)), .d (dI x.stem), .d (dI x.beam)]) R R (by kernel_rfl))<|?_
 refine XL.step R (A7 2 (l := [.d (dI 0), .d (dI 0), .d (dI 0), .d (dI 0), .d (dI 0), .d (.v (.slice none 0 0)), .d (.v (.slice none 0 0)), .d (dI 0), .d (dI 0), .d (dI 0), .d (.v (.slice none 0 0)), .d (dI 0), .d (dI 0)]) R Bs (by kernel_rfl))<|zn<|zs<|Cu 9 [] (by kernel_rfl) (by kernel_rfl) (by kernel_rfl) (by kernel_rfl) (by decide)<|yp (Aa R R Bv)<|?_
 refine yp (Ab R R Ai R R)<|yp (Aa R R B7)<|yp (Ae (s' := .d (.agg (Val.c x.v))) (Ad (Ac R R B8 R lb)) (by kernel_rfl))<|yp (Aa R R Bk)<|yp (Ab R R C9 R R)<|ChK.cons R (CStep.call R (Abu _ (by omega)) R)<|yp (Aa R R D4)<|yp (Ab R R Ai R R)<|?_
 refine ChK.nil ⟨by kernel_rfl, ?_⟩
 refine zp (Ae (s' := .d (.agg [dI 0, dI 0, dI x.kind, dI x.v.log, dI x.v.dots, .sl 5 ((x.heads.map Hd.plain).map Hd.c), .v (.slice none 0 0), dI 0, dI 0, dI 0, .v (.slice none 0 0), dI x.stem, dI 0])) (Ad (Bo R L7 Bs R)) (by kernel_rfl))<|?_
 refine XL.step R (Ah (l' := [.d (dI 0), .d (dI 0), .d (dI x.kind), .d (dI x.v.log), .d (dI x.v.dots), .d (.sl 5 ((x.heads.map Hd.plain).map Hd.c)), .d (.v (.slice none 0 0)), .d (dI 0), .d (dI 0), .d (dI 0), .d (.v (.slice none 0 0)), .d (dI x.stem), .d (dI 0)]) R R R R Bw R lb (by kernel_rfl))<|zn<|zt<|?_
 exact Fm R (RV.sub (RV.cells R R R Aw lb R) (.agg (.cons (.same R) (.cons (.same R) (.cons (.same R) (.cons (.same R) (.cons (.same R) (.cons (.same R) (.cons (.nil 5) (.cons (.same R) (.cons (.same R) (.cons (.same R) (.cons (.nil 2) (.cons (.same R) (.cons (.same R) (.nil)))))))))))))))) (R)
theorem U0 (x : Ev) (m : Me) (a b : Int) (h : x.fit) (hs : m.splitE a b = 0) : XC Tryz.prog 37 [.agg (Ev.c x), .agg (Me.c m), .v (.int .i64 a), .v (.int .i64 b)] (fun r => r = .sl 13 ((Bi x (m.split a b) false).map Ev.c)) := by
 have hf1 := h.1
 have hsl := Io m a b
 refine An Rj Tryz.func37 R R lb<|zr<|XL.step R (As 4 (l := [.d (dI x.site), .d (dI x.num), .d (dI x.kind), .d (dI x.v.log), .d (dI x.v.dots), .d (.sl 5 (x.heads.map Hd.c)), .d (.sl 5 (x.graces.map Gr.c)), .d (dI x.art), .d (dI x.orn), .d (dI x.dyn), .d (.sl 2 (x.lyr.map Sy.c)), .d (dI x.stem), .d (dI x.beam)]) R R (by kernel_rfl))<|?_
 refine XL.step R (As 5 (l := [.d (dI m.count), .d (dI m.unit), .d (dI m.g0), .d (dI m.g1), .d (dI m.g2), .d (dI m.g3), .d (dI m.g4), .d (dI m.g5)]) R R (by kernel_rfl))<|za R R<|znr<|zp (Ae (s' := .d (.agg (Me.c m))) (Ad (Ac R R Bb R lb)) (by kernel_rfl))<|zm R R<|zm R R<|XL.callS R R ((Q5 _ _ _ (by assumption)).lab 7001) R<|zp (Am R (by conv => lhs; whnf))<|?_
 refine znr<|XL.freeze (i := 7001) R<|za R R<|zn<|zs<|zr<|za R R<|zn<|Ag<|C0 900 10 60 13 R<|?_
 refine Au (α := Nat) (fun k => k ≤ (m.split a b).length) (fun k => mkF [(4, .ptr 4 0 0), (8, .d (.v (.slice none 0 0))), (9, .d (.sl 2 ((m.split a b).map Val.c))), (10, .own 900), (11, .d (dI k))]) (fun k => mkH [(4, .box ((Ev.c x).map S.d)), (900, .row 60 13 ((Fc x (m.split a b) false k).map Ev.c))]) (fun k => (m.split a b).length - k) (0) (Nat.zero_le _) ?_ ?_ ?_
 exact fz ⟨sr, sr, sr, sr, sr, trivial⟩
 exact gz ⟨R, R, trivial⟩
 intro k hk0
 refine zs<|zr<|zm R R<|zm R R<|XL.len R R R Tryz.underlying106 fun hl19=>zp (Aq R R R)<|zn<|?_
 refine zd R (fun c20 => ?_) (fun c20 => ?_)
 have hk0a : k < (m.split a b).length := by omega
 obtain ⟨x0, hx0⟩ := Av hk0a
 have hnl : (Fc x (m.split a b) false k).length = k := by rw [Fc, List.length_mapIdx, List.length_take]; omega
 have hpl : (x.heads.map Hd.plain).length ≤ 1000 := by rw [List.length_map]; exact hf1
 have hpl2 : x.furV.heads.length ≤ 1000 := hpl
 refine zi<|zs<|Ag<|zr<|zp (Ae (s' := .d (.agg (Ev.c x))) (Ad (Ac R R Aw R lb)) (by kernel_rfl))<|XL.step R (A7 12 (l := [.d (dI 0), .d (dI 0), .d (dI 0), .d (dI 0), .d (dI 0), .d (.v (.slice none 0 0)), .d (.v (.slice none 0 0)), .d (dI 0), .d (dI 0), .d (dI 0), .d (.v (.slice none 0 0)), .d (dI 0), .d (dI 0)]) R Bs (by kernel_rfl))<|?_
 refine XL.step R (Ah (l' := [.d (dI x.site), .d (dI x.num), .d (dI x.kind), .d (dI x.v.log), .d (dI x.v.dots), .d (.sl 5 (x.heads.map Hd.c)), .d (.sl 5 (x.graces.map Gr.c)), .d (dI x.art), .d (dI x.orn), .d (dI x.dyn), .d (.sl 2 (x.lyr.map Sy.c)), .d (dI x.stem), .d (dI x.beam)]) R R R R Bw R lb (by kernel_rfl))<|zn<|zs<|zr<|zm R R<|zp (A5 R R R)<|zn<|?_
 refine zd R (fun c25 => ?_) (fun c25 => ?_)
 refine Af (by kernel_rfl)<|zp (Ae (s' := .d (.agg (Ev.c x))) (Ad (Ac R R Aw R lb)) (by kernel_rfl))<|XL.call1 R R (Mz _ (by assumption)) R<|?_
 refine XL.step R (Ah (l' := [.d (dI x.furV.site), .d (dI x.furV.num), .d (dI x.furV.kind), .d (dI x.furV.v.log), .d (dI x.furV.v.dots), .d (.sl 5 (x.furV.heads.map Hd.c)), .d (.sl 5 (x.furV.graces.map Gr.c)), .d (dI x.furV.art), .d (dI x.furV.orn), .d (dI x.furV.dyn), .d (.sl 2 (x.furV.lyr.map Sy.c)), .d (dI x.furV.stem), .d (dI x.furV.beam)]) R R R R Bw R lb (by kernel_rfl))<|zn<|zs<|zr<|?_
 refine zm R R<|zp (Aj R R R (by omega) (by omega))<|zm R R<|XL.len R R R Tryz.underlying106 fun hl31=>zp (Aq R R R)<|zn<|?_
 refine zd R (fun c32 => ?_) (fun c32 => ?_)
 refine Af (by kernel_rfl)<|zp (Aa R R Bk)<|zp (Ab R R C9 R R)<|XL.call1 R R (I5 _ (by omega)) R<|zp (Aa R R Bk)<|?_
 refine XL.step R (Ah (l' := [.d (dI x.furV.site), .d (dI x.furV.num), .d (dI x.furV.kind), .d (dI x.furV.v.log), .d (dI x.furV.v.dots), .d (.sl 5 ((x.furV.heads.map Hd.tie).map Hd.c)), .d (.sl 5 (x.furV.graces.map Gr.c)), .d (dI x.furV.art), .d (dI x.furV.orn), .d (dI x.furV.dyn), .d (.sl 2 (x.furV.lyr.map Sy.c)), .d (dI x.furV.stem), .d (dI x.furV.beam)]) R R R R I4 R lb (by kernel_rfl))<|?_
 refine znr<|zm R R<|zm R R<|zp (Ak R R R Ka hx0)<|zp (Ae (s' := .d (.agg (Val.c x0))) (At R R B8 lb) (by kernel_rfl))<|zp (Aa R R B7)<|?_
 refine XL.step R (Ah (l' := [.d (dI x.furV.site), .d (dI x.furV.num), .d (dI x.furV.kind), .d (dI x0.log), .d (dI x0.dots), .d (.sl 5 ((x.furV.heads.map Hd.tie).map Hd.c)), .d (.sl 5 (x.furV.graces.map Gr.c)), .d (dI x.furV.art), .d (dI x.furV.orn), .d (dI x.furV.dyn), .d (.sl 2 (x.furV.lyr.map Sy.c)), .d (dI x.furV.stem), .d (dI x.furV.beam)]) R R R R Dd R lb (by kernel_rfl))<|zng<|?_
 refine zp (Ar R (by conv => lhs; whnf))<|?_
 refine zp (Ae (s' := .d (.agg [dI x.furV.site, dI x.furV.num, dI x.furV.kind, dI x0.log, dI x0.dots, .sl 5 ((x.furV.heads.map Hd.tie).map Hd.c), .sl 5 (x.furV.graces.map Gr.c), dI x.furV.art, dI x.furV.orn, dI x.furV.dyn, .sl 2 (x.furV.lyr.map Sy.c), dI x.furV.stem, dI x.furV.beam])) (Ad (Ac R R Aw R lb)) (by kernel_rfl))<|?_
 refine XL.step R (A9 44 R Tryz.underlying22 Bw Bs R R (by omega) (by omega))<|XL.step R (Az R Dt (.own R) (Src.own R) (by unfold maxLen; simp; omega) (by simp; omega))<|zp (Am R (by conv => lhs; whnf))<|?_
 refine zn<|Af (by kernel_rfl)<|zm R R<|zp (Aj R R R (by omega) (by omega))<|za R R<|zn<|?_
 exact Al (k + 1) (by omega) (by omega) (fz ⟨sr, sr, sr, sr, sr, trivial⟩) (gz ⟨R, D9 R (Do hx0 (Ta (.inl c25) c32)), trivial⟩)
 refine zi<|zr<|zm R R<|zm R R<|zp (Ak R R R Ka hx0)<|zp (Ae (s' := .d (.agg (Val.c x0))) (At R R B8 lb) (by kernel_rfl))<|zp (Aa R R B7)<|?_
 refine XL.step R (Ah (l' := [.d (dI x.furV.site), .d (dI x.furV.num), .d (dI x.furV.kind), .d (dI x0.log), .d (dI x0.dots), .d (.sl 5 (x.furV.heads.map Hd.c)), .d (.sl 5 (x.furV.graces.map Gr.c)), .d (dI x.furV.art), .d (dI x.furV.orn), .d (dI x.furV.dyn), .d (.sl 2 (x.furV.lyr.map Sy.c)), .d (dI x.furV.stem), .d (dI x.furV.beam)]) R R R R Dd R lb (by kernel_rfl))<|zng<|?_
 refine zp (Ar R (by conv => lhs; whnf))<|?_
 refine zp (Ae (s' := .d (.agg [dI x.furV.site, dI x.furV.num, dI x.furV.kind, dI x0.log, dI x0.dots, .sl 5 (x.furV.heads.map Hd.c), .sl 5 (x.furV.graces.map Gr.c), dI x.furV.art, dI x.furV.orn, dI x.furV.dyn, .sl 2 (x.furV.lyr.map Sy.c), dI x.furV.stem, dI x.furV.beam])) (Ad (Ac R R Aw R lb)) (by kernel_rfl))<|?_
 refine XL.step R (A9 44 R Tryz.underlying22 Bw Bs R R (by omega) (by omega))<|XL.step R (Az R Dt (.own R) (Src.own R) (by unfold maxLen; simp; omega) (by simp; omega))<|zp (Am R (by conv => lhs; whnf))<|?_
 refine zn<|Af (by kernel_rfl)<|zm R R<|zp (Aj R R R (by omega) (by omega))<|za R R<|zn<|?_
 exact Al (k + 1) (by omega) (by omega) (fz ⟨sr, sr, sr, sr, sr, trivial⟩) (gz ⟨R, D9 R (Do hx0 (S9 (.inl c25) c32)), trivial⟩)
 refine zi<|zs<|zr<|zm R R<|zp (Aj R R R (by omega) (by omega))<|zm R R<|XL.len R R R Tryz.underlying106 fun hl31=>zp (Aq R R R)<|zn<|?_
 refine zd R (fun c32 => ?_) (fun c32 => ?_)
 refine Af (by kernel_rfl)<|zp (Aa R R Bk)<|zp (Ab R R C9 R R)<|XL.call1 R R (I5 _ (by omega)) R<|zp (Aa R R Bk)<|?_
 refine XL.step R (Ah (l' := [.d (dI x.site), .d (dI x.num), .d (dI x.kind), .d (dI x.v.log), .d (dI x.v.dots), .d (.sl 5 ((x.heads.map Hd.tie).map Hd.c)), .d (.sl 5 (x.graces.map Gr.c)), .d (dI x.art), .d (dI x.orn), .d (dI x.dyn), .d (.sl 2 (x.lyr.map Sy.c)), .d (dI x.stem), .d (dI x.beam)]) R R R R I4 R lb (by kernel_rfl))<|znr<|zm R R<|zm R R<|zp (Ak R R R Ka hx0)<|?_
 refine zp (Ae (s' := .d (.agg (Val.c x0))) (At R R B8 lb) (by kernel_rfl))<|zp (Aa R R B7)<|?_
 refine XL.step R (Ah (l' := [.d (dI x.site), .d (dI x.num), .d (dI x.kind), .d (dI x0.log), .d (dI x0.dots), .d (.sl 5 ((x.heads.map Hd.tie).map Hd.c)), .d (.sl 5 (x.graces.map Gr.c)), .d (dI x.art), .d (dI x.orn), .d (dI x.dyn), .d (.sl 2 (x.lyr.map Sy.c)), .d (dI x.stem), .d (dI x.beam)]) R R R R Dd R lb (by kernel_rfl))<|zng<|zp (Ar R (by conv => lhs; whnf))<|?_
 refine zp (Ae (s' := .d (.agg [dI x.site, dI x.num, dI x.kind, dI x0.log, dI x0.dots, .sl 5 ((x.heads.map Hd.tie).map Hd.c), .sl 5 (x.graces.map Gr.c), dI x.art, dI x.orn, dI x.dyn, .sl 2 (x.lyr.map Sy.c), dI x.stem, dI x.beam])) (Ad (Ac R R Aw R lb)) (by kernel_rfl))<|XL.step R (A9 44 R Tryz.underlying22 Bw Bs R R (by omega) (by omega))<|?_
 refine XL.step R (Az R Dt (.own R) (Src.own R) (by unfold maxLen; simp; omega) (by simp; omega))<|zp (Am R (by conv => lhs; whnf))<|?_
 refine zn<|Af (by kernel_rfl)<|zm R R<|zp (Aj R R R (by omega) (by omega))<|za R R<|zn<|?_
 exact Al (k + 1) (by omega) (by omega) (fz ⟨sr, sr, sr, sr, sr, trivial⟩) (gz ⟨R, D9 R (Do hx0 (X4 c25 R c32)), trivial⟩)
 refine zi<|zr<|zm R R<|zm R R<|zp (Ak R R R Ka hx0)<|zp (Ae (s' := .d (.agg (Val.c x0))) (At R R B8 lb) (by kernel_rfl))<|zp (Aa R R B7)<|?_
 refine XL.step R (Ah (l' := [.d (dI x.site), .d (dI x.num), .d (dI x.kind), .d (dI x0.log), .d (dI x0.dots), .d (.sl 5 (x.heads.map Hd.c)), .d (.sl 5 (x.graces.map Gr.c)), .d (dI x.art), .d (dI x.orn), .d (dI x.dyn), .d (.sl 2 (x.lyr.map Sy.c)), .d (dI x.stem), .d (dI x.beam)]) R R R R Dd R lb (by kernel_rfl))<|zng<|zp (Ar R (by conv => lhs; whnf))<|?_
 refine zp (Ae (s' := .d (.agg [dI x.site, dI x.num, dI x.kind, dI x0.log, dI x0.dots, .sl 5 (x.heads.map Hd.c), .sl 5 (x.graces.map Gr.c), dI x.art, dI x.orn, dI x.dyn, .sl 2 (x.lyr.map Sy.c), dI x.stem, dI x.beam])) (Ad (Ac R R Aw R lb)) (by kernel_rfl))<|XL.step R (A9 44 R Tryz.underlying22 Bw Bs R R (by omega) (by omega))<|?_
 refine XL.step R (Az R Dt (.own R) (Src.own R) (by unfold maxLen; simp; omega) (by simp; omega))<|zp (Am R (by conv => lhs; whnf))<|?_
 refine zn<|Af (by kernel_rfl)<|zm R R<|zp (Aj R R R (by omega) (by omega))<|za R R<|zn<|?_
 exact Al (k + 1) (by omega) (by omega) (fz ⟨sr, sr, sr, sr, sr, trivial⟩) (gz ⟨R, D9 R (Do hx0 (X3 c25 R c32)), trivial⟩)
 have hk0b : k = (m.split a b).length := by omega
 have ht : Fc x (m.split a b) false k = Bi x (m.split a b) false := by rw [Fc, hk0b, List.take_length]; rfl
 refine Ap<|zr<|zp (Ar R (by conv => lhs; whnf))<|?_
 refine zp (Am R (by conv => lhs; whnf))<|?_
 exact zn<|zt<|Ba (i := 900) R<|z1 R R (rSl ht)
def evV (l : List Ev) : Vo := ⟨l, []⟩
theorem Ahd (m : Me) (a b : Int) : (m.err ≠ 0 → m.splitE a b = m.err) ∧ (m.err = 0 → (a < 0 ∨ b < a ∨ 4398046511104 < b) → m.splitE a b = 2) ∧ (m.err = 0 → ¬ (a < 0 ∨ b < a ∨ 4398046511104 < b) → (a % 7560 ≠ 0 ∨ b % 7560 ≠ 0) → m.splitE a b = 16) ∧ (m.err = 0 → ¬ (a < 0 ∨ b < a ∨ 4398046511104 < b) → ¬ (a % 7560 ≠ 0 ∨ b % 7560 ≠ 0) → 15482880 < b - a → m.splitE a b = 5) ∧ (m.err = 0 → ¬ (a < 0 ∨ b < a ∨ 4398046511104 < b) → ¬ (a % 7560 ≠ 0 ∨ b % 7560 ≠ 0) → ¬ 15482880 < b - a → m.splitE a b = 0) :=
 ⟨fun h => (Oa h).1, fun h h2 => (N9 (fun k => k h) h2).1, fun h h2 h3 => (N8 (fun k => k h) h2 h3).1, fun h h2 h3 h4 => (N7 (fun k => k h) h2 h3 h4).1, fun h h2 h3 h4 => (N6 (fun k => k h) h2 h3 h4).1⟩
end Go.Proofs.YtcihalbakenleaaGreat
namespace Go.Proofs.YtcihalbakenleaaGreat
open Go.RowKit
def Ox (l : List Tp) (n : Int) : Bool := l.any fun t => decide (t.has n)
theorem Yc {l : List Tp} {k : Nat} {t : Tp} {n : Int} (h : l[k]? = some t) (ht : t.has n) : true = Ox l n := by
 symm; rw [Ox, List.any_eq_true]; exact ⟨t, List.mem_of_getElem? h, by simpa using ht⟩
theorem Ane {l : List Tp} {n : Int} (h : ∀ t ∈ l, ¬ t.has n) : false = Ox l n := by
 symm; rw [Ox, List.any_eq_false]; exact fun t ht => by simpa using h t ht
theorem Ain {l : List Tp} {n : Int} : Ox l n = true ↔ hits l n ≠ 0 := by
 rw [Ox, List.any_eq_true, hits, ← List.countP_eq_length_filter, ← Nat.pos_iff_ne_zero, List.countP_pos_iff]
def H5 (a c : Int) (t : Tp) : Tp := if a ≤ t.first then ⟨t.first + c, t.count, t.actual, t.normal⟩ else if t.has a then ⟨t.first, t.count + c, t.actual, t.normal⟩ else t
theorem Aim {a c : Int} {t : Tp} (h : a ≤ t.first) : H5 a c t = ⟨t.first + c, t.count, t.actual, t.normal⟩ := by rw [H5, if_pos h]
theorem Ao9 {a c : Int} {t : Tp} (h : ¬ a ≤ t.first) (h2 : t.has a) : H5 a c t = ⟨t.first, t.count + c, t.actual, t.normal⟩ := by rw [H5, if_neg h, if_pos h2]
theorem Ail {a c : Int} {t : Tp} (h : ¬ a ≤ t.first) (h2 : ¬ t.has a) : H5 a c t = t := by rw [H5, if_neg h, if_neg h2]
theorem Pz {a c : Int} {l : List Tp} {k : Nat} {t u : Tp} (h : l[k]? = some t) (hu : H5 a c t = u) : (l.take (k + 1)).map (H5 a c) = (l.take k).map (H5 a c) ++ [u] := by
 rw [Bf h, List.map_append, ← hu]; rfl
theorem Amo (l : List Tp) (n : Int) (hl : ∀ t ∈ l, t.ok) : XC Tryz.prog 50 [.sl 4 (l.map Tp.c), .v (.int .i64 n)] (fun r => r = dB (Ox l n)) := by
 refine An Ac5 Tryz.func50 R R lb<|zr<|za R R<|zn<|zs<|zr<|za R R<|zn<|Ag<|?_
 refine Au (α := Nat) (fun k => k ≤ l.length ∧ ∀ t ∈ l.take k, ¬ t.has n) (fun k => mkF [(0, .d (.sl 4 (l.map Tp.c))), (1, .d (dI n)), (5, .d (dI k))]) (fun k => mkH []) (fun k => l.length - k) (0) (⟨Nat.zero_le _, fun t ht => (by cases ht)⟩) ?_ ?_ ?_
 exact fz ⟨sr, sr, sr, trivial⟩
 exact HSub.nil
 intro k hk0
 obtain ⟨hk, hall⟩ := hk0
 refine zs<|zr<|zm R R<|zm R R<|XL.len R R R Tryz.underlying23 fun hl8=>zp (Aq R R R)<|zn<|?_
 refine zd R (fun c9 => ?_) (fun c9 => ?_)
 have hk0a : k < l.length := by omega
 obtain ⟨x0, hx0⟩ := Av hk0a
 have hok := hl x0 (List.mem_of_getElem? hx0)
 simp only [Tp.ok] at hok
 refine zi<|zs<|Ag<|zs<|?_
 by_cases q18 : (x0.first : Int) ≤ (n : Int)
 refine Bc [] (by kernel_rfl) (by kernel_rfl) (by kernel_rfl) (by decide)<|ym R R<|ym R R<|ym R R<|yp (Ak R R R Ey hx0)<|yp (Bg R R Da)<|yp (Ax R R Ai)<|yp (Di (D6 R R R) (q18))<|ym R R<|ym R R<|ym R R<|ym R R<|yp (Ak R R R Ey hx0)<|yp (Bg R R Da)<|?_
 refine yp (Ax R R Ai)<|ym R R<|ym R R<|yp (Ak R R R Ey hx0)<|yp (Bg R R F5)<|yp (Ax R R Ai)<|yp (Aj R R R (by omega) (by omega))<|yp (Aq R R R)<|yp (A6 R R (by conv => lhs; whnf))<|?_
 refine ChK.nil ⟨by kernel_rfl, ?_⟩
 refine zd R (fun c33 => ?_) (fun c33 => ?_)
 exact zr<|za R R<|zn<|zt<|z1 R R (rB (Yc hx0 (by unfold Tp.has; omega)))
 refine zi<|Af (by kernel_rfl)<|zm R R<|zp (Aj R R R (by omega) (by omega))<|za R R<|zn<|?_
 exact Al (k + 1) (⟨by omega, fun t ht => by rw [Bf hx0] at ht; rcases List.mem_append.1 ht with q | q; (· exact hall t q); (· rw [List.mem_singleton.1 q]; unfold Tp.has; omega)⟩) (by omega) (fz ⟨sr, sr, sr, trivial⟩) (HSub.nil)
 refine Bc [] (by kernel_rfl) (by kernel_rfl) (by kernel_rfl) (by decide)<|ym R R<|ym R R<|ym R R<|yp (Ak R R R Ey hx0)<|yp (Bg R R Da)<|yp (Ax R R Ai)<|yp (F9 (D6 R R R) (q18))<|ym R R<|ChK.skip R<|ChK.skip R<|ChK.skip R<|ChK.skip R<|ChK.skip R<|?_
 refine ChK.skip R<|ChK.skip R<|ChK.skip R<|ChK.skip R<|ChK.skip R<|ChK.skip R<|ChK.skip R<|ChK.skip R<|yp (A6 R R (by conv => lhs; whnf))<|?_
 refine ChK.nil ⟨by kernel_rfl, ?_⟩
 refine A3 (by kernel_rfl) R<|zi<|Af (by kernel_rfl)<|zm R R<|zp (Aj R R R (by omega) (by omega))<|za R R<|zn<|?_
 exact Al (k + 1) (⟨by omega, fun t ht => by rw [Bf hx0] at ht; rcases List.mem_append.1 ht with q | q; (· exact hall t q); (· rw [List.mem_singleton.1 q]; unfold Tp.has; omega)⟩) (by omega) (fz ⟨sr, sr, sr, trivial⟩) (HSub.nil)
 have hk0b : k = l.length := by omega
 have ht : l.take k = l := by rw [hk0b, List.take_length]
 rw [ht] at hall
 exact Ap<|zr<|za R R<|zn<|zt<|z1 R R (rB (Ane hall))
theorem Xn (l : List Tp) (h : l.length ≤ 1000) : XC Tryz.prog 53 [.sl 4 (l.map Tp.c)] (fun r => r = .sl 4 (l.map Tp.c)) := by
 refine An Ac2 Tryz.func53 R R lb<|zr<|za R R<|znr<|za R R<|zn<|zs<|zr<|za R R<|zn<|Ag<|C0 900 3 102 4 R<|?_
 refine Au (α := Nat) (fun k => k ≤ l.length) (fun k => mkF [(0, .d (.sl 4 (l.map Tp.c))), (2, .d (.v (.slice none 0 0))), (3, .own 900), (4, .d (dI k))]) (fun k => mkH [(900, .row 102 4 ((l.take k).map Tp.c))]) (fun k => l.length - k) (0) (Nat.zero_le _) ?_ ?_ ?_
 exact fz ⟨sr, sr, sr, sr, trivial⟩
 exact gz ⟨R, trivial⟩
 intro k hk0
 refine zs<|zr<|zm R R<|zm R R<|XL.len R R R Tryz.underlying98 fun hl7=>zp (Aq R R R)<|zn<|?_
 refine zd R (fun c8 => ?_) (fun c8 => ?_)
 have hk0a : k < l.length := by omega
 obtain ⟨x0, hx0⟩ := Av hk0a
 have htl : (l.take k).length = k := by rw [List.length_take]; omega
 refine zi<|zs<|Ag<|Cu 23 [] (by kernel_rfl) (by kernel_rfl) (by kernel_rfl) (by kernel_rfl) (by decide)<|yp (Ar R (by conv => lhs; whnf))<|?_
 refine ym R R<|ym R R<|yp (Ak R R R Hi hx0)<|yp (Bg R R D3)<|yp (Ax R R Ai)<|ym R R<|ym R R<|yp (Ak R R R Hi hx0)<|yp (Bg R R F4)<|yp (Ax R R Ai)<|ym R R<|ym R R<|yp (Ak R R R Hi hx0)<|yp (Bg R R J0)<|?_
 refine yp (Ax R R Ai)<|ym R R<|ym R R<|yp (Ak R R R Hi hx0)<|yp (Bg R R K8)<|yp (Ax R R Ai)<|yp (Ae (s' := .d (.agg [dI x0.first, dI x0.count, dI x0.actual, dI x0.normal])) (Ad (Bo R Amj Ei R)) (by kernel_rfl))<|ChK.cons R (CStep.slice R Tryz.underlying23 Gq Ei R R (by omega) (by omega))<|?_
 refine ChK.nil ⟨by kernel_rfl, ?_⟩
 refine XL.step R (Az R G6 (.own R) (Src.sl (by omega)) (by unfold maxLen; simp; omega) (by simp; omega))<|zp (Am R (by conv => lhs; whnf))<|?_
 refine zn<|Af (by kernel_rfl)<|zm R R<|zp (Aj R R R (by omega) (by omega))<|za R R<|zn<|?_
 exact Al (k + 1) (by omega) (by omega) (fz ⟨sr, sr, sr, sr, trivial⟩) (gz ⟨D9 R (Bf hx0), trivial⟩)
 have hk0b : k = l.length := by omega
 have ht : l.take k = l := by rw [hk0b, List.take_length]
 refine Ap<|zr<|zp (Ar R (by conv => lhs; whnf))<|?_
 refine zp (Am R (by conv => lhs; whnf))<|?_
 exact zn<|zt<|Ba (i := 900) R<|z1 R R (rSl (by rw [ht]))
theorem S1 (l : List Tp) (a c : Int) (hl : ∀ t ∈ l, t.ok) (h : l.length ≤ 1000) (hc : -1 ≤ c ∧ c ≤ 100000) : XC Tryz.prog 54 [.sl 4 (l.map Tp.c), .v (.int .i64 a), .v (.int .i64 c)] (fun r => r = .sl 4 ((l.map (H5 a c)).map Tp.c)) := by
 refine An Ac1 Tryz.func54 R R lb<|zr<|za R R<|znr<|za R R<|zn<|zs<|zr<|za R R<|zn<|Ag<|C0 900 7 135 4 R<|?_
 refine Au (α := Nat) (fun k => k ≤ l.length) (fun k => mkF [(0, .d (.sl 4 (l.map Tp.c))), (1, .d (dI a)), (2, .d (dI c)), (6, .d (.v (.slice none 0 0))), (7, .own 900), (8, .d (dI k))]) (fun k => mkH [(900, .row 135 4 (((l.take k).map (H5 a c)).map Tp.c))]) (fun k => l.length - k) (0) (Nat.zero_le _) ?_ ?_ ?_
 exact fz ⟨sr, sr, sr, sr, sr, sr, trivial⟩
 exact gz ⟨R, trivial⟩
 intro k hk0
 refine zs<|zr<|zm R R<|zm R R<|XL.len R R R Tryz.underlying98 fun hl12=>zp (Aq R R R)<|zn<|?_
 refine zd R (fun c13 => ?_) (fun c13 => ?_)
 have hk0a : k < l.length := by omega
 obtain ⟨x0, hx0⟩ := Av hk0a
 have htl : ((l.take k).map (H5 a c)).length = k := by rw [List.length_map, List.length_take]; omega
 have hok := hl x0 (List.mem_of_getElem? hx0)
 have hok2 := hok
 simp only [Tp.ok] at hok2
 refine zi<|zs<|Ag<|zr<|zm R R<|zm R R<|zp (Ak R R R Hi hx0)<|zp (Ae (s' := .d (.agg (Tp.c x0))) (At R R Eq lb) (by kernel_rfl))<|XL.step R (A7 9 (l := [.d (dI 0), .d (dI 0), .d (dI 0), .d (dI 0)]) R Ji (by kernel_rfl))<|?_
 refine XL.step R (Ah (l' := [.d (dI x0.first), .d (dI x0.count), .d (dI x0.actual), .d (dI x0.normal)]) R R R R Nq R lb (by kernel_rfl))<|zn<|zs<|zr<|zp (Aa R R D3)<|zp (Ab R R Ai R R)<|zm R R<|zp (D6 R R R)<|zn<|?_
 refine zd R (fun c23 => ?_) (fun c23 => ?_)
 refine Af (by kernel_rfl)<|zp (Aa R R D3)<|zp (Ab R R Ai R R)<|zm R R<|zp (Aj R R R (by omega) (by omega))<|zp (Aa R R D3)<|XL.step R (Ah (l' := [.d (dI (x0.first + c)), .d (dI x0.count), .d (dI x0.actual), .d (dI x0.normal)]) R R R R C2 R lb (by kernel_rfl))<|zng<|zp (Ar R (by conv => lhs; whnf))<|?_
 refine zp (Ae (s' := .d (.agg [dI (x0.first + c), dI x0.count, dI x0.actual, dI x0.normal])) (Ad (Ac R R Eq R lb)) (by kernel_rfl))<|XL.step R (A9 39 R Tryz.underlying98 Nq Ji R R (by omega) (by omega))<|XL.step R (Az R Tr (.own R) (Src.own R) (by unfold maxLen; simp; omega) (by simp; omega))<|zp (Am R (by conv => lhs; whnf))<|?_
 refine zn<|Af (by kernel_rfl)<|zm R R<|zp (Aj R R R (by omega) (by omega))<|za R R<|zn<|?_
 exact Al (k + 1) (by omega) (by omega) (fz ⟨sr, sr, sr, sr, sr, sr, trivial⟩) (gz ⟨D9 R (Pz hx0 (Aim (by omega))), trivial⟩)
 refine zr<|zp (Ae (s' := .d (.agg (Tp.c x0))) (Ad (Ac R R Eq R lb)) (by kernel_rfl))<|zm R R<|XL.call1 R R (Mg _ _ (by assumption)) R<|zn<|?_
 refine zd R (fun c31 => ?_) (fun c31 => ?_)
 refine Af (by kernel_rfl)<|zp (Aa R R F4)<|zp (Ab R R Ai R R)<|zm R R<|zp (Aj R R R (by omega) (by omega))<|zp (Aa R R F4)<|XL.step R (Ah (l' := [.d (dI x0.first), .d (dI (x0.count + c)), .d (dI x0.actual), .d (dI x0.normal)]) R R R R C2 R lb (by kernel_rfl))<|zng<|zp (Ar R (by conv => lhs; whnf))<|?_
 refine zp (Ae (s' := .d (.agg [dI x0.first, dI (x0.count + c), dI x0.actual, dI x0.normal])) (Ad (Ac R R Eq R lb)) (by kernel_rfl))<|XL.step R (A9 39 R Tryz.underlying98 Nq Ji R R (by omega) (by omega))<|XL.step R (Az R Tr (.own R) (Src.own R) (by unfold maxLen; simp; omega) (by simp; omega))<|zp (Am R (by conv => lhs; whnf))<|?_
 refine zn<|Af (by kernel_rfl)<|zm R R<|zp (Aj R R R (by omega) (by omega))<|za R R<|zn<|?_
 exact Al (k + 1) (by omega) (by omega) (fz ⟨sr, sr, sr, sr, sr, sr, trivial⟩) (gz ⟨D9 R (Pz hx0 (Ao9 (by omega) c31)), trivial⟩)
 refine zi<|Af (by kernel_rfl)<|zp (Ar R (by conv => lhs; whnf))<|?_
 refine zp (Ae (s' := .d (.agg (Tp.c x0))) (Ad (Ac R R Eq R lb)) (by kernel_rfl))<|XL.step R (A9 39 R Tryz.underlying98 Nq Ji R R (by omega) (by omega))<|XL.step R (Az R Tr (.own R) (Src.own R) (by unfold maxLen; simp; omega) (by simp; omega))<|zp (Am R (by conv => lhs; whnf))<|?_
 refine zn<|Af (by kernel_rfl)<|zm R R<|zp (Aj R R R (by omega) (by omega))<|za R R<|zn<|?_
 exact Al (k + 1) (by omega) (by omega) (fz ⟨sr, sr, sr, sr, sr, sr, trivial⟩) (gz ⟨D9 R (Pz hx0 (Ail (by omega) c31)), trivial⟩)
 have hk0b : k = l.length := by omega
 have ht : l.take k = l := by rw [hk0b, List.take_length]
 refine Ap<|zr<|zp (Ar R (by conv => lhs; whnf))<|?_
 refine zp (Am R (by conv => lhs; whnf))<|?_
 exact zn<|zt<|Ba (i := 900) R<|z1 R R (rSl (by rw [ht]))
theorem Uz (x : Ev) (m : Me) (a b : Int) (h : x.fit) (hs : m.splitE a b = 0) : XS Tryz.prog 37 [.agg (Ev.c x), .agg (Me.c m), .v (.int .i64 a), .v (.int .i64 b)] (.own 900) [(900, .row 60 13 ((Bi x (m.split a b) false).map Ev.c))] := by
 have hf1 := h.1
 have hsl := Io m a b
 refine I2 Rj Tryz.func37 R R lb (by kernel_rfl) (by kernel_rfl)<|zr<|XL.step R (As 4 (l := [.d (dI x.site), .d (dI x.num), .d (dI x.kind), .d (dI x.v.log), .d (dI x.v.dots), .d (.sl 5 (x.heads.map Hd.c)), .d (.sl 5 (x.graces.map Gr.c)), .d (dI x.art), .d (dI x.orn), .d (dI x.dyn), .d (.sl 2 (x.lyr.map Sy.c)), .d (dI x.stem), .d (dI x.beam)]) R R (by kernel_rfl))<|?_
 refine XL.step R (As 5 (l := [.d (dI m.count), .d (dI m.unit), .d (dI m.g0), .d (dI m.g1), .d (dI m.g2), .d (dI m.g3), .d (dI m.g4), .d (dI m.g5)]) R R (by kernel_rfl))<|za R R<|znr<|zp (Ae (s' := .d (.agg (Me.c m))) (Ad (Ac R R Bb R lb)) (by kernel_rfl))<|zm R R<|zm R R<|XL.callS R R ((Q5 _ _ _ (by assumption)).lab 7001) R<|zp (Am R (by conv => lhs; whnf))<|?_
 refine znr<|XL.freeze (i := 7001) R<|za R R<|zn<|zs<|zr<|za R R<|zn<|Ag<|C0 900 10 60 13 R<|?_
 refine Au (α := Nat) (fun k => k ≤ (m.split a b).length) (fun k => mkF [(4, .ptr 4 0 0), (8, .d (.v (.slice none 0 0))), (9, .d (.sl 2 ((m.split a b).map Val.c))), (10, .own 900), (11, .d (dI k))]) (fun k => mkH [(4, .box ((Ev.c x).map S.d)), (900, .row 60 13 ((Fc x (m.split a b) false k).map Ev.c))]) (fun k => (m.split a b).length - k) (0) (Nat.zero_le _) ?_ ?_ ?_
 exact fz ⟨sr, sr, sr, sr, sr, trivial⟩
 exact gz ⟨R, R, trivial⟩
 intro k hk0
 refine zs<|zr<|zm R R<|zm R R<|XL.len R R R Tryz.underlying106 fun hl19=>zp (Aq R R R)<|zn<|?_
 refine zd R (fun c20 => ?_) (fun c20 => ?_)
 have hk0a : k < (m.split a b).length := by omega
 obtain ⟨x0, hx0⟩ := Av hk0a
 have hnl : (Fc x (m.split a b) false k).length = k := by rw [Fc, List.length_mapIdx, List.length_take]; omega
 have hpl : (x.heads.map Hd.plain).length ≤ 1000 := by rw [List.length_map]; exact hf1
 have hpl2 : x.furV.heads.length ≤ 1000 := hpl
 refine zi<|zs<|Ag<|zr<|zp (Ae (s' := .d (.agg (Ev.c x))) (Ad (Ac R R Aw R lb)) (by kernel_rfl))<|XL.step R (A7 12 (l := [.d (dI 0), .d (dI 0), .d (dI 0), .d (dI 0), .d (dI 0), .d (.v (.slice none 0 0)), .d (.v (.slice none 0 0)), .d (dI 0), .d (dI 0), .d (dI 0), .d (.v (.slice none 0 0)), .d (dI 0), .d (dI 0)]) R Bs (by kernel_rfl))<|?_
 refine XL.step R (Ah (l' := [.d (dI x.site), .d (dI x.num), .d (dI x.kind), .d (dI x.v.log), .d (dI x.v.dots), .d (.sl 5 (x.heads.map Hd.c)), .d (.sl 5 (x.graces.map Gr.c)), .d (dI x.art), .d (dI x.orn), .d (dI x.dyn), .d (.sl 2 (x.lyr.map Sy.c)), .d (dI x.stem), .d (dI x.beam)]) R R R R Bw R lb (by kernel_rfl))<|zn<|zs<|zr<|zm R R<|zp (A5 R R R)<|zn<|?_
 refine zd R (fun c25 => ?_) (fun c25 => ?_)
 refine Af (by kernel_rfl)<|zp (Ae (s' := .d (.agg (Ev.c x))) (Ad (Ac R R Aw R lb)) (by kernel_rfl))<|XL.call1 R R (Mz _ (by assumption)) R<|?_
 refine XL.step R (Ah (l' := [.d (dI x.furV.site), .d (dI x.furV.num), .d (dI x.furV.kind), .d (dI x.furV.v.log), .d (dI x.furV.v.dots), .d (.sl 5 (x.furV.heads.map Hd.c)), .d (.sl 5 (x.furV.graces.map Gr.c)), .d (dI x.furV.art), .d (dI x.furV.orn), .d (dI x.furV.dyn), .d (.sl 2 (x.furV.lyr.map Sy.c)), .d (dI x.furV.stem), .d (dI x.furV.beam)]) R R R R Bw R lb (by kernel_rfl))<|zn<|zs<|zr<|?_
 refine zm R R<|zp (Aj R R R (by omega) (by omega))<|zm R R<|XL.len R R R Tryz.underlying106 fun hl31=>zp (Aq R R R)<|zn<|?_
 refine zd R (fun c32 => ?_) (fun c32 => ?_)
 refine Af (by kernel_rfl)<|zp (Aa R R Bk)<|zp (Ab R R C9 R R)<|XL.call1 R R (I5 _ (by omega)) R<|zp (Aa R R Bk)<|?_
 refine XL.step R (Ah (l' := [.d (dI x.furV.site), .d (dI x.furV.num), .d (dI x.furV.kind), .d (dI x.furV.v.log), .d (dI x.furV.v.dots), .d (.sl 5 ((x.furV.heads.map Hd.tie).map Hd.c)), .d (.sl 5 (x.furV.graces.map Gr.c)), .d (dI x.furV.art), .d (dI x.furV.orn), .d (dI x.furV.dyn), .d (.sl 2 (x.furV.lyr.map Sy.c)), .d (dI x.furV.stem), .d (dI x.furV.beam)]) R R R R I4 R lb (by kernel_rfl))<|?_
 refine znr<|zm R R<|zm R R<|zp (Ak R R R Ka hx0)<|zp (Ae (s' := .d (.agg (Val.c x0))) (At R R B8 lb) (by kernel_rfl))<|zp (Aa R R B7)<|?_
 refine XL.step R (Ah (l' := [.d (dI x.furV.site), .d (dI x.furV.num), .d (dI x.furV.kind), .d (dI x0.log), .d (dI x0.dots), .d (.sl 5 ((x.furV.heads.map Hd.tie).map Hd.c)), .d (.sl 5 (x.furV.graces.map Gr.c)), .d (dI x.furV.art), .d (dI x.furV.orn), .d (dI x.furV.dyn), .d (.sl 2 (x.furV.lyr.map Sy.c)), .d (dI x.furV.stem), .d (dI x.furV.beam)]) R R R R Dd R lb (by kernel_rfl))<|zng<|?_
 refine zp (Ar R (by conv => lhs; whnf))<|?_
 refine zp (Ae (s' := .d (.agg [dI x.furV.site, dI x.furV.num, dI x.furV.kind, dI x0.log, dI x0.dots, .sl 5 ((x.furV.heads.map Hd.tie).map Hd.c), .sl 5 (x.furV.graces.map Gr.c), dI x.furV.art, dI x.furV.orn, dI x.furV.dyn, .sl 2 (x.furV.lyr.map Sy.c), dI x.furV.stem, dI x.furV.beam])) (Ad (Ac R R Aw R lb)) (by kernel_rfl))<|?_
 refine XL.step R (A9 44 R Tryz.underlying22 Bw Bs R R (by omega) (by omega))<|XL.step R (Az R Dt (.own R) (Src.own R) (by unfold maxLen; simp; omega) (by simp; omega))<|zp (Am R (by conv => lhs; whnf))<|?_
 refine zn<|Af (by kernel_rfl)<|zm R R<|zp (Aj R R R (by omega) (by omega))<|za R R<|zn<|?_
 exact Al (k + 1) (by omega) (by omega) (fz ⟨sr, sr, sr, sr, sr, trivial⟩) (gz ⟨R, D9 R (Do hx0 (Ta (.inl c25) c32)), trivial⟩)
 refine zi<|zr<|zm R R<|zm R R<|zp (Ak R R R Ka hx0)<|zp (Ae (s' := .d (.agg (Val.c x0))) (At R R B8 lb) (by kernel_rfl))<|zp (Aa R R B7)<|?_
 refine XL.step R (Ah (l' := [.d (dI x.furV.site), .d (dI x.furV.num), .d (dI x.furV.kind), .d (dI x0.log), .d (dI x0.dots), .d (.sl 5 (x.furV.heads.map Hd.c)), .d (.sl 5 (x.furV.graces.map Gr.c)), .d (dI x.furV.art), .d (dI x.furV.orn), .d (dI x.furV.dyn), .d (.sl 2 (x.furV.lyr.map Sy.c)), .d (dI x.furV.stem), .d (dI x.furV.beam)]) R R R R Dd R lb (by kernel_rfl))<|zng<|?_
 refine zp (Ar R (by conv => lhs; whnf))<|?_
 refine zp (Ae (s' := .d (.agg [dI x.furV.site, dI x.furV.num, dI x.furV.kind, dI x0.log, dI x0.dots, .sl 5 (x.furV.heads.map Hd.c), .sl 5 (x.furV.graces.map Gr.c), dI x.furV.art, dI x.furV.orn, dI x.furV.dyn, .sl 2 (x.furV.lyr.map Sy.c), dI x.furV.stem, dI x.furV.beam])) (Ad (Ac R R Aw R lb)) (by kernel_rfl))<|?_
 refine XL.step R (A9 44 R Tryz.underlying22 Bw Bs R R (by omega) (by omega))<|XL.step R (Az R Dt (.own R) (Src.own R) (by unfold maxLen; simp; omega) (by simp; omega))<|zp (Am R (by conv => lhs; whnf))<|?_
 refine zn<|Af (by kernel_rfl)<|zm R R<|zp (Aj R R R (by omega) (by omega))<|za R R<|zn<|?_
 exact Al (k + 1) (by omega) (by omega) (fz ⟨sr, sr, sr, sr, sr, trivial⟩) (gz ⟨R, D9 R (Do hx0 (S9 (.inl c25) c32)), trivial⟩)
 refine zi<|zs<|zr<|zm R R<|zp (Aj R R R (by omega) (by omega))<|zm R R<|XL.len R R R Tryz.underlying106 fun hl31=>zp (Aq R R R)<|zn<|?_
 refine zd R (fun c32 => ?_) (fun c32 => ?_)
 refine Af (by kernel_rfl)<|zp (Aa R R Bk)<|zp (Ab R R C9 R R)<|XL.call1 R R (I5 _ (by omega)) R<|zp (Aa R R Bk)<|?_
 refine XL.step R (Ah (l' := [.d (dI x.site), .d (dI x.num), .d (dI x.kind), .d (dI x.v.log), .d (dI x.v.dots), .d (.sl 5 ((x.heads.map Hd.tie).map Hd.c)), .d (.sl 5 (x.graces.map Gr.c)), .d (dI x.art), .d (dI x.orn), .d (dI x.dyn), .d (.sl 2 (x.lyr.map Sy.c)), .d (dI x.stem), .d (dI x.beam)]) R R R R I4 R lb (by kernel_rfl))<|znr<|zm R R<|zm R R<|zp (Ak R R R Ka hx0)<|?_
 refine zp (Ae (s' := .d (.agg (Val.c x0))) (At R R B8 lb) (by kernel_rfl))<|zp (Aa R R B7)<|?_
 refine XL.step R (Ah (l' := [.d (dI x.site), .d (dI x.num), .d (dI x.kind), .d (dI x0.log), .d (dI x0.dots), .d (.sl 5 ((x.heads.map Hd.tie).map Hd.c)), .d (.sl 5 (x.graces.map Gr.c)), .d (dI x.art), .d (dI x.orn), .d (dI x.dyn), .d (.sl 2 (x.lyr.map Sy.c)), .d (dI x.stem), .d (dI x.beam)]) R R R R Dd R lb (by kernel_rfl))<|zng<|zp (Ar R (by conv => lhs; whnf))<|?_
 refine zp (Ae (s' := .d (.agg [dI x.site, dI x.num, dI x.kind, dI x0.log, dI x0.dots, .sl 5 ((x.heads.map Hd.tie).map Hd.c), .sl 5 (x.graces.map Gr.c), dI x.art, dI x.orn, dI x.dyn, .sl 2 (x.lyr.map Sy.c), dI x.stem, dI x.beam])) (Ad (Ac R R Aw R lb)) (by kernel_rfl))<|XL.step R (A9 44 R Tryz.underlying22 Bw Bs R R (by omega) (by omega))<|?_
 refine XL.step R (Az R Dt (.own R) (Src.own R) (by unfold maxLen; simp; omega) (by simp; omega))<|zp (Am R (by conv => lhs; whnf))<|?_
 refine zn<|Af (by kernel_rfl)<|zm R R<|zp (Aj R R R (by omega) (by omega))<|za R R<|zn<|?_
 exact Al (k + 1) (by omega) (by omega) (fz ⟨sr, sr, sr, sr, sr, trivial⟩) (gz ⟨R, D9 R (Do hx0 (X4 c25 R c32)), trivial⟩)
 refine zi<|zr<|zm R R<|zm R R<|zp (Ak R R R Ka hx0)<|zp (Ae (s' := .d (.agg (Val.c x0))) (At R R B8 lb) (by kernel_rfl))<|zp (Aa R R B7)<|?_
 refine XL.step R (Ah (l' := [.d (dI x.site), .d (dI x.num), .d (dI x.kind), .d (dI x0.log), .d (dI x0.dots), .d (.sl 5 (x.heads.map Hd.c)), .d (.sl 5 (x.graces.map Gr.c)), .d (dI x.art), .d (dI x.orn), .d (dI x.dyn), .d (.sl 2 (x.lyr.map Sy.c)), .d (dI x.stem), .d (dI x.beam)]) R R R R Dd R lb (by kernel_rfl))<|zng<|zp (Ar R (by conv => lhs; whnf))<|?_
 refine zp (Ae (s' := .d (.agg [dI x.site, dI x.num, dI x.kind, dI x0.log, dI x0.dots, .sl 5 (x.heads.map Hd.c), .sl 5 (x.graces.map Gr.c), dI x.art, dI x.orn, dI x.dyn, .sl 2 (x.lyr.map Sy.c), dI x.stem, dI x.beam])) (Ad (Ac R R Aw R lb)) (by kernel_rfl))<|XL.step R (A9 44 R Tryz.underlying22 Bw Bs R R (by omega) (by omega))<|?_
 refine XL.step R (Az R Dt (.own R) (Src.own R) (by unfold maxLen; simp; omega) (by simp; omega))<|zp (Am R (by conv => lhs; whnf))<|?_
 refine zn<|Af (by kernel_rfl)<|zm R R<|zp (Aj R R R (by omega) (by omega))<|za R R<|zn<|?_
 exact Al (k + 1) (by omega) (by omega) (fz ⟨sr, sr, sr, sr, sr, trivial⟩) (gz ⟨R, D9 R (Do hx0 (X3 c25 R c32)), trivial⟩)
 have hk0b : k = (m.split a b).length := by omega
 have ht : Fc x (m.split a b) false k = Bi x (m.split a b) false := by rw [Fc, hk0b, List.take_length]; rfl
 refine Ap<|zr<|zp (Ar R (by conv => lhs; whnf))<|?_
 refine zp (Am R (by conv => lhs; whnf))<|?_
 refine zn<|zt<|?_
 exact ⟨D1 R (RVS.tmp R R), HSub.cons (by rw [ht]; rfl) (HSub.nil)⟩
theorem Aol {v : Vo} {L t a : Int} {k : Nat} (h : ckE v L = 0) (hat : atS (ckL v L) t (ckL v L).length = ((k : Int), a)) : XC Tryz.prog 24 [.agg (Vo.c v), dI L, dI t] (fun r => r = .tup [dI k, dI a]) := by
 have := Aok v L t h
 rw [hat] at this
 exact this
theorem Amw {v : Vo} {L : Int} (h : ckE v L = 0) : XC Tryz.prog 32 [.agg (Vo.c v), dI L] (fun r => r = .sl 1 (Bu (ckL v L))) := by
 obtain ⟨h1, h2, h3⟩ := Uf h
 have := Ld v L h2 h3
 rw [h1] at this
 exact this
theorem Apw {v : Vo} {L t a : Int} {k : Nat} (h : ckE v L = 0) (hne : v.evs.length ≠ 0) (h0 : 0 ≤ t) (h1 : t < L) (hat : atS (ckL v L) t (ckL v L).length = ((k : Int), a)) : ∃ w, (ckL v L)[k]? = some w ∧ a ≤ t ∧ t < a + w ∧ a + w ≤ L := by
 have hne2 : v.evs ≠ [] := fun k => hne (by rw [k]; rfl)
 obtain ⟨j, w, hw, k1, k2⟩ := Ahe h0 (by rw [Ai4 h hne2]; exact h1)
 have hp := Aew h
 have hjl := (List.getElem?_eq_some_iff.1 hw).1
 have hj := Agw hp (t := t) (j := j + 1) (by omega) (fun i hi => by have := N3 hp (j := i) (k := j) (by omega); omega) (.inr (by rw [Bf hw, Il]; omega)) (ckL v L).length (by omega) (Nat.le_refl _)
 rw [hj] at hat
 have e1 : ((j : Nat) : Int) = k := congrArg Prod.fst hat
 have e2 : tot ((ckL v L).take j) = a := congrArg Prod.snd hat
 have e3 : j = k := by omega
 subst e3
 have hm := N3 hp (j := j + 1) (k := (ckL v L).length) (by omega)
 rw [Bf hw, Il, List.take_length, Ai4 h hne2] at hm
 exact ⟨w, hw, by omega, by omega, by omega⟩
theorem Anu {v : Vo} {L : Int} (h : ckE v L = 0) (h0 : v.evs.length = 0) : v.tups = [] := by
 obtain ⟨ws, ls, hT⟩ := Qz h
 by_cases c : v.rest
 ·exact absurd c.2 (by omega)
 ·have hv := ((Ky c).1 ⟨h, rfl⟩).2.2.1
  cases ht : v.tups with
  | nil => rfl
  | cons t l =>
   have := hv.tl.tv.inR t (by rw [ht]; exact List.mem_cons_self)
   have h2 : (wrS v.evs).length = v.evs.length := H9 _
   unfold Tp.inR at this
   omega
theorem Aeu {v : Vo} {L : Int} (h : ckE v L = 0) : ∀ t ∈ v.tups, t.ok := by
 obtain ⟨ws, ls, hT⟩ := Qz h
 exact fun t ht => (hT.tv.inR t ht).ok (by have := hT.wl; omega)
theorem Yy {v : Vo} {L : Int} (h : ckE v L = 0) (k : Int) : Ox v.tups k = true ↔ 0 < F6 v.tups k := by
 obtain ⟨ws, ls, hT⟩ := Qz h
 rw [Lp hT, Ain]; omega
theorem Air (x : Ev) (n i : Nat) (v : Val) : Fd x.furV n false i v = Fd x n true i v := by
 have e : x.furV.further = x.further := by
  have hp : (x.heads.map Hd.plain).map Hd.plain = x.heads.map Hd.plain := by rw [List.map_map]; exact List.map_congr_left fun h _ => rfl
  unfold Ev.further Ev.furV
  simp only [hp]
 have e2 : ∀ t, x.furV.put v t = x.further.put v t := fun t => rfl
 unfold Fd
 rw [e, if_pos (show 0 < (i : Int) ∨ true = true from .inr rfl)]
 split
 ·rfl
 ·exact e2 _
theorem Tn (x : Ev) (vs : List Val) : Bi x.furV vs false = Bi x vs true := by
 unfold Bi
 refine List.ext_getElem? fun i => ?_
 rw [List.getElem?_mapIdx, List.getElem?_mapIdx]
 cases vs[i]? with
 | none => rfl
 | some v => exact congrArg some (Air x _ i v)
theorem Yk {x : Ev} (h : x.fit) : x.furV.fit := ⟨by show (x.heads.map Hd.plain).length ≤ 1000; rw [List.length_map]; exact h.1, Nat.zero_le _, Nat.zero_le _⟩
theorem Wh {p : Pl} {t a w : Int} {x : Ev} (h : x.kind = 3) : Bi x.asRest.tiedE (p.m.split (p.off + a) (p.off + t)) false ++ Bi x.asRest.furV (p.m.split (p.off + t) (p.off + (a + w))) false = Dg p t a w x := by rw [Tn, O5 h]
theorem Wi {p : Pl} {t a w : Int} {x : Ev} (h : ¬ x.kind = 3) : Bi x.tiedE (p.m.split (p.off + a) (p.off + t)) false ++ Bi x.furV (p.m.split (p.off + t) (p.off + (a + w))) false = Dg p t a w x := by rw [Tn, O6 h]
theorem Akm {l : List Tp} {k : Nat} {c : Int} (ho : l.Pairwise Tp.bef) (hok : ∀ t ∈ l, t.ok) (hd : ∀ t ∈ l, ¬ t.has k) :
  l.map (H5 ((k : Int) + 1) c) = C8 (fun t => decide (t.first < (k : Int))) 0 l ++ C8 (fun t => decide ((k : Int) + 1 ≤ t.first)) c l := by
 induction l with
 | nil => rfl
 | cons t l ih =>
  have h1 := ih (List.pairwise_cons.1 ho).2 (fun u hu => hok u (List.mem_cons_of_mem _ hu)) (fun u hu => hd u (List.mem_cons_of_mem _ hu))
  have h2 := hd t List.mem_cons_self
  have h3 := hok t List.mem_cons_self
  have h4 := (List.pairwise_cons.1 ho).1
  unfold Tp.has at h2
  unfold Tp.ok at h3
  unfold C8 at h1 ⊢
  by_cases q : t.first < (k : Int)
  ·rw [List.map_cons, h1, List.filter_cons_of_pos (by simpa using q), List.filter_cons_of_neg (by simp; omega), List.map_cons, List.cons_append, Ail (by omega) (by unfold Tp.has; omega)]
   have : Tp.mv 0 t = t := by unfold Tp.mv; rw [Int.add_zero]
   rw [this]
  ·have e : l.filter (fun t => decide (t.first < (k : Int))) = [] := by
    rw [List.filter_eq_nil_iff]
    intro u hu
    have := (h4 u hu).first
    simp; omega
   rw [e] at h1
   rw [List.map_cons, h1, List.filter_cons_of_neg (by simpa using q), List.filter_cons_of_pos (by simp; omega), e, Aim (by omega)]
   rfl
theorem Ajw {v : Vo} {L : Int} {k : Nat} {l : List Ev} (h : ckE v L = 0) (hd : ¬ Ox v.tups k = true) : B0 v k 1 ⟨l, []⟩ = ⟨v.evs.take k ++ l ++ v.evs.drop (k + 1), v.tups.map (H5 ((k : Int) + 1) ((l.length : Int) - 1))⟩ := by
 obtain ⟨ws, ls, hT⟩ := Qz h
 have hd2 : ∀ t ∈ v.tups, ¬ t.has k := fun t ht hh => hd (by obtain ⟨j, hj⟩ := List.getElem?_of_mem ht; exact (Yc hj hh).symm)
 rw [Akm hT.tv.ord (Aeu h) hd2]
 unfold B0
 rw [K6, List.append_nil]; rfl
theorem Wo {m : Me} {a b : Int} (hm : m.err = 0) (h1 : 0 ≤ a) (h2 : a ≤ b) (h3 : b ≤ 30965760) (h4 : b - a ≤ 15482880) : m.splitE a b = if a % 7560 ≠ 0 ∨ b % 7560 ≠ 0 then 16 else 0 := by
 obtain ⟨_, _, hS3, _, hS5⟩ := Ahd m a b
 split
 ·exact hS3 hm (by omega) (by assumption)
 ·exact hS5 hm (by omega) (by assumption) (by omega)
end Go.Proofs.YtcihalbakenleaaGreat
namespace Go.Proofs.YtcihalbakenleaaGreat
open Go.RowKit
theorem Ap6 {v : Vo} {p : Pl} {t : Int} (hc : p.chk v = 0) (h : (v.evs.length : Int) = 0) : Eo v p t = (⟨[], []⟩, 10) := Ak6 (by omega) ⟨by omega, by rw [Anu (Iz hc).2.2 (by omega)]; rfl⟩
theorem Alk {v : Vo} {p : Pl} {t : Int} (hc : p.chk v = 0) (h0 : ¬ (v.evs.length : Int) = 0) (h : t < 0 ∨ p.len < t) : Eo v p t = (⟨[], []⟩, 2) := Ag0 (by omega) (fun k => h0 (by have := k.1; omega)) h
theorem Lk {v : Vo} {p : Pl} {t : Int} (hc : p.chk v = 0) (h0 : ¬ (v.evs.length : Int) = 0) (h : ¬ (t < 0 ∨ p.len < t)) : Eo v p t = Fx v p t := Ak5 (by omega) (fun k => h0 (by have := k.1; omega)) h
theorem Alj {v : Vo} {p : Pl} {t : Int} {k : Nat} {a : Int} (hc : p.chk v = 0) (h0 : ¬ (v.evs.length : Int) = 0) (h : ¬ (t < 0 ∨ p.len < t)) (hat : atS (ckL v p.len) t (ckL v p.len).length = ((k : Int), a)) (h2 : t = p.len ∨ a = t) : Eo v p t = (v, 0) := by
 rw [Lk hc h0 h]
 obtain ⟨hA1, hA2, hA3, hA4⟩ := Ai7 v p.len t
 have hck := (Iz hc).2.2
 by_cases c : t = p.len
 ·unfold Fx
  rw [if_pos (.inl (by rw [hA3 hck (by omega) (by omega)]; decide))]
 ·have he := hA4 hck (by omega) (by omega)
  exact Nc (by rw [Apv he]; exact hat) (.inr (by omega))
theorem Qo {v : Vo} {L : Int} {k k1 : Nat} {l : List Ev} (hck : ckE v L = 0) (hnd : ¬ 0 < F6 v.tups k) (hk1 : k1 = k + 1) : B0 v k 1 ⟨l, []⟩ = ⟨v.evs.take k ++ l ++ v.evs.drop k1, v.tups.map (H5 ((k : Int) + 1) ((l.length : Int) - 1))⟩ := by
 subst hk1; exact Ajw hck fun h => hnd ((Yy hck k).1 h)
theorem Afl {v : Vo} {p : Pl} {t a w : Int} {k : Nat} {x : Ev} (hme : p.m.err = 0) (h0 : 0 ≤ p.off + a) (h1 : a ≤ t) (h2 : t ≤ a + w) (h3 : p.off + (a + w) ≤ 30965760) (h4 : w ≤ 15482880) (hd : ¬ 0 < F6 v.tups k) (h : (p.off + a) % 7560 ≠ 0 ∨ (p.off + t) % 7560 ≠ 0 ∨ (p.off + (a + w)) % 7560 ≠ 0) : Kb v p t k a w x = (⟨[], []⟩, 16) := by
 have e1 := Wo hme h0 (show p.off + a ≤ p.off + t by omega) (by omega) (by omega)
 have e2 := Wo hme (show 0 ≤ p.off + t by omega) (show p.off + t ≤ p.off + (a + w) by omega) h3 (by omega)
 by_cases c : (p.off + a) % 7560 ≠ 0 ∨ (p.off + t) % 7560 ≠ 0
 ·rw [if_pos c] at e1
  rw [Apo hd (by rw [e1]; decide), e1]
 ·rw [if_neg c] at e1
  rw [if_pos (by omega)] at e2
  rw [Apn hd (by omega) (by rw [e2]; decide), e2]
theorem Afg (v : Vo) (p : Pl) (t : Int) (hF : v.fit) (hc : p.chk v = 0) : XC Tryz.prog 17 [.agg (Vo.c v), .agg (Pl.c p), .v (.int .i64 t)] (fun r => r = .tup [.agg (Vo.c (Eo v p t).1), dI (Eo v p t).2]) := by
 obtain ⟨k, hat0, hk0⟩ := Uh (ckL v p.len) t (ckL v p.len).length
 obtain ⟨a, ha⟩ : ∃ a, a = tot ((ckL v p.len).take k) := ⟨_, rfl⟩
 have hat1 := hat0
 rw [← ha] at hat1
 obtain ⟨hme, hpb, hck⟩ := Iz hc
 obtain ⟨hsv, hev⟩ := P7 hck
 have hcl := J2 hck
 have hN := Kk v p.len
 unfold Pl.bad at hpb
 have htok := Aeu hck
 obtain ⟨hA1, hA2, hA3, hA4⟩ := Ai7 v p.len t
 obtain ⟨hlL, hl0, hl1⟩ := Uf hck
 refine An Adl Tryz.func17 R R lb<|zr<|XL.step R (As 3 (l := [.d (.sl 13 (v.evs.map Ev.c)), .d (.sl 4 (v.tups.map Tp.c))]) R R (by kernel_rfl))<|XL.step R (As 4 (l := [.d (dI p.m.count), .d (dI p.m.unit), .d (dI p.m.g0), .d (dI p.m.g1), .d (dI p.m.g2), .d (dI p.m.g3), .d (dI p.m.g4), .d (dI p.m.g5), .d (dI p.off), .d (dI p.len)]) R R (by kernel_rfl))<|?_
 refine XL.step R (A7 6 (l := [.d (.v (.slice none 0 0)), .d (.v (.slice none 0 0))]) R By (by kernel_rfl))<|za R R<|zn<|zs<|zr<|zp (Aa R R A0)<|zp (Ab R R Bq R R)<|XL.len R R R Tryz.underlying22 fun hl17=>zp (Ay R R R)<|zn<|?_
 refine zd R (fun c18 => ?_) (fun c18 => ?_)
 refine zr<|zp (Ae (s' := .d (.agg [.v (.slice none 0 0), .v (.slice none 0 0)])) (Ad (Bo R Dq By R)) (by kernel_rfl))<|XL.step R (Ah (l' := [.d (.v (.slice none 0 0)), .d (.v (.slice none 0 0))]) R R R R Cr R lb (by kernel_rfl))<|za R R<|zn<|zt<|?_
 exact Bj R (RV.sub (RV.cells R R R A8 lb R) (.agg (.cons (.nil 13) (.cons (.nil 4) (.nil))))) (RV.tmp R R) (r2v (Ap6 hc c18))
 refine zi<|zs<|zr<|zm R R<|zp (Aq R R R)<|zm R R<|?_
 refine XL.dec 22 R (fun g22 => ?_) (fun g22 => ?_)
 refine zk 4 R<|zq R R R<|zn<|Ao (by kernel_rfl) R<|zr<|zp (Ae (s' := .d (.agg [.v (.slice none 0 0), .v (.slice none 0 0)])) (Ad (Bo R Dq By R)) (by kernel_rfl))<|XL.step R (Ah (l' := [.d (.v (.slice none 0 0)), .d (.v (.slice none 0 0))]) R R R R Cr R lb (by kernel_rfl))<|za R R<|zn<|zt<|?_
 exact Bj R (RV.sub (RV.cells R R R A8 lb R) (.agg (.cons (.nil 13) (.cons (.nil 4) (.nil))))) (RV.tmp R R) (r2v (Alk hc c18 (by omega)))
 refine zm R R<|zp (Aa R R Kt)<|zp (Ab R R Ai R R)<|zp (A5 R R R)<|zq R R R<|zn<|?_
 refine zd R (fun c27 => ?_) (fun c27 => ?_)
 refine zr<|zp (Ae (s' := .d (.agg [.v (.slice none 0 0), .v (.slice none 0 0)])) (Ad (Bo R Dq By R)) (by kernel_rfl))<|XL.step R (Ah (l' := [.d (.v (.slice none 0 0)), .d (.v (.slice none 0 0))]) R R R R Cr R lb (by kernel_rfl))<|za R R<|zn<|zt<|?_
 exact Bj R (RV.sub (RV.cells R R R A8 lb R) (.agg (.cons (.nil 13) (.cons (.nil 4) (.nil))))) (RV.tmp R R) (r2v (Alk hc c18 (by omega)))
 refine zi<|zr<|zp (Ae (s' := .d (.agg (Vo.c v))) (Ad (Ac R R A8 R lb)) (by kernel_rfl))<|zp (Aa R R Kt)<|zp (Ab R R Ai R R)<|zm R R<|XL.call1 R R (Aol hck hat1) R<|zm R R<|zp (Be R R R)<|zp (Be R R R)<|za R R<|za R R<|zn<|zs<|?_
 refine zr<|zm R R<|zp (Aa R R Kt)<|zp (Ab R R Ai R R)<|zp (Ay R R R)<|zm R R<|?_
 refine XL.dec 41 R (fun g41 => ?_) (fun g41 => ?_)
 refine zk 3 R<|zq R R R<|zn<|Ao (by kernel_rfl) R<|zr<|zp (Ae (s' := .d (.agg (Vo.c v))) (Ad (Ac R R A8 R lb)) (by kernel_rfl))<|XL.step R (Ah (l' := [.d (.sl 13 (v.evs.map Ev.c)), .d (.sl 4 (v.tups.map Tp.c))]) R R R R Cr R lb (by kernel_rfl))<|za R R<|zn<|zt<|?_
 exact Bj R (RV.cells R R R A8 lb R) (RV.tmp R R) (r2v (Alj hc c18 (by omega) hat1 (by omega)))
 refine zm R R<|zm R R<|zp (Ay R R R)<|zq R R R<|zn<|?_
 refine zd R (fun c45 => ?_) (fun c45 => ?_)
 refine zr<|zp (Ae (s' := .d (.agg (Vo.c v))) (Ad (Ac R R A8 R lb)) (by kernel_rfl))<|XL.step R (Ah (l' := [.d (.sl 13 (v.evs.map Ev.c)), .d (.sl 4 (v.tups.map Tp.c))]) R R R R Cr R lb (by kernel_rfl))<|za R R<|zn<|zt<|?_
 exact Bj R (RV.cells R R R A8 lb R) (RV.tmp R R) (r2v (Alj hc c18 (by omega) hat1 (by omega)))
 refine zi<|zs<|?_
 have he0 := hA4 hck (by omega) (by omega)
 have hat : atV v p.len t = ((k : Int), a) := by rw [Apv he0]; exact hat1
 have hne : ¬ (atE v p.len t ≠ 0 ∨ a = t) := by omega
 have hkl : k < (ckL v p.len).length := by omega
 obtain ⟨w, hw, hat3, hat4, hat5⟩ := Apw hck (by omega) (by omega) (by omega) hat1
 obtain ⟨x, hx⟩ : ∃ x, v.evs[k]? = some x := Av (by omega)
 have hwb := hN.bd w (List.mem_of_getElem? hw)
 have hxf : x.fit := hF.ev x (List.mem_of_getElem? hx)
 have hxh := hxf.1
 have hab := hN.take k
 have hab2 := hab.tot
 refine Af (by kernel_rfl)<|zm R R<|zp (Ae (s' := .d (.agg (Vo.c v))) (Ad (Ac R R A8 R lb)) (by kernel_rfl))<|zp (Aa R R Kt)<|zp (Ab R R Ai R R)<|XL.call1 R R (Amw hck) R<|zm R R<|zp (Ak R R R Cy (hw))<|zp (Ax R R Ai)<|zp (Aj R R R (by omega) (by omega))<|za R R<|zn<|zs<|zr<|?_
 refine zp (Aa R R B5)<|zp (Ab R R B3 R R)<|zm R R<|XL.call1 R R (Amo _ _ (by assumption)) R<|zn<|?_
 refine Du (by kernel_rfl) R (fun c59 => ?_) (fun c59 => ?_)
 refine zr<|zp (Ae (s' := .d (.agg [.v (.slice none 0 0), .v (.slice none 0 0)])) (Ad (Bo R Dq By R)) (by kernel_rfl))<|XL.step R (Ah (l' := [.d (.v (.slice none 0 0)), .d (.v (.slice none 0 0))]) R R R R Cr R lb (by kernel_rfl))<|za R R<|zn<|zt<|?_
 exact Bj R (RV.sub (RV.cells R R R A8 lb R) (.agg (.cons (.nil 13) (.cons (.nil 4) (.nil))))) (RV.tmp R R) (r2v ((Lk hc c18 (by omega)).trans ((Fj hat hne hx hw).trans (App ((Yy hck k).1 c59)))))
 have hnd : ¬ 0 < F6 v.tups k := fun h => Aez c59 ((Yy hck k).2 h)
 refine zi<|zs<|zr<|zp (Aa R R Ft)<|zp (Ab R R Ai R R)<|zm R R<|zp (Aj R R R (by omega) (by omega))<|zp (Dx R R R (by omega) (by omega))<|zp (Bh R R R)<|zm R R<|?_
 refine XL.dec 67 R (fun g67 => ?_) (fun g67 => ?_)
 refine zk 6 R<|zq R R R<|zm R R<|zk 6 R<|zq R R R<|zn<|Ao (by kernel_rfl) R<|zr<|zp (Ae (s' := .d (.agg [.v (.slice none 0 0), .v (.slice none 0 0)])) (Ad (Bo R Dq By R)) (by kernel_rfl))<|XL.step R (Ah (l' := [.d (.v (.slice none 0 0)), .d (.v (.slice none 0 0))]) R R R R Cr R lb (by kernel_rfl))<|za R R<|zn<|zt<|?_
 exact Bj R (RV.sub (RV.cells R R R A8 lb R) (.agg (.cons (.nil 13) (.cons (.nil 4) (.nil))))) (RV.tmp R R) (r2v ((Lk hc c18 (by omega)).trans ((Fj hat hne hx hw).trans (Afl hme (by omega) (by omega) (by omega) (by omega) (by omega) hnd (by omega)))))
 refine zp (Aa R R Ft)<|zp (Ab R R Ai R R)<|zm R R<|zp (Aj R R R (by omega) (by omega))<|zp (Dx R R R (by omega) (by omega))<|zp (Bh R R R)<|zq R R R<|zm R R<|?_
 refine XL.dec 75 R (fun g75 => ?_) (fun g75 => ?_)
 refine zk 6 R<|zq R R R<|zn<|Ao (by kernel_rfl) R<|zr<|zp (Ae (s' := .d (.agg [.v (.slice none 0 0), .v (.slice none 0 0)])) (Ad (Bo R Dq By R)) (by kernel_rfl))<|XL.step R (Ah (l' := [.d (.v (.slice none 0 0)), .d (.v (.slice none 0 0))]) R R R R Cr R lb (by kernel_rfl))<|za R R<|zn<|zt<|?_
 exact Bj R (RV.sub (RV.cells R R R A8 lb R) (.agg (.cons (.nil 13) (.cons (.nil 4) (.nil))))) (RV.tmp R R) (r2v ((Lk hc c18 (by omega)).trans ((Fj hat hne hx hw).trans (Afl hme (by omega) (by omega) (by omega) (by omega) (by omega) hnd (by omega)))))
 refine zp (Aa R R Ft)<|zp (Ab R R Ai R R)<|zm R R<|zp (Aj R R R (by omega) (by omega))<|zp (Dx R R R (by omega) (by omega))<|zp (Bh R R R)<|zq R R R<|zn<|?_
 refine zd R (fun c82 => ?_) (fun c82 => ?_)
 refine zr<|zp (Ae (s' := .d (.agg [.v (.slice none 0 0), .v (.slice none 0 0)])) (Ad (Bo R Dq By R)) (by kernel_rfl))<|XL.step R (Ah (l' := [.d (.v (.slice none 0 0)), .d (.v (.slice none 0 0))]) R R R R Cr R lb (by kernel_rfl))<|za R R<|zn<|zt<|?_
 exact Bj R (RV.sub (RV.cells R R R A8 lb R) (.agg (.cons (.nil 13) (.cons (.nil 4) (.nil))))) (RV.tmp R R) (r2v ((Lk hc c18 (by omega)).trans ((Fj hat hne hx hw).trans (Afl hme (by omega) (by omega) (by omega) (by omega) (by omega) hnd (by omega)))))
 refine zi<|zs<|?_
 have hs1 : p.m.splitE (p.off + a) (p.off + t) = 0 := by rw [Wo hme (by omega) (by omega) (by omega) (by omega), if_neg (by omega)]
 have hs2 : p.m.splitE (p.off + t) (p.off + (a + w)) = 0 := by rw [Wo hme (by omega) (by omega) (by omega) (by omega), if_neg (by omega)]
 have hq1 := Io p.m (p.off + a) (p.off + t)
 have hq2 := Io p.m (p.off + t) (p.off + (a + w))
 have hdl : (Dg p t a w x).length = (p.m.split (p.off + a) (p.off + t)).length + (p.m.split (p.off + t) (p.off + (a + w))).length := by rw [Dg, List.length_append, Cn, Cn]
 have htl := hsv.tups
 obtain ⟨k1, hk1⟩ : ∃ k1 : Nat, k1 = k + 1 := ⟨_, rfl⟩
 refine Af (by kernel_rfl)<|zp (Aa R R A0)<|zp (Ab R R Bq R R)<|zm R R<|zp (Ak R R R Ct (hx))<|zp (Ae (s' := .d (.agg (Ev.c x))) (At R R Aw lb) (by kernel_rfl))<|?_
 refine XL.step R (A7 11 (l := [.d (dI 0), .d (dI 0), .d (dI 0), .d (dI 0), .d (dI 0), .d (.v (.slice none 0 0)), .d (.v (.slice none 0 0)), .d (dI 0), .d (dI 0), .d (dI 0), .d (.v (.slice none 0 0)), .d (dI 0), .d (dI 0)]) R Bs (by kernel_rfl))<|?_
 refine XL.step R (Ah (l' := [.d (dI x.site), .d (dI x.num), .d (dI x.kind), .d (dI x.v.log), .d (dI x.v.dots), .d (.sl 5 (x.heads.map Hd.c)), .d (.sl 5 (x.graces.map Gr.c)), .d (dI x.art), .d (dI x.orn), .d (dI x.dyn), .d (.sl 2 (x.lyr.map Sy.c)), .d (dI x.stem), .d (dI x.beam)]) R R R R Bw R lb (by kernel_rfl))<|zn<|zs<|zr<|zp (Aa R R Bv)<|zp (Ab R R Ai R R)<|?_
 refine zp (Ay R R R)<|zn<|?_
 refine zd R (fun c91 => ?_) (fun c91 => ?_)
 refine Af (by kernel_rfl)<|zp (Aa R R Bv)<|XL.step R (Ah (l' := [.d (dI x.site), .d (dI x.num), .d (dI 2), .d (dI x.v.log), .d (dI x.v.dots), .d (.sl 5 (x.heads.map Hd.c)), .d (.sl 5 (x.graces.map Gr.c)), .d (dI x.art), .d (dI x.orn), .d (dI x.dyn), .d (.sl 2 (x.lyr.map Sy.c)), .d (dI x.stem), .d (dI x.beam)]) R R R R C2 R lb (by kernel_rfl))<|znr<|?_
 refine zp (Ae (s' := .d (.agg [dI x.site, dI x.num, dI 2, dI x.v.log, dI x.v.dots, .sl 5 (x.heads.map Hd.c), .sl 5 (x.graces.map Gr.c), dI x.art, dI x.orn, dI x.dyn, .sl 2 (x.lyr.map Sy.c), dI x.stem, dI x.beam])) (Ad (Ac R R Aw R lb)) (by kernel_rfl))<|?_
 refine XL.step R (A7 12 (l := [.d (dI 0), .d (dI 0), .d (dI 0), .d (dI 0), .d (dI 0), .d (.v (.slice none 0 0)), .d (.v (.slice none 0 0)), .d (dI 0), .d (dI 0), .d (dI 0), .d (.v (.slice none 0 0)), .d (dI 0), .d (dI 0)]) R Bs (by kernel_rfl))<|?_
 refine XL.step R (Ah (l' := [.d (dI x.site), .d (dI x.num), .d (dI 2), .d (dI x.v.log), .d (dI x.v.dots), .d (.sl 5 (x.heads.map Hd.c)), .d (.sl 5 (x.graces.map Gr.c)), .d (dI x.art), .d (dI x.orn), .d (dI x.dyn), .d (.sl 2 (x.lyr.map Sy.c)), .d (dI x.stem), .d (dI x.beam)]) R R R R Bw R lb (by kernel_rfl))<|znr<|zp (Aa R R Bk)<|zp (Ab R R C9 R R)<|?_
 refine XL.call1 R R (I5 _ (by omega)) R<|zp (Aa R R Bk)<|XL.step R (Ah (l' := [.d (dI x.site), .d (dI x.num), .d (dI 2), .d (dI x.v.log), .d (dI x.v.dots), .d (.sl 5 ((x.heads.map Hd.tie).map Hd.c)), .d (.sl 5 (x.graces.map Gr.c)), .d (dI x.art), .d (dI x.orn), .d (dI x.dyn), .d (.sl 2 (x.lyr.map Sy.c)), .d (dI x.stem), .d (dI x.beam)]) R R R R I4 R lb (by kernel_rfl))<|?_
 refine zn<|zs<|Cu 24 [7001] (by kernel_rfl) (by kernel_rfl) (by kernel_rfl) (by kernel_rfl) (by decide)<|yp (Ae (s' := .d (.agg [dI x.site, dI x.num, dI 2, dI x.v.log, dI x.v.dots, .sl 5 ((x.heads.map Hd.tie).map Hd.c), .sl 5 (x.graces.map Gr.c), dI x.art, dI x.orn, dI x.dyn, .sl 2 (x.lyr.map Sy.c), dI x.stem, dI x.beam])) (Ad (Ac R R Aw R lb)) (by kernel_rfl))<|?_
 refine yp (Aa R R Mp)<|yp (Ae (s' := .d (.agg (Me.c p.m))) (Ad (Ac R R Bb R lb)) (by kernel_rfl))<|yp (Aa R R Ft)<|yp (Ab R R Ai R R)<|ym R R<|yp (Aj R R R (by omega) (by omega))<|yp (Aa R R Ft)<|yp (Ab R R Ai R R)<|ym R R<|yp (Aj R R R (by omega) (by omega))<|?_
 refine ChK.cons R (CStep.callS R ((Uz (x.asRest.tiedE) p.m (p.off + a) (p.off + t) hxf.rest.tied hs1).lab 7001) R (Eg (by kernel_rfl)))<|?_
 refine yp (Ae (s' := .d (.agg [dI x.site, dI x.num, dI 2, dI x.v.log, dI x.v.dots, .sl 5 (x.heads.map Hd.c), .sl 5 (x.graces.map Gr.c), dI x.art, dI x.orn, dI x.dyn, .sl 2 (x.lyr.map Sy.c), dI x.stem, dI x.beam])) (Ad (Ac R R Aw R lb)) (by kernel_rfl))<|ChK.cons R (CStep.call R (Mz x.asRest hxf.rest) R)<|yp (Aa R R Mp)<|?_
 refine yp (Ae (s' := .d (.agg (Me.c p.m))) (Ad (Ac R R Bb R lb)) (by kernel_rfl))<|yp (Aa R R Ft)<|yp (Ab R R Ai R R)<|ym R R<|yp (Aj R R R (by omega) (by omega))<|yp (Aa R R Ft)<|yp (Ab R R Ai R R)<|ym R R<|yp (Aj R R R (by omega) (by omega))<|?_
 refine ChK.nil ⟨by kernel_rfl, ?_⟩
 refine XL.call1 R R (U0 (x.asRest.furV) p.m (p.off + t) (p.off + (a + w)) (Yk hxf.rest) hs2) R<|?_
 refine XL.step R (Az R Dt (.own R) (Src.sl (by omega)) (by simp only [List.length_append, List.length_map, Cn, List.length_take, List.length_drop, List.length_nil]; unfold maxLen; omega) (by simp only [List.length_append, List.length_map, Cn, List.length_take, List.length_drop, List.length_nil]; omega))<|zp (Am R (by conv => lhs; whnf))<|?_
 refine znr<|XL.step R (A9 124 R Tryz.underlying22 Bw Bs R R (by omega) (by omega))<|zp (Aa R R A0)<|zp (Ab R R Bq R R)<|zm R R<|zp (E7 R R Ct Bd.no (Bd.at R) (by omega) (by omega))<|XL.step R (Az R Dt (.own R) (Src.sl (by omega)) (by unfold maxLen; simp; omega) (by simp; omega))<|zp (Ad (Bo R Dq By R))<|?_
 refine XL.step R (A7 14 (l := [.d (.v (.slice none 0 0)), .d (.v (.slice none 0 0))]) R By (by kernel_rfl))<|XL.step R (Ah (l' := [.own 124, .d (.v (.slice none 0 0))]) R R R R Cr R lb (by kernel_rfl))<|zn<|zs<|?_
 refine Jj 3 9 [] (S.kill 124) 124 (R4 124 (.row 60 13 ((v.evs.take k ++ Dg p t a w x).map Ev.c))) (by kernel_rfl) (by kernel_rfl) (by kernel_rfl) (by kernel_rfl) (by decide)<|ChMK.bf R (CStep.pure (Aa R R A0)) (by conv => lhs; whnf)<|?_
 refine ChMK.bf R (CStep.pure (Ab R R Bq R R)) (by conv => lhs; whnf)<|?_
 refine ChMK.bf R (CStep.pure (Ar R (by conv => lhs; whnf))) (by conv => lhs; whnf)<|?_
 refine ChMK.mu R (Oq (l2 := (v.evs.take k ++ Dg p t a w x).map Ev.c) R Dt (.own R) (Src.own R) (by simp only [List.length_append, List.length_map, Cn, List.length_take, List.length_drop, List.length_nil]; unfold maxLen; omega) (by simp only [List.length_append, List.length_map, Cn, List.length_take, List.length_drop, List.length_nil]; omega) (by first | (rw [← Wh c91]; simp only [List.map_append, List.nil_append, List.drop_zero]) | (rw [← Wi c91]; simp only [List.map_append, List.nil_append, List.drop_zero])))<|?_
 refine ChMK.fr R R (CStep.pure (Aa R R A0)) (CStep.pure (Aa R R A0)) (by exact rfl)<|ChMK.fr R R (CStep.pure (Ab R R Bq R R)) (CStep.pure (Ab R R Bq R R)) (by exact rfl)<|ChMK.fr R R (CStep.pure (Ar R (by conv => lhs; whnf))) (CStep.pure (Ar R (by conv => lhs; whnf))) (by exact rfl)<|?_
 refine ChMK.fr R R (CStep.pure (Ae (s' := .d (dI (k1 : Nat))) (Aj R R R (by omega) (by omega)) (sI (by omega)))) (CStep.pure (Ae (s' := .d (dI (k1 : Nat))) (Aj R R R (by omega) (by omega)) (sI (by omega)))) (by exact rfl)<|?_
 refine ChMK.fr R R (CStep.pure (E7 R R Ct (Bd.at R) Bd.no (by omega) (Nat.le_refl _))) (CStep.pure (E7 R R Ct (Bd.at R) Bd.no (by omega) (Nat.le_refl _))) (by exact rfl)<|?_
 refine ChMK.nil ⟨⟨by kernel_rfl, by kernel_rfl, by kernel_rfl⟩, ?_⟩
 refine XL.step R (Az R Dt (.own R) (Src.sl (by omega)) (by simp only [List.length_append, List.length_map, Cn, List.length_take, List.length_drop, List.length_nil]; unfold maxLen; omega) (by simp only [List.length_append, List.length_map, Cn, List.length_take, List.length_drop, List.length_nil]; omega))<|zp (Aa R R A0)<|?_
 refine XL.step R (Ah (l' := [.own 124, .d (.v (.slice none 0 0))]) R R R R We R lb (by kernel_rfl))<|znr<|zp (Aa R R B5)<|zp (Ab R R B3 R R)<|XL.call1 R R (Mf _ (by omega)) R<|zm R R<|zp (Aj R R R (by omega) (by omega))<|zp (Ar R (by conv => lhs; whnf))<|?_
 refine zp (Ae (s' := .d (dI ((Dg p t a w x).length : Nat))) (K3 R R R Tryz.underlying22) (by first | (rw [← Wh c91]; simp only [List.length_append, List.length_map]) | (rw [← Wi c91]; simp only [List.length_append, List.length_map])))<|zp (Dj R R R (by omega) (by omega))<|XL.call1 R R (S1 _ _ _ (by assumption) (by omega) (by omega)) R<|?_
 refine XL.call1 R R (Xn _ (by rw [List.length_map]; omega)) R<|zp (Aa R R B5)<|XL.step R (Ah (l' := [.own 124, .d (.sl 4 ((v.tups.map (H5 ((k : Nat) + 1) (((Dg p t a w x).length : Nat) - 1))).map Tp.c))]) R R R R Hf R lb (by kernel_rfl))<|zn<|zs<|zr<|zp (Aa R R A0)<|zp (Ab R R Bq R R)<|?_
 refine zp (Ae (s' := .d (dI ((v.evs.take k ++ Dg p t a w x ++ v.evs.drop k1).length : Nat))) (K3 R R R Tryz.underlying22) (by simp only [List.length_append, List.length_map, List.take_length]))<|zp (A5 R R R)<|zn<|?_
 refine zd R (fun c156 => ?_) (fun c156 => ?_)
 refine zr<|zp (Ae (s' := .d (.agg [.v (.slice none 0 0), .v (.slice none 0 0)])) (Ad (Bo R Dq By R)) (by kernel_rfl))<|XL.step R (Ah (l' := [.d (.v (.slice none 0 0)), .d (.v (.slice none 0 0))]) R R R R Cr R lb (by kernel_rfl))<|za R R<|zn<|zt<|?_
 exact Bj R (RV.sub (RV.cells R R R A8 lb R) (.agg (.cons (.nil 13) (.cons (.nil 4) (.nil))))) (RV.tmp R R) (r2v ((Lk hc c18 (by omega)).trans ((Fj hat hne hx hw).trans (Agm hnd (by omega) (by omega) R (by rw [Qo hck hnd hk1]; exact c156)))))
 refine zi<|zr<|zp (Ad (Ac R R A8 R lb))<|XL.step R (Ah (l' := [.own 124, .d (.sl 4 ((v.tups.map (H5 ((k : Nat) + 1) (((Dg p t a w x).length : Nat) - 1))).map Tp.c))]) R R R R Cr R lb (by kernel_rfl))<|za R R<|zn<|zt<|Ba (i := 124) R<|?_
 exact Bj R (RV.cells R R R A8 lb R) (RV.tmp R R) (by rw [Lk hc c18 (by omega), Fj hat hne hx hw, Agl hnd (by omega) (by omega) rfl (by rw [Qo hck hnd hk1]; exact c156), Qo hck hnd hk1]; simp only [Vo.c, List.map_append, List.take_length]; rfl)
 refine zi<|zr<|zp (Ae (s' := .d (.agg (Ev.c x))) (Ad (Ac R R Aw R lb)) (by kernel_rfl))<|XL.step R (A7 12 (l := [.d (dI 0), .d (dI 0), .d (dI 0), .d (dI 0), .d (dI 0), .d (.v (.slice none 0 0)), .d (.v (.slice none 0 0)), .d (dI 0), .d (dI 0), .d (dI 0), .d (.v (.slice none 0 0)), .d (dI 0), .d (dI 0)]) R Bs (by kernel_rfl))<|?_
 refine XL.step R (Ah (l' := [.d (dI x.site), .d (dI x.num), .d (dI x.kind), .d (dI x.v.log), .d (dI x.v.dots), .d (.sl 5 (x.heads.map Hd.c)), .d (.sl 5 (x.graces.map Gr.c)), .d (dI x.art), .d (dI x.orn), .d (dI x.dyn), .d (.sl 2 (x.lyr.map Sy.c)), .d (dI x.stem), .d (dI x.beam)]) R R R R Bw R lb (by kernel_rfl))<|znr<|zp (Aa R R Bk)<|zp (Ab R R C9 R R)<|?_
 refine XL.call1 R R (I5 _ (by omega)) R<|zp (Aa R R Bk)<|?_
 refine XL.step R (Ah (l' := [.d (dI x.site), .d (dI x.num), .d (dI x.kind), .d (dI x.v.log), .d (dI x.v.dots), .d (.sl 5 ((x.heads.map Hd.tie).map Hd.c)), .d (.sl 5 (x.graces.map Gr.c)), .d (dI x.art), .d (dI x.orn), .d (dI x.dyn), .d (.sl 2 (x.lyr.map Sy.c)), .d (dI x.stem), .d (dI x.beam)]) R R R R I4 R lb (by kernel_rfl))<|zn<|zs<|?_
 refine Cu 24 [7001] (by kernel_rfl) (by kernel_rfl) (by kernel_rfl) (by kernel_rfl) (by decide)<|yp (Ae (s' := .d (.agg [dI x.site, dI x.num, dI x.kind, dI x.v.log, dI x.v.dots, .sl 5 ((x.heads.map Hd.tie).map Hd.c), .sl 5 (x.graces.map Gr.c), dI x.art, dI x.orn, dI x.dyn, .sl 2 (x.lyr.map Sy.c), dI x.stem, dI x.beam])) (Ad (Ac R R Aw R lb)) (by kernel_rfl))<|?_
 refine yp (Aa R R Mp)<|yp (Ae (s' := .d (.agg (Me.c p.m))) (Ad (Ac R R Bb R lb)) (by kernel_rfl))<|yp (Aa R R Ft)<|yp (Ab R R Ai R R)<|ym R R<|yp (Aj R R R (by omega) (by omega))<|yp (Aa R R Ft)<|yp (Ab R R Ai R R)<|ym R R<|yp (Aj R R R (by omega) (by omega))<|?_
 refine ChK.cons R (CStep.callS R ((Uz (x.tiedE) p.m (p.off + a) (p.off + t) hxf.tied hs1).lab 7001) R (Eg (by kernel_rfl)))<|yp (Ae (s' := .d (.agg (Ev.c x))) (Ad (Ac R R Aw R lb)) (by kernel_rfl))<|ChK.cons R (CStep.call R (Mz x hxf) R)<|yp (Aa R R Mp)<|?_
 refine yp (Ae (s' := .d (.agg (Me.c p.m))) (Ad (Ac R R Bb R lb)) (by kernel_rfl))<|yp (Aa R R Ft)<|yp (Ab R R Ai R R)<|ym R R<|yp (Aj R R R (by omega) (by omega))<|yp (Aa R R Ft)<|yp (Ab R R Ai R R)<|ym R R<|yp (Aj R R R (by omega) (by omega))<|?_
 refine ChK.nil ⟨by kernel_rfl, ?_⟩
 refine XL.call1 R R (U0 (x.furV) p.m (p.off + t) (p.off + (a + w)) (Yk hxf) hs2) R<|?_
 refine XL.step R (Az R Dt (.own R) (Src.sl (by omega)) (by simp only [List.length_append, List.length_map, Cn, List.length_take, List.length_drop, List.length_nil]; unfold maxLen; omega) (by simp only [List.length_append, List.length_map, Cn, List.length_take, List.length_drop, List.length_nil]; omega))<|zp (Am R (by conv => lhs; whnf))<|?_
 refine znr<|XL.step R (A9 124 R Tryz.underlying22 Bw Bs R R (by omega) (by omega))<|zp (Aa R R A0)<|zp (Ab R R Bq R R)<|zm R R<|zp (E7 R R Ct Bd.no (Bd.at R) (by omega) (by omega))<|XL.step R (Az R Dt (.own R) (Src.sl (by omega)) (by unfold maxLen; simp; omega) (by simp; omega))<|zp (Ad (Bo R Dq By R))<|?_
 refine XL.step R (A7 14 (l := [.d (.v (.slice none 0 0)), .d (.v (.slice none 0 0))]) R By (by kernel_rfl))<|XL.step R (Ah (l' := [.own 124, .d (.v (.slice none 0 0))]) R R R R Cr R lb (by kernel_rfl))<|zn<|zs<|?_
 refine Jj 3 9 [] (S.kill 124) 124 (R4 124 (.row 60 13 ((v.evs.take k ++ Dg p t a w x).map Ev.c))) (by kernel_rfl) (by kernel_rfl) (by kernel_rfl) (by kernel_rfl) (by decide)<|ChMK.bf R (CStep.pure (Aa R R A0)) (by conv => lhs; whnf)<|?_
 refine ChMK.bf R (CStep.pure (Ab R R Bq R R)) (by conv => lhs; whnf)<|?_
 refine ChMK.bf R (CStep.pure (Ar R (by conv => lhs; whnf))) (by conv => lhs; whnf)<|?_
 refine ChMK.mu R (Oq (l2 := (v.evs.take k ++ Dg p t a w x).map Ev.c) R Dt (.own R) (Src.own R) (by simp only [List.length_append, List.length_map, Cn, List.length_take, List.length_drop, List.length_nil]; unfold maxLen; omega) (by simp only [List.length_append, List.length_map, Cn, List.length_take, List.length_drop, List.length_nil]; omega) (by first | (rw [← Wh c91]; simp only [List.map_append, List.nil_append, List.drop_zero]) | (rw [← Wi c91]; simp only [List.map_append, List.nil_append, List.drop_zero])))<|?_
 refine ChMK.fr R R (CStep.pure (Aa R R A0)) (CStep.pure (Aa R R A0)) (by exact rfl)<|ChMK.fr R R (CStep.pure (Ab R R Bq R R)) (CStep.pure (Ab R R Bq R R)) (by exact rfl)<|ChMK.fr R R (CStep.pure (Ar R (by conv => lhs; whnf))) (CStep.pure (Ar R (by conv => lhs; whnf))) (by exact rfl)<|?_
 refine ChMK.fr R R (CStep.pure (Ae (s' := .d (dI (k1 : Nat))) (Aj R R R (by omega) (by omega)) (sI (by omega)))) (CStep.pure (Ae (s' := .d (dI (k1 : Nat))) (Aj R R R (by omega) (by omega)) (sI (by omega)))) (by exact rfl)<|?_
 refine ChMK.fr R R (CStep.pure (E7 R R Ct (Bd.at R) Bd.no (by omega) (Nat.le_refl _))) (CStep.pure (E7 R R Ct (Bd.at R) Bd.no (by omega) (Nat.le_refl _))) (by exact rfl)<|?_
 refine ChMK.nil ⟨⟨by kernel_rfl, by kernel_rfl, by kernel_rfl⟩, ?_⟩
 refine XL.step R (Az R Dt (.own R) (Src.sl (by omega)) (by simp only [List.length_append, List.length_map, Cn, List.length_take, List.length_drop, List.length_nil]; unfold maxLen; omega) (by simp only [List.length_append, List.length_map, Cn, List.length_take, List.length_drop, List.length_nil]; omega))<|zp (Aa R R A0)<|?_
 refine XL.step R (Ah (l' := [.own 124, .d (.v (.slice none 0 0))]) R R R R We R lb (by kernel_rfl))<|znr<|zp (Aa R R B5)<|zp (Ab R R B3 R R)<|XL.call1 R R (Mf _ (by omega)) R<|zm R R<|zp (Aj R R R (by omega) (by omega))<|zp (Ar R (by conv => lhs; whnf))<|?_
 refine zp (Ae (s' := .d (dI ((Dg p t a w x).length : Nat))) (K3 R R R Tryz.underlying22) (by first | (rw [← Wh c91]; simp only [List.length_append, List.length_map]) | (rw [← Wi c91]; simp only [List.length_append, List.length_map])))<|zp (Dj R R R (by omega) (by omega))<|XL.call1 R R (S1 _ _ _ (by assumption) (by omega) (by omega)) R<|?_
 refine XL.call1 R R (Xn _ (by rw [List.length_map]; omega)) R<|zp (Aa R R B5)<|XL.step R (Ah (l' := [.own 124, .d (.sl 4 ((v.tups.map (H5 ((k : Nat) + 1) (((Dg p t a w x).length : Nat) - 1))).map Tp.c))]) R R R R Hf R lb (by kernel_rfl))<|zn<|zs<|zr<|zp (Aa R R A0)<|zp (Ab R R Bq R R)<|?_
 refine zp (Ae (s' := .d (dI ((v.evs.take k ++ Dg p t a w x ++ v.evs.drop k1).length : Nat))) (K3 R R R Tryz.underlying22) (by simp only [List.length_append, List.length_map, List.take_length]))<|zp (A5 R R R)<|zn<|?_
 refine zd R (fun c156 => ?_) (fun c156 => ?_)
 refine zr<|zp (Ae (s' := .d (.agg [.v (.slice none 0 0), .v (.slice none 0 0)])) (Ad (Bo R Dq By R)) (by kernel_rfl))<|XL.step R (Ah (l' := [.d (.v (.slice none 0 0)), .d (.v (.slice none 0 0))]) R R R R Cr R lb (by kernel_rfl))<|za R R<|zn<|zt<|?_
 exact Bj R (RV.sub (RV.cells R R R A8 lb R) (.agg (.cons (.nil 13) (.cons (.nil 4) (.nil))))) (RV.tmp R R) (r2v ((Lk hc c18 (by omega)).trans ((Fj hat hne hx hw).trans (Agm hnd (by omega) (by omega) R (by rw [Qo hck hnd hk1]; exact c156)))))
 refine zi<|zr<|zp (Ad (Ac R R A8 R lb))<|XL.step R (Ah (l' := [.own 124, .d (.sl 4 ((v.tups.map (H5 ((k : Nat) + 1) (((Dg p t a w x).length : Nat) - 1))).map Tp.c))]) R R R R Cr R lb (by kernel_rfl))<|za R R<|zn<|zt<|Ba (i := 124) R<|?_
 exact Bj R (RV.cells R R R A8 lb R) (RV.tmp R R) (by rw [Lk hc c18 (by omega), Fj hat hne hx hw, Agl hnd (by omega) (by omega) rfl (by rw [Qo hck hnd hk1]; exact c156), Qo hck hnd hk1]; simp only [Vo.c, List.map_append, List.take_length]; rfl)
end Go.Proofs.YtcihalbakenleaaGreat
namespace Go.Proofs.YtcihalbakenleaaGreat
open Go.RowKit
theorem Ajb {v : Vo} {p : Pl} {t : Int} (hc : p.chk v = 0) (h : (Eo v p t).2 = 0) : ckE (Eo v p t).1 p.len = 0 := by
 have e := Anx hc h
 rw [e] at h ⊢
 exact (Iz (Akz hc h)).2.2
theorem Aet {v : Vo} {L : Int} (h : ckE v L = 0) : v.tups.length ≤ 1000 := by have := (P7 h).1.tups; omega
theorem Aqy {v : Vo} {p : Pl} {t : Int} (h : ¬ p.chk v = 0) : Eo v p t = (⟨[], []⟩, p.chk v) := Apz h
theorem Ana (v : Vo) (p : Pl) (t : Int) (hE : Evs v.evs) : XC Tryz.prog 3 [.agg (Vo.c v), .agg (Pl.c p), .v (.int .i64 t)] (fun r => r = dB true) := by
 refine An Ags Tryz.func3 R R lb<|zr<|XL.step R (As 3 (l := [.d (.sl 13 (v.evs.map Ev.c)), .d (.sl 4 (v.tups.map Tp.c))]) R R (by kernel_rfl))<|XL.step R (As 4 (l := [.d (dI p.m.count), .d (dI p.m.unit), .d (dI p.m.g0), .d (dI p.m.g1), .d (dI p.m.g2), .d (dI p.m.g3), .d (dI p.m.g4), .d (dI p.m.g5), .d (dI p.off), .d (dI p.len)]) R R (by kernel_rfl))<|za R R<|zn<|zs<|zr<|?_
 refine XL.call1 R R (R6) R<|zp (C3 R R)<|zm R R<|?_
 refine XL.bool 13 R (fun g13 => ?_) (fun g13 => ?_)
 exact zk 3 R<|zq R R R<|zn<|Ao (by kernel_rfl) R<|zr<|XL.call1 R R (R6) R<|za R R<|zn<|zt<|z1 R R (R)
 refine zp (Ae (s' := .d (.agg (Vo.c v))) (Ad (Ac R R A8 R lb)) (by kernel_rfl))<|XL.call1 R R (Ape _) R<|zp (Bp R R)<|zq R R R<|zn<|?_
 refine zd R (fun c17 => ?_) (fun c17 => ?_)
 exact zr<|XL.call1 R R (R6) R<|za R R<|zn<|zt<|z1 R R (R)
 refine zi<|zs<|?_
 have hfw := Decidable.not_not.1 c17
 have htl := hfw.2.2
 have hF := hfw.fit
 refine Af (by kernel_rfl)<|zp (Ae (s' := .d (.agg (Vo.c v))) (Ad (Ac R R A8 R lb)) (by kernel_rfl))<|zp (Ae (s' := .d (.agg (Pl.c p))) (Ad (Ac R R Kc R lb)) (by kernel_rfl))<|zm R R<|XL.call1 R R (V8 _ _ _ (by assumption) (by assumption)) R<|zm R R<|zp (Be R R R)<|zp (Be R R R)<|?_
 refine XL.step R (A7 7 (l := [.d (.v (.slice none 0 0)), .d (.v (.slice none 0 0))]) R By (by kernel_rfl))<|XL.step R (Ah (l' := [.d (.sl 13 (((Eo v p t).1).evs.map Ev.c)), .d (.sl 4 (((Eo v p t).1).tups.map Tp.c))]) R R R R Cr R lb (by kernel_rfl))<|za R R<|znr<|zp (Ae (s' := .d (.agg (Vo.c v))) (Ad (Ac R R A8 R lb)) (by kernel_rfl))<|?_
 refine zp (Ae (s' := .d (.agg (Pl.c p))) (Ad (Ac R R Kc R lb)) (by kernel_rfl))<|XL.call1 R R (Agg _ _ (by assumption) (by omega)) R<|za R R<|znr<|XL.step R (A7 10 (l := [.d (.v (.slice none 0 0)), .d (.v (.slice none 0 0))]) R By (by kernel_rfl))<|zn<|zs<|zr<|zm R R<|zp (Ay R R R)<|zn<|?_
 refine zd R (fun c30 => ?_) (fun c30 => ?_)
 have hc0 : p.chk v = 0 := c30
 refine Af (by kernel_rfl)<|zp (Ae (s' := .d (.agg (Vo.c v))) (Ad (Ac R R A8 R lb)) (by kernel_rfl))<|zp (Ae (s' := .d (.agg (Pl.c p))) (Ad (Ac R R Kc R lb)) (by kernel_rfl))<|zm R R<|XL.call1 R R (Afg _ _ _ (by assumption) (by assumption)) R<|zm R R<|zp (Be R R R)<|zp (Be R R R)<|?_
 refine XL.step R (Ah (l' := [.d (.sl 13 (((Eo v p t).1).evs.map Ev.c)), .d (.sl 4 (((Eo v p t).1).tups.map Tp.c))]) R R R R Cr R lb (by kernel_rfl))<|za R R<|znr<|zm R R<|zm R R<|zp (Di (Ay R R R) (by first | rfl | rw [hd1]))<|zm R R<|zp (Ae (s' := .d (.agg (Vo.c (Eo v p t).1))) (Ad (Ac R R A8 R lb)) (by kernel_rfl))<|?_
 refine zp (Ae (s' := .d (.agg (Vo.c (Eo v p t).1))) (Ad (Ac R R A8 R lb)) (by kernel_rfl))<|XL.call1 R R (Ag2 (X9 _ _) (by first | rfl | rw [hd1])) R<|zp (Ae (s' := .d (dB true)) (A6 R R (by conv => lhs; whnf)) (R))<|?_
 refine zm R R<|zm R R<|zp (Bh R R R)<|zm R R<|?_
 refine XL.dec 49 R (fun g49 => ?_) (fun g49 => ?_)
 exact zk 5 R<|zq R R R<|zq R R R<|za R R<|zn<|zt<|z1 R R (R)
 have hz : ckE (Eo v p t).1 p.len = 0 := by first | exact Ajb hc0 (Decidable.not_not.1 g49) | (exfalso; exact g49 (by rw [hd1]; exact c30))
 have hzE := (L3 hz).2
 have hzt := Aet hz
 exact zp (Ae (s' := .d (.agg (Vo.c (Eo v p t).1))) (Ad (Ac R R A8 R lb)) (by kernel_rfl))<|zp (Aa R R G9)<|zp (Ab R R Ai R R)<|XL.call1 R R (Nk _ _ (by assumption) (by omega)) R<|zp (Di (Ay R R R) (hz))<|zq R R R<|zq R R R<|za R R<|zn<|zt<|z1 R R (R)
 have hd1 := Aqy (t := t) c30
 refine zi<|zr<|zm R R<|zm R R<|zp (Di (Ay R R R) (by first | rfl | rw [hd1]))<|zm R R<|zp (Ae (s' := .d (.agg (Vo.c (Eo v p t).1))) (Ad (Ac R R A8 R lb)) (by kernel_rfl))<|?_
 refine zp (Rw (.agg (Vo.c ⟨[], []⟩)) (Ae (s' := .d (.agg [.v (.slice none 0 0), .v (.slice none 0 0)])) (Ad (Ac R R A8 R lb)) (by kernel_rfl)) (.agg (.cons (.nil 13) (.cons (.nil 4) (.nil)))))<|XL.call1 R R (Ag2 (X9 _ _) (by first | rfl | rw [hd1])) R<|zp (Ae (s' := .d (dB true)) (A6 R R (by conv => lhs; whnf)) (R))<|?_
 refine zm R R<|zm R R<|zp (Bh R R R)<|zm R R<|?_
 refine XL.dec 49 R (fun g49 => ?_) (fun g49 => ?_)
 exact zk 5 R<|zq R R R<|zq R R R<|za R R<|zn<|zt<|z1 R R (R)
 have hz : ckE (Eo v p t).1 p.len = 0 := by first | exact Ajb hc0 (Decidable.not_not.1 g49) | (exfalso; exact g49 (by rw [hd1]; exact c30))
 have hzE := (L3 hz).2
 have hzt := Aet hz
 exact zp (Ae (s' := .d (.agg (Vo.c (Eo v p t).1))) (Ad (Ac R R A8 R lb)) (by kernel_rfl))<|zp (Aa R R G9)<|zp (Ab R R Ai R R)<|XL.call1 R R (Nk _ _ (by assumption) (by omega)) R<|zp (Di (Ay R R R) (hz))<|zq R R R<|zq R R R<|za R R<|zn<|zt<|z1 R R (R)
end Go.Proofs.YtcihalbakenleaaGreat
