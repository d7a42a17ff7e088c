/- rational.Best returns the nearest fraction. -/
import Derived.Test.YtfappkhohddcjaaDoorRat10
namespace Go.Proofs.YtfappkhohddcjaaDoor
open Go.RowKit

theorem ofF_low {n d : Int} (h : Fq n d) (hg : Nat.gcd n.natAbs d.natAbs = 1) : ofF n d = ⟨n, d, 0⟩ := by
  obtain ⟨a1, a2, a3, a4⟩ := h
  rw [ofF_pos (by omega), redF_eq hg.symm, Nat.div_one, Nat.div_one, if_neg (by omega), decide_eq_false (show ¬ d < 0 by omega)]
  by_cases hn : n < 0
  · rw [decide_eq_true hn]
    show Fr.mk (-((n.natAbs : Nat) : Int)) _ _ = _
    rw [show -((n.natAbs : Nat) : Int) = n by omega, show ((d.natAbs : Nat) : Int) = d by omega]
  · rw [decide_eq_false hn]
    show Fr.mk ((n.natAbs : Nat) : Int) _ _ = _
    rw [show ((n.natAbs : Nat) : Int) = n by omega, show ((d.natAbs : Nat) : Int) = d by omega]

theorem gcd_int {n d : Int} (hg : Nat.gcd n.natAbs d.natAbs = 1) : ∀ g : Int, g ∣ n → g ∣ d → g ∣ 1 := by
  intro g h1 h2
  have := Nat.dvd_gcd (Int.natAbs_dvd_natAbs.2 h1) (Int.natAbs_dvd_natAbs.2 h2)
  rw [hg] at this
  exact Int.natAbs_dvd_natAbs.1 (by simpa using this)

theorem le_mul_pos {p d : Int} (hd : 1 ≤ d) {B : Int} (h1 : -B ≤ p * d) (h2 : p * d ≤ B) : -B ≤ p ∧ p ≤ B := by
  rcases (show 0 ≤ p ∨ p < 0 by omega) with h | h
  · have : p * 1 ≤ p * d := Int.mul_le_mul_of_nonneg_left hd h
    omega
  · have : (-p) * 1 ≤ (-p) * d := Int.mul_le_mul_of_nonneg_left hd (by omega)
    rw [Int.neg_mul, Int.neg_mul] at this
    omega

theorem natmul_bnd {a q : Int} (h1 : -1073741824 ≤ a) (h2 : a ≤ 1073741824) (h3 : 0 ≤ q) (h4 : q ≤ 60) : -64424509440 ≤ a * q ∧ a * q ≤ 64424509440 := by
  rcases (show 0 ≤ a ∨ a < 0 by omega) with h | h
  · have : a * q ≤ 1073741824 * 60 := Int.mul_le_mul h2 h4 h3 (by omega)
    have : 0 ≤ a * q := Int.mul_nonneg h h3
    omega
  · have : (-a) * q ≤ 1073741824 * 60 := Int.mul_le_mul (by omega) h4 h3 (by omega)
    have : 0 ≤ (-a) * q := Int.mul_nonneg (by omega) h3
    rw [Int.neg_mul] at *
    omega

section
variable {n d most p0 q0 p1 q1 a b : Int}
theorem Conv.bounds (h : Conv n d most p0 q0 p1 q1 a b) (h1 : Fq n d) (hm : most ≤ 60) :
    -1073741824 ≤ a ∧ a ≤ 1073741824 ∧ 1 ≤ b ∧ b ≤ 1073741824 ∧ 0 ≤ q0 ∧ q0 ≤ 60 ∧ 0 ≤ q1 ∧ q1 ≤ 60 ∧ -65498251264 ≤ p1 ∧ p1 ≤ 65498251264 ∧ -65498251264 ≤ p0 ∧ p0 ≤ 65498251264 ∧
      -1073741824 ≤ a / b ∧ a / b ≤ 1073741824 ∧ -64424509440 ≤ a / b * q1 ∧ a / b * q1 ≤ 64424509440 ∧ -2147483648 ≤ a / b * b ∧ a / b * b ≤ 2147483648 := by
  obtain ⟨a1, a2, a3, a4⟩ := h1
  have hb := h.b0
  have hst := h.st
  have hq1 : 0 ≤ q1 := by omega
  have hq0 := h.q0n
  have l1 := h.q1m
  have l0 := h.q01
  have ha : -1073741824 ≤ a ∧ a ≤ 1073741824 ∧ b ≤ 1073741824 := by omega
  have hbn := h.bnd
  have hnm : 0 ≤ (n.natAbs : Int) * most ∧ (n.natAbs : Int) * most ≤ 64424509440 := by
    have := natmul_bnd (a := (n.natAbs : Int)) (q := most) (by omega) (by omega) (by have := h.one; omega) hm
    have := Int.mul_nonneg (show (0 : Int) ≤ (n.natAbs : Int) by omega) (show 0 ≤ most by have := h.one; omega)
    omega
  have e1 := le_mul_pos (p := p1) (d := d) (B := 65498251264) (by omega) (by omega) (by omega)
  have e0 := le_mul_pos (p := p0) (d := d) (B := 65498251264) (by omega) (by omega) (by omega)
  have hk : -1073741824 ≤ a / b ∧ a / b ≤ 1073741824 := by
    constructor
    · rw [Int.le_ediv_iff_mul_le hb]; omega
    · exact Int.ediv_le_of_le_mul hb (by omega)
  have hkq := natmul_bnd (a := a / b) (q := q1) hk.1 hk.2 hq1 (by omega)
  obtain ⟨k1, k2, k3⟩ := h.kk
  have hmod := Int.emod_nonneg a (show b ≠ 0 by omega)
  have hmod2 := Int.emod_lt_of_pos a hb
  omega
end

theorem cmp_cases (X Y q2 q1 p2 p1 : Int) : (X < Y) ∨ (X = Y ∧ q2 < q1) ∨ (X = Y ∧ q2 = q1 ∧ p2 < p1) ∨ (Y < X) ∨ (X = Y ∧ q1 < q2) ∨ (X = Y ∧ q2 = q1 ∧ ¬ p2 < p1) := by omega

section
variable {w0 w1 w2 : World} {k : Nat} {n1 d1 n2 d2 : Int}
theorem S2.pack (h : w1.cell? ⟨k, 0, none⟩ = some (.int .i64 n1) ∧ w1.cell? ⟨k, 1, none⟩ = some (.int .i64 d1) ∧ w1.cell? ⟨k + 1, 0, none⟩ = some (.int .i64 n2) ∧ w1.cell? ⟨k + 1, 1, none⟩ = some (.int .i64 d2) ∧ S2 w0 k n1 d1 n2 d2 w1) : Hid (S2 w0 k n1 d1 n2 d2 w1) := h.2.2.2.2
end

set_option maxRecDepth 100000 in
set_option maxHeartbeats 2000000 in
theorem Best_range (n d most : Int) (w : World) (hm : most < 1 ∨ 1073741824 < most) :
    Calls Tryd.prog 22 #[.agg #[.int .i64 n, .int .i64 (d - 1)], .int .i64 most] w fun e w' => e = .returned (.tuple #[.agg #[.int .i64 0, .int .i64 0], .int .i64 2]) ∧ Below w.heap.size w w' := by
  rcases (show most < 1 ∨ (¬ most < 1 ∧ 1073741824 < most) by omega) with h | ⟨h, h'⟩
  all_goals
    go_enter Tryd.func22, Tryd.ntmps22
    go_wp2_with fail
    refine bodyPost_ret (v := .tuple #[.agg #[.int .i64 0, .int .i64 0], .int .i64 2]) (by simp [results, Tryd.results22, go_sem]) rfl ?_
    exact ⟨rfl, by go_grown⟩

set_option maxRecDepth 100000 in
set_option maxHeartbeats 16000000 in
theorem Best_any (n d most p q : Int) (w : World) (h1 : Fq n d) (hg : Nat.gcd n.natAbs d.natAbs = 1) (hm1 : 1 ≤ most) (hm : most ≤ 60) (HN : Nearest n d most p q) :
    Calls Tryd.prog 22 #[.agg #[.int .i64 n, .int .i64 (d - 1)], .int .i64 most] w fun e w' => e = .returned (.tuple #[.agg #[.int .i64 (ofF p q).n, .int .i64 ((ofF p q).d - 1)], .int .i64 (ofF p q).e]) ∧ Below w.heap.size w w' := by
  have m1 : ¬ most < 1 := by omega
  have m2 : ¬ 1073741824 < most := by omega
  have h1' := h1
  obtain ⟨a1, a2, a3, a4⟩ := h1
  have HD := hide (fun W => Den_any n d W (by omega) (by omega))
  have HS := hide (S2.new w n (d - 1) 0 0 24)
  by_cases hdm : d ≤ most
  · obtain ⟨rfl, rfl⟩ := HN.unique (nearest_self rfl (show d = ((d.natAbs : Nat) : Int) by omega) (by omega) hg hdm)
    have HV := hide (ofF_low h1' hg)
    clear HN h1' hg
    go_enter Tryd.func22, Tryd.ntmps22
    go_wp2_with fail
    generalize (w.alloc (.cells #[.int .i64 p, .int .i64 (q - 1)] 24)).alloc (.cells #[.int .i64 0, .int .i64 0] 24) = wX at HS ⊢
    have x0 := HS.out.tx.c0
    have x1 := HS.out.tx.c1
    go_wp2_with fail
    refine (HD.out _).mono ?_
    rintro e w1 ⟨rfl, hb⟩
    have HS1 := hide (HS.out.on hb)
    clear hb x0 x1
    have x0 := HS1.out.tx.c0
    have x1 := HS1.out.tx.c1
    have r0 := HS1.out.ty.c0
    have r1 := HS1.out.ty.c1
    have r2 := HS1.out.ty.f0
    have r3 := HS1.out.ty.f1
    have d0 := (HS1.out.ty.set p (q - 1)).c0
    have d1 := (HS1.out.ty.set p (q - 1)).c1
    go_wp2_with fail
    refine bodyPost_ret (v := .tuple #[.agg #[.int .i64 p, .int .i64 (q - 1)], .int .i64 0]) (by simp [results, Tryd.results22, go_sem, *]) rfl ?_
    exact ⟨by rw [HV.out], (HS1.out.bel.setCell (by simp) _).setCell (by simp) _⟩
  · have HC0 := hide (Conv.start (gcd_int hg) hm1 (show most < d by omega))
    have HN' := hide HN
    have H1 := hide h1'
    have hdb : decide (d ≤ most) = false := by simpa using hdm
    clear HN hg h1'
    go_enter Tryd.func22, Tryd.ntmps22
    go_wp2_with fail
    generalize (w.alloc (.cells #[.int .i64 n, .int .i64 (d - 1)] 24)).alloc (.cells #[.int .i64 0, .int .i64 0] 24) = wX at HS ⊢
    have x0 := HS.out.tx.c0
    have x1 := HS.out.tx.c1
    go_wp2_with fail
    refine (HD.out _).mono ?_
    rintro e w1 ⟨rfl, hb⟩
    have HS1 := hide (HS.out.on hb)
    clear hb x0 x1 HS
    go_wp2_with fail
    go_region_held3 (fun w' => w'.cell? ⟨w.heap.size, 0, none⟩ = some (.int .i64 n) ∧ w'.cell? ⟨w.heap.size, 1, none⟩ = some (.int .i64 (d - 1)) ∧ w'.cell? ⟨w.heap.size + 1, 0, none⟩ = some (.int .i64 0) ∧ w'.cell? ⟨w.heap.size + 1, 1, none⟩ = some (.int .i64 0) ∧ S2 w w.heap.size n (d - 1) 0 0 w')
      (first | (exact HS1.out.drew.all) | (exact S2.next (by assumption) (by assumption)))
      (first | (go_at_call 40; refine (HD.out _).mono ?_; rintro e w' ⟨rfl, hb'⟩))
    have HS2 := S2.pack (by assumption)
    go_wp2_with fail
    go_loopg [6, 7, 8, 9, 10, 11] (d.toNat + 1) (fun gl s6 s7 s8 s9 s10 s11 wr => w' = wr ∧ ∃ p0 q0 p1 q1 a b : Int, s6 = .int .i64 p0 ∧ s7 = .int .i64 q0 ∧ s8 = .int .i64 p1 ∧ s9 = .int .i64 q1 ∧ s10 = .int .i64 a ∧ s11 = .int .i64 b ∧ b.toNat ≤ gl ∧ Hid (Conv n d most p0 q0 p1 q1 a b))
    case atStart => exact ⟨rfl, 0, 1, 1, 0, n, d, rfl, rfl, rfl, rfl, rfl, rfl, by omega, HC0⟩
    case round =>
      obtain ⟨rfl, p0, q0, p1, q1, a, b, rfl, rfl, rfl, rfl, rfl, rfl, hgl, HC⟩ := hrel
      obtain ⟨b1, b2, b3, b4, b5, b6, b7, b8, b9, b10, b11, b12, b13, b14, b15, b16, b17, b18⟩ := HC.out.bounds H1.out hm
      have HF := hide (fun W => floor_any a b W ⟨by omega, by omega⟩ (by omega) (by omega))
      obtain ⟨K, hK⟩ : ∃ K, K = a / b := ⟨_, rfl⟩
      rw [← hK] at b13 b14 b15 b16 b17 b18 HF
      have HKK := hide hK
      clear hK
      by_cases hq : q0 + K * q1 ≤ most
      · have hst := HC.out.step (by rw [← HKK.out]; exact hq)
        rw [← HKK.out] at hst
        obtain ⟨hc, hlt⟩ := hst
        have bb := hc.bounds H1.out hm
        have hc1 := hc.b0
        have hm' : ¬ most < q0 + K * q1 := by omega
        have HC' := hide hc
        have i1 : IntKind.i64.wrap (K * q1) = K * q1 := IntWalk.i64_in _ (by omega)
        have i2 : IntKind.i64.wrap (q0 + K * q1) = q0 + K * q1 := IntWalk.i64_in _ (by omega)
        have i3 : IntKind.i64.wrap (K * p1) = K * p1 := IntWalk.i64_in _ (by omega)
        have i4 : IntKind.i64.wrap (p0 + K * p1) = p0 + K * p1 := IntWalk.i64_in _ (by omega)
        have i5 : IntKind.i64.wrap (K * b) = K * b := IntWalk.i64_in _ (by omega)
        have i6 : IntKind.i64.wrap (a - K * b) = a - K * b := IntWalk.i64_in _ (by omega)
        have HL := hide (show (a - K * b).toNat ≤ gk - 1 ∧ gk - 1 < gk by omega)
        clear hc bb
        go_wp2_with fail
        refine (HF.out _).mono ?_
        rintro e w3 ⟨rfl, rfl⟩
        go_wp2_with fail
        go_roundg (gk - 1)
        case measure => exact HL.out.2
        case rel => exact ⟨rfl, _, _, _, _, _, _, rfl, rfl, rfl, rfl, rfl, rfl, HL.out.1, HC'⟩
      · have hm' : most < q0 + K * q1 := by omega
        have hfin := HC.out.fin (by rw [← HKK.out]; exact hm')
        have i1 : IntKind.i64.wrap (K * q1) = K * q1 := IntWalk.i64_in _ (by omega)
        have i2 : IntKind.i64.wrap (q0 + K * q1) = q0 + K * q1 := IntWalk.i64_in _ (by omega)
        obtain ⟨k, hk⟩ : ∃ k, k = (most - q0) / q1 := ⟨_, rfl⟩
        rw [← hk] at hfin
        obtain ⟨P, hP⟩ : ∃ P, P = p0 + k * p1 := ⟨_, rfl⟩
        obtain ⟨Q, hQ⟩ : ∃ Q, Q = q0 + k * q1 := ⟨_, rfl⟩
        obtain ⟨c, hcc⟩ : ∃ c, c = a - k * b := ⟨_, rfl⟩
        rw [← hP, ← hQ, ← hcc] at hfin
        obtain ⟨f1, f2, f3, f4, f5, D1, f6, f7, D2, N1, N2⟩ := hfin
        have hq0m := HC.out.q01
        have t1 : (most - q0).tdiv q1 = k := by rw [Int.tdiv_eq_ediv_of_nonneg (by omega)]; exact hk.symm
        have t2 : (most - q0) / q1 = k := hk.symm
        have nb := natmul_bnd (a := n) (q := q1) (by omega) (by omega) b7 b8
        have nb2 := natmul_bnd (a := n) (q := Q) (by omega) (by omega) (by omega) (by omega)
        have hd1 : -65498251264 ≤ p1 * d ∧ p1 * d ≤ 65498251264 := by have := D1; unfold dist at this; omega
        have hd2 : -65498251264 ≤ P * d ∧ P * d ≤ 65498251264 := by have := D2; unfold dist at this; omega
        have hPb := le_mul_pos (p := P) (d := d) (B := 65498251264) (by omega) hd2.1 hd2.2
        have i3 : IntKind.i64.wrap (most - q0) = most - q0 := IntWalk.i64_in _ (by omega)
        have i4 : IntKind.i64.wrap k = k := IntWalk.i64_in _ (by omega)
        have i5 : IntKind.i64.wrap (k * p1) = k * p1 := IntWalk.i64_in _ (by omega)
        have i6 : p0 + k * p1 = P := hP.symm
        have i7 : IntKind.i64.wrap P = P := IntWalk.i64_in _ (by omega)
        have i8 : IntKind.i64.wrap (k * q1) = k * q1 := IntWalk.i64_in _ (by omega)
        have i9 : q0 + k * q1 = Q := hQ.symm
        have i10 : IntKind.i64.wrap Q = Q := IntWalk.i64_in _ (by omega)
        have HD1 := hide (fun W => distance_any n d p1 q1 W (by omega) (by omega) ⟨by omega, by omega⟩ ⟨by omega, by omega⟩)
        have HD2 := hide (fun W => distance_any n d P Q W (by omega) (by omega) ⟨by omega, by omega⟩ ⟨by omega, by omega⟩)
        rw [D1] at HD1
        rw [D2] at HD2
        have mb1 := natmul_bnd (a := b) (q := Q) (by omega) (by omega) (by omega) (by omega)
        have mb2 := natmul_bnd (a := c) (q := q1) (by omega) (by omega) (by omega) (by omega)
        have HX := hide N1
        have HY := hide N2
        obtain ⟨X, hX⟩ : ∃ X, X = c * q1 := ⟨_, rfl⟩
        obtain ⟨Y, hY⟩ : ∃ Y, Y = b * Q := ⟨_, rfl⟩
        rw [← hX, ← hY] at HX HY
        have i11 : c * q1 = X := hX.symm
        have i12 : b * Q = Y := hY.symm
        have i13 : IntKind.i64.wrap X = X := IntWalk.i64_in _ (by omega)
        have i14 : IntKind.i64.wrap Y = Y := IntWalk.i64_in _ (by omega)
        have HO1 := hide (fun W => Of_any p1 q1 W ⟨by omega, by omega⟩ ⟨by omega, by omega⟩)
        have HO2 := hide (fun W => Of_any P Q W ⟨by omega, by omega⟩ ⟨by omega, by omega⟩)
        have z1 : ¬ q1 = 0 := by omega
        clear N1 N2 D1 D2 hk hP hQ hcc hX hY nb nb2 hd1 hd2 hPb mb1 mb2
        go_wp2_with fail
        refine (HF.out _).mono ?_
        rintro e w3 ⟨rfl, rfl⟩
        go_wp2_with fail
        have q1' := HS2.out.tx.c0
        have q2' := HS2.out.tx.c1
        clear q1' q2' i1 i2 i3 i4 i5 i6 i8 i9 t1 t2
        go_region_held3 (fun w' => w'.cell? ⟨w.heap.size, 0, none⟩ = some (.int .i64 n) ∧ w'.cell? ⟨w.heap.size, 1, none⟩ = some (.int .i64 (d - 1)) ∧ w'.cell? ⟨w.heap.size + 1, 0, none⟩ = some (.int .i64 0) ∧ w'.cell? ⟨w.heap.size + 1, 1, none⟩ = some (.int .i64 0) ∧ S2 w w.heap.size n (d - 1) 0 0 w')
          (first | (exact HS2.out.drew.all) | (exact S2.next (by assumption) (by assumption)))
          (first | (go_at_call 48; (with_reducible refine (HD1.out _).mono ?_); rintro e w' ⟨rfl, hb'⟩) | (go_at_call 48; (with_reducible refine (HD2.out _).mono ?_); rintro e w' ⟨rfl, hb'⟩))
        all_goals
          have HS3 := S2.pack (by assumption)
          rcases cmp_cases X Y Q q1 P p1 with h | ⟨h, h'⟩ | ⟨h, h', h''⟩ | h | ⟨h, h'⟩ | ⟨h, h', h''⟩
          · obtain ⟨e1, e2⟩ := HN'.out.unique (HY.out (.inl h))
            have HE1 := hide e1
            have HE2 := hide e2
            clear e1 e2 HX HY HN'
            go_wp2_with fail
            refine (HO2.out _).mono ?_
            rintro e w4 ⟨rfl, hb⟩
            have HS4 := hide (HS3.out.on hb)
            have r0 := HS4.out.ty.c0
            have r1 := HS4.out.ty.c1
            have r2 := HS4.out.ty.f0
            have r3 := HS4.out.ty.f1
            have d0 := (HS4.out.ty.set (ofF P Q).n ((ofF P Q).d - 1)).c0
            have d1 := (HS4.out.ty.set (ofF P Q).n ((ofF P Q).d - 1)).c1
            clear hb
            go_wp2_with fail
            refine bodyPost_ret (v := .tuple #[.agg #[.int .i64 (ofF P Q).n, .int .i64 ((ofF P Q).d - 1)], .int .i64 (ofF P Q).e]) (by simp [results, Tryd.results22, go_sem, *]) rfl ?_
            exact ⟨by rw [HE1.out, HE2.out], (HS4.out.bel.setCell (by simp) _).setCell (by simp) _⟩
          · obtain ⟨e1, e2⟩ := HN'.out.unique (HY.out (.inr ⟨h, .inl h'⟩))
            have HE1 := hide e1
            have HE2 := hide e2
            clear e1 e2 HX HY HN'
            obtain rfl : X = Y := h
            go_wp2_with fail
            refine (HO2.out _).mono ?_
            rintro e w4 ⟨rfl, hb⟩
            have HS4 := hide (HS3.out.on hb)
            have r0 := HS4.out.ty.c0
            have r1 := HS4.out.ty.c1
            have r2 := HS4.out.ty.f0
            have r3 := HS4.out.ty.f1
            have d0 := (HS4.out.ty.set (ofF P Q).n ((ofF P Q).d - 1)).c0
            have d1 := (HS4.out.ty.set (ofF P Q).n ((ofF P Q).d - 1)).c1
            clear hb
            go_wp2_with fail
            refine bodyPost_ret (v := .tuple #[.agg #[.int .i64 (ofF P Q).n, .int .i64 ((ofF P Q).d - 1)], .int .i64 (ofF P Q).e]) (by simp [results, Tryd.results22, go_sem, *]) rfl ?_
            exact ⟨by rw [HE1.out, HE2.out], (HS4.out.bel.setCell (by simp) _).setCell (by simp) _⟩
          · obtain ⟨e1, e2⟩ := HN'.out.unique (HY.out (.inr ⟨h, .inr ⟨h', h''⟩⟩))
            have HE1 := hide e1
            have HE2 := hide e2
            clear e1 e2 HX HY HN'
            obtain rfl : X = Y := h
            obtain rfl : Q = q1 := h'
            go_wp2_with fail
            refine (HO2.out _).mono ?_
            rintro e w4 ⟨rfl, hb⟩
            have HS4 := hide (HS3.out.on hb)
            have r0 := HS4.out.ty.c0
            have r1 := HS4.out.ty.c1
            have r2 := HS4.out.ty.f0
            have r3 := HS4.out.ty.f1
            have d0 := (HS4.out.ty.set (ofF P Q).n ((ofF P Q).d - 1)).c0
            have d1 := (HS4.out.ty.set (ofF P Q).n ((ofF P Q).d - 1)).c1
            clear hb
            go_wp2_with fail
            refine bodyPost_ret (v := .tuple #[.agg #[.int .i64 (ofF P Q).n, .int .i64 ((ofF P Q).d - 1)], .int .i64 (ofF P Q).e]) (by simp [results, Tryd.results22, go_sem, *]) rfl ?_
            exact ⟨by rw [HE1.out, HE2.out], (HS4.out.bel.setCell (by simp) _).setCell (by simp) _⟩
          · obtain ⟨e1, e2⟩ := HN'.out.unique (HX.out (by omega))
            have HE1 := hide e1
            have HE2 := hide e2
            clear e1 e2 HX HY HN'
            go_wp2_with fail
            refine (HO1.out _).mono ?_
            rintro e w4 ⟨rfl, hb⟩
            have HS4 := hide (HS3.out.on hb)
            have r0 := HS4.out.ty.c0
            have r1 := HS4.out.ty.c1
            have r2 := HS4.out.ty.f0
            have r3 := HS4.out.ty.f1
            have d0 := (HS4.out.ty.set (ofF p1 q1).n ((ofF p1 q1).d - 1)).c0
            have d1 := (HS4.out.ty.set (ofF p1 q1).n ((ofF p1 q1).d - 1)).c1
            clear hb
            go_wp2_with fail
            refine bodyPost_ret (v := .tuple #[.agg #[.int .i64 (ofF p1 q1).n, .int .i64 ((ofF p1 q1).d - 1)], .int .i64 (ofF p1 q1).e]) (by simp [results, Tryd.results22, go_sem, *]) rfl ?_
            exact ⟨by rw [HE1.out, HE2.out], (HS4.out.bel.setCell (by simp) _).setCell (by simp) _⟩
          · obtain ⟨e1, e2⟩ := HN'.out.unique (HX.out (by omega))
            have HE1 := hide e1
            have HE2 := hide e2
            clear e1 e2 HX HY HN'
            obtain rfl : X = Y := h
            go_wp2_with fail
            refine (HO1.out _).mono ?_
            rintro e w4 ⟨rfl, hb⟩
            have HS4 := hide (HS3.out.on hb)
            have r0 := HS4.out.ty.c0
            have r1 := HS4.out.ty.c1
            have r2 := HS4.out.ty.f0
            have r3 := HS4.out.ty.f1
            have d0 := (HS4.out.ty.set (ofF p1 q1).n ((ofF p1 q1).d - 1)).c0
            have d1 := (HS4.out.ty.set (ofF p1 q1).n ((ofF p1 q1).d - 1)).c1
            clear hb
            go_wp2_with fail
            refine bodyPost_ret (v := .tuple #[.agg #[.int .i64 (ofF p1 q1).n, .int .i64 ((ofF p1 q1).d - 1)], .int .i64 (ofF p1 q1).e]) (by simp [results, Tryd.results22, go_sem, *]) rfl ?_
            exact ⟨by rw [HE1.out, HE2.out], (HS4.out.bel.setCell (by simp) _).setCell (by simp) _⟩
          · obtain ⟨e1, e2⟩ := HN'.out.unique (HX.out (by omega))
            have HE1 := hide e1
            have HE2 := hide e2
            clear e1 e2 HX HY HN'
            obtain rfl : X = Y := h
            obtain rfl : q1 = Q := h'.symm
            go_wp2_with fail
            refine (HO1.out _).mono ?_
            rintro e w4 ⟨rfl, hb⟩
            have HS4 := hide (HS3.out.on hb)
            have r0 := HS4.out.ty.c0
            have r1 := HS4.out.ty.c1
            have r2 := HS4.out.ty.f0
            have r3 := HS4.out.ty.f1
            have d0 := (HS4.out.ty.set (ofF p1 q1).n ((ofF p1 q1).d - 1)).c0
            have d1 := (HS4.out.ty.set (ofF p1 q1).n ((ofF p1 q1).d - 1)).c1
            clear hb
            go_wp2_with fail
            refine bodyPost_ret (v := .tuple #[.agg #[.int .i64 (ofF p1 q1).n, .int .i64 ((ofF p1 q1).d - 1)], .int .i64 (ofF p1 q1).e]) (by simp [results, Tryd.results22, go_sem, *]) rfl ?_
            exact ⟨by rw [HE1.out, HE2.out], (HS4.out.bel.setCell (by simp) _).setCell (by simp) _⟩

end Go.Proofs.YtfappkhohddcjaaDoor
