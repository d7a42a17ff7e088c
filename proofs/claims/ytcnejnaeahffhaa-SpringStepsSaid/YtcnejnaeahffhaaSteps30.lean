/- The law SpringSteps, walked. -/
import Derived.Test.YtcnejnaeahffhaaPlaces30
import Derived.Test.YtcnejnaeahffhaaTot30
import Derived.Test.YtcnejnaeahffhaaSpEven
namespace Go.Proofs.Ytcnejnaeahffhaa
open Go.RowKit

theorem lens_mins {l : List Spr} {p q : Int} : mins l ≤ lens l p q := by
  induction l with
  | nil => simp [mins, lens]
  | cons s l ih =>
    have e : mins (s :: l) = s.m + mins l := by simp [mins]
    rw [lens_cons, e]
    have := lenF_low s p q
    omega

set_option maxRecDepth 100000 in
set_option maxHeartbeats 2000000 in
theorem steps_law (A : Option Addr) (n c : Nat) (l : List Spr) (a b : Int) (w : World) (ha0 : 0 ≤ a) (ha1 : a ≤ 255) (hb0 : 0 ≤ b) (hb1 : b ≤ 65535) (hn : n = l.length) (h : Rds w w.heap.size A (sprs l)) :
    Calls Try.prog 8 #[.slice A n c, .int .u8 a, .int .u16 b] w fun e w' => e = .returned (.bool true) ∧ Below w.heap.size w w' := by
  have HN := hide hn
  have HR := hide h
  clear hn h
  have ka : IntKind.i64.wrap a = a := IntWalk.i64_in _ (by omega)
  have kb : IntKind.i64.wrap b = b := IntWalk.i64_in _ (by omega)
  rcases (show n = 0 ∨ 8 < n ∨ (0 < n ∧ n ≤ 8) by omega) with h30 | h30 | ⟨h29, h30⟩
  · subst h30
    go_enter Try.func8, Try.ntmps8
    have HB0 := hide (Below.refl w.heap.size w)
    go_wp2_with fail
    refine (known_any _).mono ?_
    rintro e w1 ⟨rfl, hb⟩
    have HB1 := hide (find1_tr HB0.out hb)
    clear hb
    go_wp2_with fail
    refine (known_any _).mono ?_
    rintro e w2 ⟨rfl, hb⟩
    have HB2 := hide (find1_tr HB1.out hb)
    clear hb
    go_wp2_with fail
    go_ret
    exact ⟨rfl, HB2.out⟩
  · have hz : ((n : Int) == 0) = false := by simp; omega
    go_enter Try.func8, Try.ntmps8
    have HB0 := hide (Below.refl w.heap.size w)
    go_wp2_with fail
    refine (known_any _).mono ?_
    rintro e w1 ⟨rfl, hb⟩
    have HB1 := hide (find1_tr HB0.out hb)
    clear hb
    go_wp2_with fail
    refine (known_any _).mono ?_
    rintro e w2 ⟨rfl, hb⟩
    have HB2 := hide (find1_tr HB1.out hb)
    clear hb
    go_wp2_with fail
    go_ret
    exact ⟨rfl, HB2.out⟩
  · have hz : ((n : Int) == 0) = false := by simp; omega
    by_cases he : spErr l = 0
    · have HE := hide he
      have HOK := hide (spErr_all l he).2
      have HNM := hide (show ∀ s ∈ l, 0 ≤ s.n ∧ 0 ≤ s.m from fun s hs => ⟨(Spr.ok_of (HOK.out s hs)).1, (Spr.ok_of (HOK.out s hs)).2.2.1⟩)
      obtain ⟨j, hj⟩ : ∃ j : Nat, (j : Int) = a % (n : Int) := ⟨(a % (n : Int)).toNat, by have := Int.emod_nonneg a (show (n : Int) ≠ 0 by omega); omega⟩
      have hjn : j < n := by have := Int.emod_lt_of_pos a (show (0 : Int) < n by omega); omega
      have i1 : a.tmod (n : Int) = (j : Int) := by rw [hj]; exact Int.tmod_eq_emod_of_nonneg ha0
      have i2 : IntKind.i64.wrap (j : Int) = (j : Int) := IntWalk.i64_in _ (by omega)
      have i3 : ¬ (n : Int) = 0 := by omega
      have i4 : ((j : Int)).toNat = j := by omega
      have i5 : (0 : Int) ≤ (j : Int) := by omega
      have i6 : (j : Int) < (n : Int) := by omega
      obtain ⟨s, hs⟩ : ∃ s, l[j]? = some s := ⟨_, List.getElem?_eq_getElem (by have := HN.out; omega)⟩
      have HS := hide hs
      have HSM := hide (List.mem_of_getElem? hs)
      obtain ⟨s0, s1, s2, s3⟩ := Spr.ok_of (HOK.out s HSM.out)
      clear he hj hs
      rcases (show s.n = 0 ∨ 0 < s.n by omega) with hn0 | hn0
      · go_enter Try.func8, Try.ntmps8
        have HB0 := hide (Below.refl w.heap.size w)
        go_wp2_with fail
        refine (known_any _).mono ?_
        rintro e w1 ⟨rfl, hb⟩
        have HB1 := hide (find1_tr HB0.out hb)
        clear hb
        go_wp2_with fail
        refine (rcheck_any A n c l _ HN.out (by omega) (Rds.on2 HR.out HB1.out)).mono ?_
        rw [HE.out]
        rintro e w101 ⟨rfl, rfl⟩
        obtain ⟨b0, o0, rfl, hbB, c0, -⟩ := (Rds.on2 HR.out HB1.out).spr HS.out
        rw [hn0] at c0
        go_wp2_with fail
        go_ret
        exact ⟨rfl, HB1.out⟩
      · have hx0 : (s.n == 0) = false := by simp; omega
        have hbx0 : 0 ≤ b * s.n := Int.mul_nonneg hb0 s0
        have hbx1 : b * s.n ≤ 65535 * 1048576 := Int.mul_le_mul hb1 s1 s0 (by omega)
        obtain ⟨num, hnum⟩ : ∃ num, num = b * s.n / 8192 := ⟨_, rfl⟩
        have n0 : 0 ≤ num := by rw [hnum]; exact Int.ediv_nonneg hbx0 (by omega)
        have n1 : num ≤ 8388608 := by rw [hnum]; have := Int.ediv_le_of_le_mul (a := b * s.n) (b := 8388608) (show (0 : Int) < 8192 by omega) (by omega); omega
        have j1 : IntKind.i64.wrap (b * s.n) = b * s.n := IntWalk.i64_in _ (by omega)
        have j2 : (b * s.n).tdiv 8192 = num := by rw [hnum]; exact Int.tdiv_eq_ediv_of_nonneg hbx0
        have j3 : IntKind.i64.wrap num = num := IntWalk.i64_in _ (by omega)
        have HOF := hide (show okF num s.n from ⟨n0, by omega, hn0, by omega⟩)
        obtain ⟨T, hT⟩ : ∃ T, T = lens l num s.n := ⟨_, rfl⟩
        have HT := hide hT
        clear hnum hT hbx0 hbx1
        go_enter Try.func8, Try.ntmps8
        have HB0 := hide (Below.refl w.heap.size w)
        go_wp2_with fail
        refine (known_any _).mono ?_
        rintro e w1 ⟨rfl, hb⟩
        have HB1 := hide (find1_tr HB0.out hb)
        clear hb
        go_wp2_with fail
        refine (rcheck_any A n c l _ HN.out (by omega) (Rds.on2 HR.out HB1.out)).mono ?_
        rw [HE.out]
        rintro e w101 ⟨rfl, rfl⟩
        obtain ⟨b0, o0, rfl, hbB, c0, -⟩ := (Rds.on2 HR.out HB1.out).spr HS.out
        go_wp2_with fail
        refine (own_any (some ⟨b0, o0, none⟩) n c l _ HN.out (by omega) (Rds.on2 HR.out HB1.out)).mono ?_
        rintro e w2 ⟨A1, c1, rfl, hr1, hb⟩
        have HB2 := hide (find1_tr HB1.out hb)
        clear hb
        go_wp2_with fail
        refine (Total_ok (A1) n c1 l num s.n _ HN.out hr1 HE.out HOF.out).mono ?_
        rw [← HT.out]
        rintro e w3 ⟨rfl, hb⟩
        have HB3 := hide (find1_tr HB2.out hb)
        clear hb
        rcases (show 67108864 < T ∨ T ≤ 67108864 by omega) with hTw | hTw
        · go_wp2_with fail
          go_ret
          exact ⟨rfl, HB3.out⟩
        · have hT0 : mins l ≤ T := by rw [HT.out]; exact lens_mins
          have hmb := mins_bnd l HOK.out
          have HF0 := hide (show fitErr l T = 0 by rw [fitErr, if_neg (by rw [HE.out]; simp), if_neg (by omega), if_neg (by omega)])
          clear hT0 hmb c0
          go_wp2_with fail
          refine (own_any (some ⟨b0, o0, none⟩) n c l _ HN.out (by omega) (Rds.on2 HR.out HB3.out)).mono ?_
          rintro e w4 ⟨A3, c3, rfl, hr3, hb⟩
          have HB4 := hide (find1_tr HB3.out hb)
          clear hb
          go_wp2_with fail
          refine (Solve_ok A3 n c3 l T _ HN.out h29 hr3 HF0.out).mono ?_
          rintro e w5 ⟨g1, xs, rfl, hrx, hsx, hb⟩
          have HB5 := hide (find1_tr HB4.out hb)
          clear hb
          have HRX := hide hrx
          have HXS := hide (atStep HNM.out HSM.out hn0 (by omega) (x := xs) (p := num) (q := s.n) (by rw [← HT.out]; exact hsx))
          clear hrx hsx
          go_wp2_with fail
          go_loopg [13] n (fun gk i wr => ∃ k : Nat, k ≤ n ∧ i = .int .i64 k ∧ n ≤ gk + k ∧ Hid (Below w5.heap.size w5 wr))
          case atStart => exact ⟨0, Nat.zero_le _, rfl, by omega, Below.refl _ _⟩
          case round =>
            obtain ⟨k, hk, rfl, hgk, HB⟩ := hrel
            by_cases hlt : k < n
            · obtain ⟨x, hx⟩ : ∃ x, l[k]? = some x := ⟨_, List.getElem?_eq_getElem (by have := HN.out; omega)⟩
              obtain ⟨v, hv⟩ : ∃ v, v = lenF x num s.n := ⟨_, rfl⟩
              have hxv : xs[k]? = some v := by rw [HXS.out, List.getElem?_map, hx, hv]; rfl
              obtain ⟨bx, ox, e1, hbx, d0⟩ := (Rds.on2 HRX.out HB.out).int hxv
              simp only [Option.some.injEq, Addr.mk.injEq, and_true] at e1
              obtain ⟨rfl, rfl⟩ := e1
              rw [Nat.zero_add] at d0
              obtain ⟨bl, ol, e2, hbl, d1, d2⟩ := (Rds.on2 (Rds.on2 HR.out HB5.out) HB.out).spr hx
              simp only [Option.some.injEq, Addr.mk.injEq, and_true] at e2
              obtain ⟨rfl, rfl⟩ := e2
              have HXO := hide (HOK.out x (List.mem_of_getElem? hx))
              have HL := hide (fun W => show Calls Try.prog 27 #[.agg #[.int .i64 x.n, .int .i64 x.m], .int .i64 num, .int .i64 s.n] W fun e w' => e = .returned (.int .i64 v) ∧ Below W.heap.size W w' from by rw [hv]; exact rlength_any x num s.n W HXO.out n0 (by omega) (by omega) (by omega))
              have D0 := hide d0
              have D1 := hide d1
              have D2 := hide d2
              have m1 : IntKind.i64.wrap (k : Int) = (k : Int) := IntWalk.i64_in _ (by omega)
              have m3 : ((k : Int)).toNat = k := by omega
              have m4 : (0 : Int) ≤ (k : Int) := by omega
              have m5 : (k : Int) < (n : Int) := by omega
              clear hx hv hxv
              go_upto_region 16 with fail
              go_region_held3 (fun w' => w'.cell? ⟨g1, k, none⟩ = some (.int .i64 v) ∧ w'.cell? ⟨g1, k, none⟩ = some (.int .i64 v) ∧ w'.cell? ⟨b0, o0 + k * 2, none⟩ = some (.int .i64 x.n) ∧ w'.cell? ⟨b0, o0 + k * 2 + 1, none⟩ = some (.int .i64 x.m) ∧ Below wr.heap.size wr w')
                (first | (go_keep; done) | (exact keep4 (Below.drew (Below.refl _ _)) hbx hbx hbl hbl D0.out D0.out D1.out D2.out) | (exact keep4 (find1_tr (below5 (by assumption)) (by assumption)) hbx hbx hbl hbl D0.out D0.out D1.out D2.out) | (exact keep4 (Below.drew (below5 (by assumption))) hbx hbx hbl hbl D0.out D0.out D1.out D2.out))
                (first | (go_at_call 27; refine (HL.out _).mono ?_; rintro e w' ⟨rfl, hb'⟩))
              all_goals
                have hB7 := below5 (show _ by assumption)
                have HB7 := hide (find1_tr HB.out hB7)
                clear hB7 hb'
                go_wp2_with fail
                go_roundg (gk - 1)
                case measure => omega
                case rel => exact ⟨k + 1, by omega, by go_num, by omega, HB7⟩
            · go_wp2_with fail
              go_ret
              exact ⟨rfl, find1_tr HB5.out HB.out⟩
    · obtain ⟨r, hr⟩ : ∃ r, r = spErr l := ⟨_, rfl⟩
      have hr2 : (r != 0) = true := by rw [hr]; simpa using he
      have HRR := hide hr
      clear he hr
      go_enter Try.func8, Try.ntmps8
      have HB0 := hide (Below.refl w.heap.size w)
      go_wp2_with fail
      refine (known_any _).mono ?_
      rintro e w1 ⟨rfl, hb⟩
      have HB1 := hide (find1_tr HB0.out hb)
      clear hb
      go_wp2_with fail
      refine (rcheck_any A n c l _ HN.out (by omega) (Rds.on2 HR.out HB1.out)).mono ?_
      rw [← HRR.out]
      rintro e w101 ⟨rfl, rfl⟩
      go_wp2_with fail
      refine (known_any _).mono ?_
      rintro e w2 ⟨rfl, hb⟩
      have HB2 := hide (find1_tr HB1.out hb)
      clear hb
      go_wp2_with fail
      go_ret
      exact ⟨rfl, HB2.out⟩

theorem springSteps_walk {w : World} (a : Sl Spr) (ha : Sl.Good Spr.cells Spr.wf w a) (x : Int) (hx : (Lit.int .u8 x).wf = true) (y : Int) (hy : (Lit.int .u16 y).wf = true) :
    Calls Try.prog 8 #[.slice a.A a.n a.c, .int .u8 x, .int .u16 y] w fun e w' => e = .returned (.bool true) ∧ Below w.heap.size w w' := by
  have h1 : 0 ≤ x ∧ x ≤ 255 := by
    have h : IntKind.u8.min ≤ x ∧ x ≤ IntKind.u8.max := by simpa [Lit.wf] using hx
    exact h
  have h2 : 0 ≤ y ∧ y ≤ 65535 := by
    have h : IntKind.u16.min ≤ y ∧ y ≤ IntKind.u16.max := by simpa [Lit.wf] using hy
    exact h
  exact steps_law a.A a.n a.c a.l x y w h1.1 h1.2 h2.1 h2.2 ha.len ha.rds

end Go.Proofs.Ytcnejnaeahffhaa
