/- The law's solve; the law SpringSolves, walked. -/
import Derived.Test.YtcnejnaeahffhaaRSol30
namespace Go.Proofs.Ytcnejnaeahffhaa
open Go.RowKit

theorem solveout_unique {l : List Spr} {width : Int} {x y : List Int} (hn : ∀ s ∈ l, 0 ≤ s.n) (hx : SolveOut l width x) (hy : SolveOut l width y) : x = y := by
  by_cases hp : ∃ s ∈ l, 0 < s.n
  · exact (hx.bal hp).unique hn (hy.bal hp)
  · have hz : ∀ s ∈ l, s.n = 0 := fun s hs => by
      have := hn s hs
      rcases (show s.n = 0 ∨ 0 < s.n by omega) with h | h
      · exact h
      · exact absurd ⟨s, hs, h⟩ hp
    rw [hx.even hz, hy.even hz]

theorem solve_low {l : List Spr} (hn : ∀ s ∈ l, 0 ≤ s.n ∧ 0 ≤ s.m) (h0 : 0 < l.length) {width : Int} {x : List Int} (hx : SolveOut l width x) (hw : mins l ≤ width) {i : Nat} {s : Spr} {v : Int} (hs : l[i]? = some s) (hv : x[i]? = some v) : s.m ≤ v := by
  by_cases hp : ∃ s ∈ l, 0 < s.n
  · exact ((hx.bal hp).low i s v hs hv).1
  · have hz : ∀ s ∈ l, s.n = 0 := fun s hs => by
      have := (hn s hs).1
      rcases (show s.n = 0 ∨ 0 < s.n by omega) with h | h
      · exact h
      · exact absurd ⟨s, hs, h⟩ hp
    rw [hx.even hz, evenF_get l _ hs] at hv
    cases hv
    have : 0 ≤ (width - mins l) / (l.length : Int) := Int.ediv_nonneg (by omega) (by omega)
    split <;> omega

set_option maxRecDepth 100000 in
set_option maxHeartbeats 4000000 in
theorem lsolve_any (A : Option Addr) (n c : Nat) (l : List Spr) (r : Int) (w : World) (hn : n = l.length) (hm : n ≤ 8) (h0 : 0 < n) (h : Rds w w.heap.size A (sprs l)) (hok : ∀ s ∈ l, s.ok) (r0 : 0 ≤ r) (r1 : r ≤ 300) (hM1 : mins l ≤ 320) :
    Calls Try.prog 19 #[.slice A n c, .int .i64 r] w fun e w' => ∃ (g : Nat) (xs : List Int), e = .returned (.tuple #[.slice (some ⟨g, 0, none⟩) n n, .bool true]) ∧ Rds w' w'.heap.size (some ⟨g, 0, none⟩) (xs.map (Value.int .i64)) ∧ SolveOut l (mins l + r) xs ∧ Below w.heap.size w w' := by
  have HN := hide hn
  have HR := hide h
  have HOK := hide hok
  have HNM := hide (show ∀ s ∈ l, 0 ≤ s.n ∧ 0 ≤ s.m from fun s hs => ⟨(Spr.ok_of (hok s hs)).1, (Spr.ok_of (hok s hs)).2.2.1⟩)
  have hmb := mins_bnd l hok
  obtain ⟨M, hM⟩ : ∃ M, M = mins l := ⟨_, rfl⟩
  rw [← hM] at hmb hM1
  rw [← hM]
  have HM := hide hM
  have i3 : IntKind.i64.wrap (M + r) = M + r := IntWalk.i64_in _ (by omega)
  have HFE := hide (show fitErr l (M + r) = 0 by
    have hsp : spErr l = 0 := by rw [spErr, if_neg (by omega), if_pos hok]
    rw [fitErr, if_neg (by rw [hsp]; simp), if_neg (by omega), if_neg (by omega)])
  have HT := hide (fun W (hW : Rds W W.heap.size A (sprs l)) => show Calls Try.prog 14 #[.slice A n c, .int .i64 0, .int .i64 1] W fun e w' => e = .returned (.int .i64 M) ∧ Below W.heap.size W w' from by
    have := rtotal_any A n c l 0 1 W HN.out (by omega) hW HOK.out (by omega) (by omega) (by omega) (by omega)
    rw [lens_zero fun s hs => (HNM.out s hs).2, ← hM] at this
    exact this)
  have HMW := hide (show mins l ≤ M + r by omega)
  clear hn h hok hM
  go_enter Try.func19, Try.ntmps19
  go_wp2_with fail
  refine (HT.out _ HR.out).mono ?_
  rintro e w2 ⟨rfl, hb⟩
  have HB2 := hide hb
  clear hb
  go_wp2_with fail
  refine (own_any A n c l _ HN.out (by omega) (Rds.on2 HR.out HB2.out)).mono ?_
  rintro e w3 ⟨A3, c3, rfl, hr3, hb⟩
  have HB3 := hide (find1_tr HB2.out hb)
  clear hb
  go_wp2_with fail
  refine (Solve_ok A3 n c3 l (M + r) _ HN.out h0 hr3 HFE.out).mono ?_
  rintro e w4 ⟨g, xs, rfl, hrx, hso, hb⟩
  have HB4 := hide (find1_tr HB3.out hb)
  have HRX := hide hrx
  have HSO := hide hso
  have HSUM := hide (solve_sum HNM.out (by have := HN.out; omega) hso HMW.out)
  have HXL := hide (show xs.length = n by rw [hso.len]; exact HN.out.symm)
  clear hb hr3 hrx hso
  go_wp2_with fail
  go_loopg [4, 8, 9] n (fun gk s4 s8 i wr => ∃ k : Nat, k ≤ n ∧ i = .int .i64 k ∧ n ≤ gk + k ∧ s4 = .slice (some ⟨g, 0, none⟩) n n ∧ s8 = .int .i64 (xs.take k).sum ∧ Hid (Below w4.heap.size w4 wr))
  case atStart => exact ⟨0, Nat.zero_le _, rfl, by omega, rfl, by simp, Below.refl _ _⟩
  case round =>
    obtain ⟨k, hk, rfl, hgk, rfl, rfl, HB⟩ := hrel
    by_cases hlt : k < n
    · obtain ⟨x, hx⟩ : ∃ x, xs[k]? = some x := ⟨_, List.getElem?_eq_getElem (by have := HXL.out; omega)⟩
      obtain ⟨s, hs⟩ : ∃ s, l[k]? = some s := ⟨_, List.getElem?_eq_getElem (by have := HN.out; omega)⟩
      obtain ⟨bx, ox, e1, hbx, d0⟩ := (Rds.on2 HRX.out HB.out).int hx
      simp only [Option.some.injEq, Addr.mk.injEq, and_true] at e1
      obtain ⟨rfl, rfl⟩ := e1
      rw [Nat.zero_add] at d0
      obtain ⟨bl, ol, rfl, hbl, -, d2⟩ := (Rds.on2 (Rds.on2 HR.out HB4.out) HB.out).spr hs
      have hlow := solve_low HNM.out (by have := HN.out; omega) HSO.out HMW.out hs hx
      have hx0 := HSUM.out.1 x (List.mem_of_getElem? hx)
      have s1 := take_sum_le HSUM.out.1 k
      have s2 := take_sum_le HSUM.out.1 (k + 1)
      have s3 : (xs.take (k + 1)).sum = (xs.take k).sum + x := by rw [List.take_add_one, hx, Option.toList_some, List.sum_append]; simp
      have s4 := HSUM.out.2
      obtain ⟨a, ha⟩ : ∃ a, a = (xs.take k).sum := ⟨_, rfl⟩
      have HNEW := hide (show (xs.take (k + 1)).sum = a + x by rw [s3, ha])
      rw [← ha] at s1 s3
      rw [← ha]
      have j1 : IntKind.i64.wrap (k : Int) = (k : Int) := IntWalk.i64_in _ (by omega)
      have j3 : ((k : Int)).toNat = k := by omega
      have j4 : (0 : Int) ≤ (k : Int) := by omega
      have j5 : (k : Int) < (n : Int) := by omega
      have j6 : ¬ x < s.m := by omega
      have j7 : IntKind.i64.wrap (a + x) = a + x := IntWalk.i64_in _ (by omega)
      clear hx hs hlow s1 s2 s3 s4 ha
      go_wp2_with fail
      go_quiet (fail)
      go_wp2_with fail
      go_roundg (gk - 1)
      case measure => omega
      case rel => exact ⟨k + 1, by omega, by go_num, by omega, rfl, by rw [HNEW.out], hide (below_drewN HB.out _)⟩
    · have hkn : k = n := by omega
      subst hkn
      have hs : (xs.take k).sum = M + r := by rw [List.take_of_length_le (by have := HXL.out; omega)]; exact HSUM.out.2
      rw [hs]
      clear hs
      go_wp2_with fail
      go_ret2
      exact ⟨g, xs, rfl, Rds.on2 HRX.out HB.out, HSO.out, find1_tr HB4.out HB.out⟩

set_option maxRecDepth 100000 in
set_option maxHeartbeats 4000000 in
theorem solves_law (A : Option Addr) (n c : Nat) (x : List P2) (b : Int) (w : World) (hb0 : 0 ≤ b) (hb1 : b ≤ 65535) (hn : n = x.length) (h : Rds w w.heap.size A (x.flatMap P2.cells)) (hwf : ∀ p ∈ x, P2.wf w p) :
    Calls Try.prog 4 #[.slice A n c, .int .u16 b] w fun e w' => e = .returned (.bool true) ∧ Below w.heap.size w w' := by
  have HS := hide (small_any A n c x w hn h hwf)
  obtain ⟨l, hl⟩ : ∃ l, l = smallL x := ⟨_, rfl⟩
  have hok := smallL_ok x
  have hmn := smallL_mins x
  have hln := smallL_len x
  have hme : ∀ s ∈ smallL x, 0 ≤ s.n ∧ s.n ≤ 60 ∧ 0 ≤ s.m ∧ s.m ≤ 40 := fun s hs => smallL_mem hs
  rw [← hl] at HS hok hmn hln hme
  have HOK := hide hok
  have HME := hide hme
  have HNM := hide (show ∀ s ∈ l, 0 ≤ s.n ∧ 0 ≤ s.m from fun s hs => ⟨(Spr.ok_of (hok s hs)).1, (Spr.ok_of (hok s hs)).2.2.1⟩)
  obtain ⟨m, hm⟩ : ∃ m, m = l.length := ⟨_, rfl⟩
  rw [← hm] at HS hln
  have HM := hide hm
  have HMB := hide hmn
  obtain ⟨M, hM⟩ : ∃ M, M = mins l := ⟨_, rfl⟩
  rw [← hM] at hmn
  obtain ⟨r, hr⟩ : ∃ r : Nat, (r : Int) = b % 301 := ⟨(b % 301).toNat, by omega⟩
  have r1 : r ≤ 300 := by omega
  have i0 : IntKind.i64.wrap b = b := IntWalk.i64_in _ (by omega)
  have i1 : b.tmod 301 = (r : Int) := by rw [hr]; exact Int.tmod_eq_emod_of_nonneg hb0
  have i2 : IntKind.i64.wrap (r : Int) = (r : Int) := IntWalk.i64_in _ (by omega)
  have i3 : IntKind.i64.wrap (M + (r : Int)) = M + (r : Int) := IntWalk.i64_in _ (by omega)
  have HMM := hide hM
  have HT := hide (fun (A2 : Option Addr) (c2 : Nat) W (hW : Rds W W.heap.size A2 (sprs l)) => show Calls Try.prog 14 #[.slice A2 m c2, .int .i64 0, .int .i64 1] W fun e w' => e = .returned (.int .i64 M) ∧ Below W.heap.size W w' from by
    have := rtotal_any A2 m c2 l 0 1 W HM.out (by omega) hW HOK.out (by omega) (by omega) (by omega) (by omega)
    rw [lens_zero fun s hs => (HNM.out s hs).2, ← hM] at this
    exact this)
  clear hl hok hm hM hr hn h hwf hme
  go_enter Try.func4, Try.ntmps4
  go_wp2_with fail
  refine HS.out.mono ?_
  rintro e w1 ⟨A1, c1, rfl, hr1, hb⟩
  have HB1 := hide hb
  have HR1 := hide hr1
  clear hb hr1
  go_wp2_with fail
  refine (known_any _).mono ?_
  rintro e w2 ⟨rfl, hb⟩
  have HB2 := hide (find1_tr HB1.out hb)
  have HR2 := hide (Rds.on2 HR1.out hb)
  clear hb
  rcases (show m = 0 ∨ 0 < m by omega) with hm0 | hm0
  · subst hm0
    go_wp2_with fail
    refine (known_any _).mono ?_
    rintro e w3 ⟨rfl, hb⟩
    have HB3 := hide (find1_tr HB2.out hb)
    clear hb
    go_wp2_with fail
    go_ret
    exact ⟨rfl, HB3.out⟩
  · have hz : ((m : Int) == 0) = false := by simp; omega
    go_wp2_with fail
    refine (lsolve_any A1 m c1 l (r : Int) _ HM.out (by omega) hm0 HR2.out HOK.out (by omega) (by omega) HMB.out.2).mono ?_
    rintro e w3 ⟨g, xs, rfl, hrx, hso, hb⟩
    have HB3 := hide (find1_tr HB2.out hb)
    have HR3 := hide (Rds.on2 HR2.out hb)
    have HRX := hide hrx
    have HSO := hide hso
    have HXL := hide (show xs.length = m by rw [hso.len]; exact HM.out.symm)
    clear hb hrx hso
    go_wp2_with fail
    refine (HT.out A1 c1 _ HR3.out).mono ?_
    rintro e w4 ⟨rfl, hb⟩
    have HB4 := hide (find1_tr HB3.out hb)
    have HR4 := hide (Rds.on2 HR3.out hb)
    have HRX4 := hide (Rds.on2 HRX.out hb)
    clear hb
    have hrs := rsolve_any A1 m c1 l r w4 HM.out (by omega) hm0 HR4.out HME.out r1
    rw [← HMM.out] at hrs
    have HRS := hide hrs
    clear hrs
    go_wp2_with fail
    refine HRS.out.mono ?_
    rintro e w5 ⟨A5, c5, ys, rfl, hry, hsy, hb⟩
    obtain rfl : ys = xs := solveout_unique (fun s hs => (HNM.out s hs).1) hsy (by rw [HMM.out]; exact HSO.out)
    have HB5 := hide (find1_tr HB4.out hb)
    have HRX5 := hide (Rds.on2 HRX4.out hb)
    have HRY := hide hry
    clear hb hry hsy
    go_wp2_with fail
    go_loopg [10] m (fun gk i wr => ∃ k : Nat, k ≤ m ∧ i = .int .i64 k ∧ m ≤ gk + k ∧ Hid (Below w5.heap.size w5 wr))
    case atStart => exact ⟨0, Nat.zero_le _, rfl, by omega, Below.refl _ _⟩
    case round =>
      obtain ⟨k, hk, rfl, hgk, HB⟩ := hrel
      by_cases hlt : k < m
      · obtain ⟨v, hv⟩ : ∃ v, ys[k]? = some v := ⟨_, List.getElem?_eq_getElem (by have := HXL.out; omega)⟩
        obtain ⟨bx, ox, e1, hbx, d0⟩ := (Rds.on2 HRX5.out HB.out).int hv
        simp only [Option.some.injEq, Addr.mk.injEq, and_true] at e1
        obtain ⟨rfl, rfl⟩ := e1
        rw [Nat.zero_add] at d0
        obtain ⟨by_, oy, rfl, hby, d1⟩ := (Rds.on2 HRY.out HB.out).int hv
        have j1 : IntKind.i64.wrap (k : Int) = (k : Int) := IntWalk.i64_in _ (by omega)
        have j3 : ((k : Int)).toNat = k := by omega
        have j4 : (0 : Int) ≤ (k : Int) := by omega
        have j5 : (k : Int) < (m : Int) := by omega
        clear hv
        go_wp2_with fail
        go_quiet (fail)
        go_wp2_with fail
        go_roundg (gk - 1)
        case measure => omega
        case rel => exact ⟨k + 1, by omega, by go_num, by omega, hide (below_drewN HB.out _)⟩
      · go_wp2_with fail
        go_ret
        exact ⟨rfl, find1_tr HB5.out HB.out⟩

theorem springSolves_walk {w : World} (a : Sl P2) (ha : Sl.Good P2.cells P2.wf w a) (y : Int) (hy : (Lit.int .u16 y).wf = true) :
    Calls Try.prog 4 #[.slice a.A a.n a.c, .int .u16 y] w fun e w' => e = .returned (.bool true) ∧ Below w.heap.size w w' := by
  have h2 : 0 ≤ y ∧ y ≤ 65535 := by
    have h : IntKind.u16.min ≤ y ∧ y ≤ IntKind.u16.max := by simpa [Lit.wf] using hy
    exact h
  exact solves_law a.A a.n a.c a.l y w h2.1 h2.2 ha.len ha.rds ha.all

end Go.Proofs.Ytcnejnaeahffhaa
