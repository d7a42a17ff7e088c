/- spring.Length, Total; the law SpringTotals, walked. -/
import Derived.Test.YtcnejnaeahffhaaRef30
import Derived.Test.YtcnejnaeahffhaaDec30
namespace Go.Proofs.Ytcnejnaeahffhaa
open Go.RowKit

def okF (num den : Int) : Prop := 0 ≤ num ∧ num ≤ 268435456 ∧ 1 ≤ den ∧ den ≤ 268435456
theorem notF {num den : Int} (h : ¬ okF num den) : num < 0 ∨ (0 ≤ num ∧ 268435456 < num) ∨ (0 ≤ num ∧ num ≤ 268435456 ∧ den < 1) ∨ (0 ≤ num ∧ num ≤ 268435456 ∧ 1 ≤ den ∧ 268435456 < den) := by unfold okF at h; omega
theorem isF {num den : Int} (h : okF num den) : 0 ≤ num ∧ num ≤ 268435456 ∧ 1 ≤ den ∧ den ≤ 268435456 := h
def cfErr (num den : Int) : Int := if num < 0 ∨ 268435456 < num ∨ den < 1 ∨ 268435456 < den then 2 else 0

set_option maxHeartbeats 1000000 in
theorem checkForce_any (num den : Int) (w : World) : Calls Try.prog 41 #[.int .i64 num, .int .i64 den] w fun e w' => e = .returned (.int .i64 (cfErr num den)) ∧ w = w' := by
  by_cases h : okF num den
  · obtain ⟨h1, h2, h3, h4⟩ := isF h
    have HE := hide (show cfErr num den = 0 by rw [cfErr, if_neg (by omega)])
    clear h
    go_enter Try.func41, Try.ntmps41
    go_wp2_with fail
    go_ret
    exact ⟨ret_int HE.out.symm, rfl⟩
  · have HE := hide (show cfErr num den = 2 by have := notF h; rw [cfErr, if_pos (by omega)])
    rcases notF h with h1 | ⟨h1, h2⟩ | ⟨h1, h2, h3⟩ | ⟨h1, h2, h3, h4⟩
    all_goals
      clear h
      go_enter Try.func41, Try.ntmps41
      go_wp2_with fail
      go_ret
      exact ⟨ret_int HE.out.symm, rfl⟩

set_option maxHeartbeats 1000000 in
theorem Total_err (A : Option Addr) (n c : Nat) (l : List Spr) (num den : Int) (w : World) (hn : n = l.length) (hm : n ≤ 9223372036854775807) (h : Rds w w.heap.size A (sprs l)) (he : spErr l ≠ 0) :
    Calls Try.prog 26 #[.slice A n c, .int .i64 num, .int .i64 den] w fun e w' => e = .returned (.tuple #[.int .i64 0, .int .i64 (spErr l)]) ∧ Below w.heap.size w w' := by
  have HC := hide (spCheck_any A n c l w hn hm h)
  obtain ⟨r, hr⟩ : ∃ r, r = spErr l := ⟨_, rfl⟩
  have hr2 : (r != 0) = true := by rw [hr]; simpa using he
  rw [← hr] at HC
  rw [← hr]
  clear hn h he hr
  go_enter Try.func26, Try.ntmps26
  go_wp2_with fail
  refine HC.out.mono ?_
  rintro e w1 ⟨rfl, hb1⟩
  go_wp2_with fail
  go_ret2
  exact ⟨rfl, hb1⟩

set_option maxHeartbeats 1000000 in
theorem Total_bad (A : Option Addr) (n c : Nat) (l : List Spr) (num den : Int) (w : World) (hn : n = l.length) (hm : n ≤ 9223372036854775807) (h : Rds w w.heap.size A (sprs l)) (he : spErr l = 0) (hf : cfErr num den = 2) :
    Calls Try.prog 26 #[.slice A n c, .int .i64 num, .int .i64 den] w fun e w' => e = .returned (.tuple #[.int .i64 0, .int .i64 2]) ∧ Below w.heap.size w w' := by
  have HC := hide (spCheck_any A n c l w hn hm h)
  rw [he] at HC
  have HF := hide hf
  clear hn h he hf
  go_enter Try.func26, Try.ntmps26
  go_wp2_with fail
  refine HC.out.mono ?_
  rintro e w1 ⟨rfl, hb1⟩
  go_wp2_with fail
  refine (checkForce_any num den _).mono ?_
  rw [HF.out]
  rintro e w2 ⟨rfl, rfl⟩
  go_wp2_with fail
  go_ret2
  exact ⟨rfl, hb1⟩

set_option maxHeartbeats 1000000 in
theorem Total_ok (A : Option Addr) (n c : Nat) (l : List Spr) (num den : Int) (w : World) (hn : n = l.length) (h : Rds w w.heap.size A (sprs l)) (he : spErr l = 0) (hf : okF num den) :
    Calls Try.prog 26 #[.slice A n c, .int .i64 num, .int .i64 den] w fun e w' => e = .returned (.tuple #[.int .i64 (lens l num den), .int .i64 0]) ∧ Below w.heap.size w w' := by
  obtain ⟨hl8, hok⟩ := spErr_all l he
  obtain ⟨h1, h2, h3, h4⟩ := isF hf
  have HN := hide hn
  have HR := hide h
  have HOK := hide hok
  have hn2 : n ≤ 8192 := by omega
  have HC := hide (spCheck_any A n c l w hn (by omega) h)
  rw [he] at HC
  have HF := hide (show cfErr num den = 0 by rw [cfErr, if_neg (by omega)])
  clear hn h he hf hok hl8
  go_enter Try.func26, Try.ntmps26
  go_wp2_with fail
  refine HC.out.mono ?_
  rintro e w1 ⟨rfl, hb1⟩
  go_wp2_with fail
  refine (checkForce_any num den _).mono ?_
  rw [HF.out]
  rintro e w2 ⟨rfl, rfl⟩
  go_wp2_with fail
  refine (total_any A n c l num den _ HN.out hn2 (Rds.on2 HR.out hb1) HOK.out h1 h2 h3 h4).mono ?_
  rintro e w3 ⟨rfl, hb3⟩
  have hb := find1_tr hb1 hb3
  clear hb1 hb3
  go_wp2_with fail
  go_ret2
  exact ⟨rfl, hb⟩

set_option maxHeartbeats 1000000 in
theorem Length_ok (s : Spr) (num den : Int) (w : World) (hs : s.ok) (hf : okF num den) :
    Calls Try.prog 31 #[.agg #[.int .i64 s.n, .int .i64 s.m], .int .i64 num, .int .i64 den] w fun e w' => e = .returned (.tuple #[.int .i64 (lenF s num den), .int .i64 0]) ∧ Below w.heap.size w w' := by
  obtain ⟨h1, h2, h3, h4⟩ := isF hf
  have HS := hide hs
  have HF := hide (show cfErr num den = 0 by rw [cfErr, if_neg (by omega)])
  have HE := hide (show spErr [s] = 0 by
    rw [spErr, if_neg (by simp), if_pos]
    intro t ht
    obtain rfl := List.mem_singleton.1 ht
    exact hs)
  clear hs hf
  go_enter Try.func31, Try.ntmps31
  go_wp2_with fail
  have hb0 : Below w.heap.size w ((w.alloc (.cells #[.int .i64 s.n, .int .i64 s.m] 46)).alloc (.cells #[.int .i64 s.n, .int .i64 s.m] 46)) := ((Below.refl _ w).alloc (Nat.le_refl _) _).alloc (by simp) _
  have hr0 : Rds ((w.alloc (.cells #[.int .i64 s.n, .int .i64 s.m] 46)).alloc (.cells #[.int .i64 s.n, .int .i64 s.m] 46)) ((w.alloc (.cells #[.int .i64 s.n, .int .i64 s.m] 46)).alloc (.cells #[.int .i64 s.n, .int .i64 s.m] 46)).heap.size (some ⟨w.heap.size + 1, 0, none⟩) (sprs [s]) :=
    (Rds.at_new (w := w.alloc (.cells #[.int .i64 s.n, .int .i64 s.m] 46)) (b := w.heap.size + 1) (by simp) #[.int .i64 s.n, .int .i64 s.m] 46).more (by simp)
  have c0 : ((w.alloc (.cells #[.int .i64 s.n, .int .i64 s.m] 46)).alloc (.cells #[.int .i64 s.n, .int .i64 s.m] 46)).cell? ⟨w.heap.size, 0, none⟩ = some (.int .i64 s.n) := by simp [go_sem]
  have c1 : ((w.alloc (.cells #[.int .i64 s.n, .int .i64 s.m] 46)).alloc (.cells #[.int .i64 s.n, .int .i64 s.m] 46)).cell? ⟨w.heap.size, 1, none⟩ = some (.int .i64 s.m) := by simp [go_sem]
  have sz : w.heap.size < ((w.alloc (.cells #[.int .i64 s.n, .int .i64 s.m] 46)).alloc (.cells #[.int .i64 s.n, .int .i64 s.m] 46)).heap.size := by simp; omega
  generalize hw1 : ((w.alloc (.cells #[.int .i64 s.n, .int .i64 s.m] 46)).alloc (.cells #[.int .i64 s.n, .int .i64 s.m] 46)) = w1 at hb0 hr0 c0 c1 sz ⊢
  clear hw1
  refine (spCheck_any (some ⟨w.heap.size + 1, 0, none⟩) 1 1 [s] _ rfl (by omega) hr0).mono ?_
  rw [HE.out]
  rintro e w2 ⟨rfl, hb2⟩
  have d0 := (hb2.cell (p := ⟨w.heap.size, 0, none⟩) sz).trans c0
  have d1 := (hb2.cell (p := ⟨w.heap.size, 1, none⟩) sz).trans c1
  have hb := find1_tr hb0 hb2
  clear hb0 hb2 hr0 c0 c1
  go_wp2_with fail
  refine (checkForce_any num den _).mono ?_
  rw [HF.out]
  rintro e w3 ⟨rfl, rfl⟩
  go_wp2_with fail
  refine (length_any s num den _ HS.out h1 h2 h3 h4).mono ?_
  rintro e w3 ⟨rfl, hb3⟩
  have hb4 := find1_tr hb hb3
  clear hb hb3
  go_wp2_with fail
  go_ret2
  exact ⟨rfl, hb4⟩

set_option maxRecDepth 100000 in
set_option maxHeartbeats 2000000 in
theorem totals_law (A : Option Addr) (n c : Nat) (l : List Spr) (num den : Int) (w : World) (hn : n = l.length) (h : Rds w w.heap.size A (sprs l)) :
    Calls Try.prog 12 #[.slice A n c, .int .i64 num, .int .i64 den] w fun e w' => e = .returned (.bool true) ∧ Below w.heap.size w w' := by
  have HN := hide hn
  have HR := hide h
  clear hn h
  rcases (show 30 < n ∨ n ≤ 30 by omega) with h30 | h30
  · go_enter Try.func12, Try.ntmps12
    have HB0 := hide (Below.refl w.heap.size w)
    go_wp2_with fail
    refine (known_any _).mono ?_
    rintro e w1 ⟨rfl, hb⟩
    have HB1 := hide (find1_tr HB0.out hb)
    clear hb
    go_wp2_with fail
    refine (known_any _).mono ?_
    rintro e w2 ⟨rfl, hb⟩
    have HB2 := hide (find1_tr HB1.out hb)
    clear hb
    go_wp2_with fail
    go_ret
    exact ⟨rfl, HB2.out⟩
  · by_cases he : spErr l = 0
    · have HE := hide he
      have HOK := hide (spErr_all l he).2
      clear he
      by_cases hf : okF num den
      · have HF := hide hf
        obtain ⟨h1, h2, h3, h4⟩ := isF hf
        obtain ⟨T, hT⟩ : ∃ T, T = lens l num den := ⟨_, rfl⟩
        have HT := hide hT
        clear hf hT
        go_enter Try.func12, Try.ntmps12
        have HB0 := hide (Below.refl w.heap.size w)
        go_wp2_with fail
        refine (known_any _).mono ?_
        rintro e w1 ⟨rfl, hb⟩
        have HB1 := hide (find1_tr HB0.out hb)
        clear hb
        go_wp2_with fail
        refine (rcheck_any A n c l _ HN.out (by omega) (Rds.on2 HR.out HB1.out)).mono ?_
        rw [HE.out]
        rintro e w101 ⟨rfl, rfl⟩
        go_wp2_with fail
        refine (own_any A n c l _ HN.out (by omega) (Rds.on2 HR.out HB1.out)).mono ?_
        rintro e w2 ⟨A1, c1, rfl, hr1, hb⟩
        have HB2 := hide (find1_tr HB1.out hb)
        clear hb
        go_wp2_with fail
        refine (Total_ok A1 n c1 l num den _ HN.out hr1 HE.out HF.out).mono ?_
        rw [← HT.out]
        rintro e w3 ⟨rfl, hb⟩
        have HB3 := hide (find1_tr HB2.out hb)
        clear hb
        go_wp2_with fail
        go_loopg [10] n (fun gk i wr => ∃ k : Nat, k ≤ n ∧ i = .int .i64 k ∧ n ≤ gk + k ∧ Hid (Below w.heap.size w wr))
        case atStart => exact ⟨0, Nat.zero_le _, rfl, by omega, HB3⟩
        case round =>
          obtain ⟨k, hk, rfl, hgk, HB⟩ := hrel
          by_cases hlt : k < n
          · obtain ⟨x, hx⟩ : ∃ x, l[k]? = some x := ⟨_, List.getElem?_eq_getElem (by have := HN.out; omega)⟩
            have HX := hide hx
            have HXO := hide (HOK.out x (List.mem_of_getElem? hx))
            obtain ⟨L, hL⟩ : ∃ L, L = lenF x num den := ⟨_, rfl⟩
            have HL := hide hL
            have j1 : IntKind.i64.wrap (k : Int) = (k : Int) := IntWalk.i64_in _ (by omega)
            have j3 : ((k : Int)).toNat = k := by omega
            have j4 : (0 : Int) ≤ (k : Int) := by omega
            have j5 : (k : Int) < (n : Int) := by omega
            clear hx hL
            go_wp2_with fail
            refine (own_any A n c l _ HN.out (by omega) (Rds.on2 HR.out HB.out)).mono ?_
            rintro e wa ⟨Aa, ca, rfl, hra, hb⟩
            have HBa := hide (find1_tr HB.out hb)
            obtain ⟨b, off, rfl, hbB, c0, c1⟩ := hra.spr HX.out
            clear hb hra
            go_wp2_with fail
            refine (Length_ok x num den _ HXO.out HF.out).mono ?_
            rw [← HL.out]
            rintro e wb ⟨rfl, hb⟩
            have HBb := hide (find1_tr HBa.out hb)
            clear hb c0 c1
            obtain ⟨b2, off2, rfl, hbB2, d0, d1⟩ := (Rds.on2 HR.out HBb.out).spr HX.out
            go_wp2_with fail
            refine (rlength_any x num den _ HXO.out h1 h2 h3 h4).mono ?_
            rw [← HL.out]
            rintro e wc ⟨rfl, hb⟩
            have HBc := hide (find1_tr HBb.out hb)
            clear hb
            go_wp2_with fail
            go_roundg (gk - 1)
            case measure => omega
            case rel => exact ⟨k + 1, by omega, by go_num, by omega, HBc⟩
          · go_wp2_with fail
            refine (rtotal_any A n c l num den _ HN.out (by omega) (Rds.on2 HR.out HB.out) HOK.out h1 h2 h3 h4).mono ?_
            rw [← HT.out]
            rintro e wd ⟨rfl, hb⟩
            have HBd := hide (find1_tr HB.out hb)
            clear hb
            go_wp2_with fail
            go_ret
            exact ⟨rfl, HBd.out⟩
      · have HF := hide (show cfErr num den = 2 by have := notF hf; rw [cfErr, if_pos (by omega)])
        rcases notF hf with h1 | ⟨h1, h2⟩ | ⟨h1, h2, h3⟩ | ⟨h1, h2, h3, h4⟩
        all_goals
          clear hf
          go_enter Try.func12, Try.ntmps12
          have HB0 := hide (Below.refl w.heap.size w)
          go_wp2_with fail
          refine (known_any _).mono ?_
          rintro e w1 ⟨rfl, hb⟩
          have HB1 := hide (find1_tr HB0.out hb)
          clear hb
          go_wp2_with fail
          refine (rcheck_any A n c l _ HN.out (by omega) (Rds.on2 HR.out HB1.out)).mono ?_
          rw [HE.out]
          rintro e w101 ⟨rfl, rfl⟩
          go_wp2_with fail
          refine (own_any A n c l _ HN.out (by omega) (Rds.on2 HR.out HB1.out)).mono ?_
          rintro e w2 ⟨A1, c1, rfl, hr1, hb⟩
          have HB2 := hide (find1_tr HB1.out hb)
          clear hb
          go_wp2_with fail
          refine (Total_bad A1 n c1 l num den _ HN.out (by omega) hr1 HE.out HF.out).mono ?_
          rintro e w3 ⟨rfl, hb⟩
          have HB3 := hide (find1_tr HB2.out hb)
          clear hb
          go_wp2_with fail
          go_ret
          exact ⟨rfl, HB3.out⟩
    · obtain ⟨r, hr⟩ : ∃ r, r = spErr l := ⟨_, rfl⟩
      have hr2 : (r != 0) = true := by rw [hr]; simpa using he
      have hr3 : (r == 0) = false := by rw [hr]; simpa using he
      have HE := hide he
      have HRR := hide hr
      clear he hr
      go_enter Try.func12, Try.ntmps12
      have HB0 := hide (Below.refl w.heap.size w)
      go_wp2_with fail
      refine (known_any _).mono ?_
      rintro e w1 ⟨rfl, hb⟩
      have HB1 := hide (find1_tr HB0.out hb)
      clear hb
      go_wp2_with fail
      refine (rcheck_any A n c l _ HN.out (by omega) (Rds.on2 HR.out HB1.out)).mono ?_
      rw [← HRR.out]
      rintro e w101 ⟨rfl, rfl⟩
      go_wp2_with fail
      refine (own_any A n c l _ HN.out (by omega) (Rds.on2 HR.out HB1.out)).mono ?_
      rintro e w2 ⟨A1, c1, rfl, hr1, hb⟩
      have HB2 := hide (find1_tr HB1.out hb)
      clear hb
      go_wp2_with fail
      refine (Total_err A1 n c1 l num den _ HN.out (by omega) hr1 HE.out).mono ?_
      rw [← HRR.out]
      rintro e w3 ⟨rfl, hb⟩
      have HB3 := hide (find1_tr HB2.out hb)
      clear hb
      go_wp2_with fail
      go_ret
      exact ⟨rfl, HB3.out⟩

theorem springTotals_walk {w : World} (a : Sl Spr) (ha : Sl.Good Spr.cells Spr.wf w a) (x : Int) (_ : (Lit.int .i64 x).wf = true) (y : Int) (_ : (Lit.int .i64 y).wf = true) :
    Calls Try.prog 12 #[.slice a.A a.n a.c, .int .i64 x, .int .i64 y] w fun e w' => e = .returned (.bool true) ∧ Below w.heap.size w w' :=
  totals_law a.A a.n a.c a.l x y w ha.len ha.rds

end Go.Proofs.Ytcnejnaeahffhaa
