/- spacing.Shortest, and the law SpacingShortest, walked. -/
import Derived.Test.YtajkmlejklgbbaaKnown
import Derived.Test.YtajkmlejklgbbaaDec
import Derived.Test.YtajkmlejklgbbaaSprLaw
namespace Go.Proofs.Ytajkmlejklgbbaa
open Go.RowKit

def shStep (n : Int) (c : Col) : Int := if 0 < c.t ∧ (n = 0 ∨ c.t < n) then c.t else n
def shF (l : List Col) : Int := l.foldl shStep 0
def shortest (l : List Col) : Int := if shF l = 0 then 483840 else shF l
theorem shF_take (l : List Col) (k : Nat) (c : Col) (h : l[k]? = some c) : shF (l.take (k + 1)) = shStep (shF (l.take k)) c := by
  simp only [shF]
  rw [List.take_add_one, h, Option.toList_some, List.foldl_append]
  rfl

set_option maxHeartbeats 1000000 in
theorem shortest_any (A : Option Addr) (n c : Nat) (l : List Col) (w : World) (hn : n = l.length) (hm : n ≤ 9223372036854775807) (h : Rds w w.heap.size A (cols l)) :
    Calls Try.prog 21 #[.slice A n c] w fun e w' => e = .returned (.int .i64 (shortest l)) ∧ Below w.heap.size w w' := by
  have HN := hide hn
  clear hn
  go_enter Try.func21, Try.ntmps21
  go_wp2_with fail
  go_loopg [3, 8] n (fun gk m i wr => ∃ k : Nat, k ≤ n ∧ i = .int .i64 k ∧ n ≤ gk + k ∧ m = .int .i64 (shF (l.take k)) ∧ Below w.heap.size w wr)
  case atStart => exact ⟨0, Nat.zero_le _, rfl, by omega, rfl, Below.refl _ _⟩
  case round =>
    obtain ⟨k, hk, rfl, hgk, rfl, hb⟩ := hrel
    by_cases hlt : k < n
    · obtain ⟨c, hc⟩ : ∃ c, l[k]? = some c := ⟨_, List.getElem?_eq_getElem (by have := HN.out; omega)⟩
      obtain ⟨b, off, rfl, hbB, c0, c1, c2⟩ := (h.below hb).col hc
      have HS := hide (shF_take l k c hc)
      have HB := hide hb
      clear hc h hb
      obtain ⟨m, hm⟩ : ∃ m, m = shF (l.take k) := ⟨_, rfl⟩
      rw [← hm] at HS
      rw [← hm]
      clear hm
      rcases (show (c.t ≤ 0) ∨ (0 < c.t ∧ m = 0) ∨ (0 < c.t ∧ ¬ m = 0 ∧ c.t < m) ∨ (0 < c.t ∧ ¬ m = 0 ∧ m ≤ c.t) by omega) with h1 | ⟨h1, h2⟩ | ⟨h1, h2, h3⟩ | ⟨h1, h2, h3⟩
      · have HE : Hid (shStep m c = m) := (by rw [shStep, if_neg (by omega)] : shStep m c = m)
        go_wp2_with fail
        go_roundg (gk - 1)
        case measure => omega
        case rel => exact ⟨k + 1, by omega, by go_num, by omega, by rw [HS.out, HE.out], HB.out.alloc HB.out.size _⟩
      · have HE : Hid (shStep m c = c.t) := (by rw [shStep, if_pos (by omega)] : shStep m c = c.t)
        subst h2
        go_wp2_with fail
        go_roundg (gk - 1)
        case measure => omega
        case rel => exact ⟨k + 1, by omega, by go_num, by omega, by rw [HS.out, HE.out], HB.out.alloc HB.out.size _⟩
      · have HE : Hid (shStep m c = c.t) := (by rw [shStep, if_pos (by omega)] : shStep m c = c.t)
        have hB : (m == 0) = false := by simpa using h2
        go_wp2_with fail
        go_roundg (gk - 1)
        case measure => omega
        case rel => exact ⟨k + 1, by omega, by go_num, by omega, by rw [HS.out, HE.out], HB.out.alloc HB.out.size _⟩
      · have HE : Hid (shStep m c = m) := (by rw [shStep, if_neg (by omega)] : shStep m c = m)
        have hB : (m == 0) = false := by simpa using h2
        go_wp2_with fail
        go_roundg (gk - 1)
        case measure => omega
        case rel => exact ⟨k + 1, by omega, by go_num, by omega, by rw [HS.out, HE.out], HB.out.alloc HB.out.size _⟩
    · have hall : l.take k = l := List.take_of_length_le (by have := HN.out; omega)
      rw [hall]
      clear hall
      by_cases h0 : shF l = 0
      · have e : shortest l = 483840 := by rw [shortest, if_pos h0]
        have E := hide e
        rw [h0]
        clear e h0
        go_wp2_with fail
        go_ret
        exact ⟨ret_int E.out.symm, hb⟩
      · have e : shortest l = shF l := by rw [shortest, if_neg h0]
        have E := hide e
        have h1 : (shF l == 0) = false := by simpa using h0
        clear e h0
        go_wp2_with fail
        go_ret
        exact ⟨ret_int E.out.symm, hb⟩

set_option maxRecDepth 100000 in
set_option maxHeartbeats 2000000 in
theorem short_law (A : Option Addr) (n c : Nat) (l : List Col) (w : World) (hn : n = l.length) (hc : n ≤ c) (hm : c ≤ 9223372036854775807) (h : Rds w w.heap.size A (cols l)) :
    Calls Try.prog 6 #[.slice A n c] w fun e w' => e = .returned (.bool true) ∧ Below w.heap.size w w' := by
  have HN := hide hn
  clear hn
  go_enter Try.func6, Try.ntmps6
  go_upto_region 1 with fail
  go_cut [0] (fun v0 wx => ∃ n1 : Nat, v0 = .slice A n1 c ∧ n1 ≤ n ∧ n1 ≤ 60 ∧ w = wx)
  case first =>
    rcases (show n ≤ 60 ∨ 60 < n by omega) with h60 | h60
    all_goals
      go_wp2_with fail
      go_meet
    · exact ⟨n, rfl, by omega, by omega, rfl⟩
    · exact ⟨60, rfl, by omega, by omega, rfl⟩
  case rest =>
    obtain ⟨n1, rfl, g1, g2, rfl⟩ := hcut
    obtain ⟨l1, hl1⟩ : ∃ l1, l1 = l.take n1 := ⟨_, rfl⟩
    have hn1 : n1 = l1.length := by rw [hl1, List.length_take, ← HN.out]; omega
    have r1 : Rds w w.heap.size A (cols l1) := by rw [hl1]; exact h.take n1
    have HN1 := hide hn1
    have R1 := hide r1
    clear hn1 hl1 r1 h HN
    go_wp2_with fail
    go_loopg [3, 4, 5] n1 (fun gk m i _ wr => ∃ k : Nat, k ≤ n1 ∧ i = .int .i64 k ∧ n1 ≤ gk + k ∧ m = .int .i64 (shF (l1.take k)) ∧ w = wr)
    case atStart => exact ⟨0, Nat.zero_le _, rfl, by omega, rfl, rfl⟩
    case round =>
      obtain ⟨k, hk, rfl, hgk, rfl, rfl⟩ := hrel
      by_cases hlt : k < n1
      · obtain ⟨x, hx⟩ : ∃ x, l1[k]? = some x := ⟨_, List.getElem?_eq_getElem (by have := HN1.out; omega)⟩
        obtain ⟨b, off, rfl, hbB, c0, c1, c2⟩ := R1.out.col hx
        have HS := hide (shF_take l1 k x hx)
        clear hx R1
        obtain ⟨m, hm⟩ : ∃ m, m = shF (l1.take k) := ⟨_, rfl⟩
        rw [← hm] at HS
        rw [← hm]
        clear hm
        rcases (show (x.t ≤ 0) ∨ (0 < x.t ∧ m = 0) ∨ (0 < x.t ∧ ¬ m = 0 ∧ x.t < m) ∨ (0 < x.t ∧ ¬ m = 0 ∧ m ≤ x.t) by omega) with h1 | ⟨h1, h2⟩ | ⟨h1, h2, h3⟩ | ⟨h1, h2, h3⟩
        · have HE : Hid (shStep m x = m) := (by rw [shStep, if_neg (by omega)] : shStep m x = m)
          go_wp2_with fail
          go_roundg (gk - 1)
          case measure => omega
          case rel => exact ⟨k + 1, by omega, by go_num, by omega, by rw [HS.out, HE.out], rfl⟩
        · have HE : Hid (shStep m x = x.t) := (by rw [shStep, if_pos (by omega)] : shStep m x = x.t)
          subst h2
          go_wp2_with fail
          go_roundg (gk - 1)
          case measure => omega
          case rel => exact ⟨k + 1, by omega, by go_num, by omega, by rw [HS.out, HE.out], rfl⟩
        · have HE : Hid (shStep m x = x.t) := (by rw [shStep, if_pos (by omega)] : shStep m x = x.t)
          have hB : (m == 0) = false := by simpa using h2
          go_wp2_with fail
          go_roundg (gk - 1)
          case measure => omega
          case rel => exact ⟨k + 1, by omega, by go_num, by omega, by rw [HS.out, HE.out], rfl⟩
        · have HE : Hid (shStep m x = m) := (by rw [shStep, if_neg (by omega)] : shStep m x = m)
          have hB : (m == 0) = false := by simpa using h2
          go_wp2_with fail
          go_roundg (gk - 1)
          case measure => omega
          case rel => exact ⟨k + 1, by omega, by go_num, by omega, by rw [HS.out, HE.out], rfl⟩
      · have hall : l1.take k = l1 := List.take_of_length_le (by have := HN1.out; omega)
        rw [hall]
        clear hall
        have hsh : ∃ m, m = shF l1 ∧ ((m = 0 ∧ shortest l1 = 483840) ∨ ((m == 0) = false ∧ shortest l1 = m)) := by
          refine ⟨_, rfl, ?_⟩
          by_cases h0 : shF l1 = 0
          · exact .inl ⟨h0, by rw [shortest, if_pos h0]⟩
          · exact .inr ⟨by simpa using h0, by rw [shortest, if_neg h0]⟩
        obtain ⟨m, hm, hs⟩ := hsh
        rw [← hm]
        clear hm
        rcases hs with ⟨rfl, hs⟩ | ⟨h0, hs⟩
        all_goals
          have HS := hide hs
          clear hs
          go_wp2_with fail
          refine (known_any _).mono ?_
          rintro e w2 ⟨rfl, hb2⟩
          have r1 := (R1.out.below hb2).more hb2.size
          go_wp2_with fail
          refine (check_any A n1 c l1 _ HN1.out (by omega) r1).mono ?_
          rintro e w3 ⟨rfl, hb3⟩
          have b3 := hb2.trans (hb3.mono hb2.size)
          have r3 := (R1.out.below b3).more b3.size
          clear hb2 hb3 r1
          go_wp2_with fail
          refine (lcheck_any A n1 c l1 _ HN1.out (by omega) r3).mono ?_
          rintro e w4 ⟨rfl, rfl⟩
          go_wp2_with fail
          refine (shortest_any A n1 c l1 _ HN1.out (by omega) r3).mono ?_
          rw [HS.out]
          rintro e w4 ⟨rfl, hb4⟩
          have b4 := b3.trans (hb4.mono b3.size)
          clear b3 r3 hb4
          go_wp2_with fail
          go_ret
          exact ⟨rfl, b4⟩

theorem spacingShortest_walk {w : World} (a : Sl Col) (ha : Sl.Good Col.cells Col.wf w a) :
    Calls Try.prog 6 #[.slice a.A a.n a.c] w fun e w' => e = .returned (.bool true) ∧ Below w.heap.size w w' :=
  short_law a.A a.n a.c a.l w ha.len ha.cap (len63 ha.max) ha.rds

end Go.Proofs.Ytajkmlejklgbbaa
