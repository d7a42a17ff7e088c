/- The law's own; the reference's Check, Length, Total. -/
import Derived.Test.YtcnejnaeahffhaaKn30
import Derived.Test.YtcnejnaeahffhaaApp
namespace Go.Proofs.Ytcnejnaeahffhaa
open Go.RowKit

set_option maxRecDepth 100000 in
set_option maxHeartbeats 2000000 in
theorem own_any (A : Option Addr) (n c : Nat) (l : List Spr) (w : World) (hn : n = l.length) (hm : n ≤ 1000) (h : Rds w w.heap.size A (sprs l)) :
    Calls Try.prog 16 #[.slice A n c] w fun e w' => ∃ (A' : Option Addr) (c' : Nat), e = .returned (.slice A' n c') ∧ Rds w' w'.heap.size A' (sprs l) ∧ Below w.heap.size w w' := by
  have HN := hide hn
  have HR := hide h
  clear hn h
  go_enter Try.func16, Try.ntmps16
  go_wp2_with fail
  go_loopg [3, 4] n (fun gk v i wr => ∃ k : Nat, k ≤ n ∧ i = .int .i64 k ∧ n ≤ gk + k ∧ Hid (wr.ownsRow w.heap.size 46 2 v k (sprs (l.take k))) ∧ Hid (Below w.heap.size w wr))
  case atStart => exact ⟨0, Nat.zero_le _, rfl, by omega, World.ownsRow_nil _ _ _ _, Below.refl _ _⟩
  case round =>
    obtain ⟨k, hk, rfl, hgk, HO, HB⟩ := hrel
    obtain ⟨A1, cc1, rfl, hA1, hcc1, hcc1m⟩ := own_form HO.out
    by_cases hlt : k < n
    · obtain ⟨x, hx⟩ : ∃ x, l[k]? = some x := ⟨_, List.getElem?_eq_getElem (by have := HN.out; omega)⟩
      obtain ⟨b, off, rfl, hbB, -, -⟩ := HR.out.spr hx
      obtain ⟨b', off', e1, hbB', c0, c1⟩ := (Rds.on2 HR.out HB.out).spr hx
      simp only [Option.some.injEq, Addr.mk.injEq, and_true] at e1
      obtain ⟨rfl, rfl⟩ := e1
      have hsz := HB.out.size
      have HFT := hide (show sprs (l.take (k + 1)) = sprs (l.take k) ++ x.cells by rw [List.take_add_one, hx, Option.toList_some, sprs, List.flatMap_append]; simp [sprs])
      have i1 : IntKind.i64.wrap (k : Int) = (k : Int) := IntWalk.i64_in _ (by omega)
      have i3 : ((k : Int)).toNat = k := by omega
      have i4 : (0 : Int) ≤ (k : Int) := by omega
      have i5 : (k : Int) < (n : Int) := by omega
      clear hx
      go_upto_region 5 with fail
      go_region_held3 (fun w' => w'.cell? ⟨b, off + k * 2, none⟩ = some (.int .i64 x.n) ∧ w'.cell? ⟨b, off + k * 2 + 1, none⟩ = some (.int .i64 x.m))
        (first | (go_keep; done) | (exact ⟨(app_keep ((HO.out.alloc _).drew) g3 hbB (by simp; omega) _).trans (and_l (by assumption)), (app_keep ((HO.out.alloc _).drew) g3 hbB (by simp; omega) _).trans (and_r (by assumption))⟩))
        (first | ((refine step_app rfl (.tmp 11) (.tmp 23) 30 rfl w.heap.size spr_ty _ k (sprs (l.take k)) rfl ((HO.out.alloc _).drew) (wr.heap.size + 1) (some ⟨wr.heap.size, 0, none⟩) 1 1 x.cells rfl rfl (Rds.at_new_drew rfl #[.int .i64 x.n, .int .i64 x.m] _) (spr_one x) (by simp only [maxLen]; omega) (by omega) (by simp; omega) ?_); intro v' w3 o3 g3 b3))
      go_wp2_with fail
      go_roundg (gk - 1)
      case measure => omega
      case rel =>
        refine ⟨k + 1, by omega, by go_num, by omega, hide (by rw [HFT.out]; exact o3), hide (grown_below (v := Value.slice A1 k cc1) ((HB.out.alloc hsz _).drew) ((HO.out.alloc _).drew) g3 (by simp; omega))⟩
    · have hkn : k = n := by omega
      subst hkn
      have hall : l.take k = l := List.take_of_length_le (by have := HN.out; omega)
      rw [hall] at HO
      clear hall
      go_wp2_with fail
      go_ret
      exact ⟨A1, cc1, rfl, Rds.own HO.out, HB.out⟩

set_option maxHeartbeats 1000000 in
theorem rcheck_any (A : Option Addr) (n c : Nat) (l : List Spr) (w : World) (hn : n = l.length) (hm : n ≤ 9223372036854775807) (h : Rds w w.heap.size A (sprs l)) :
    Calls Try.prog 21 #[.slice A n c] w fun e w' => e = .returned (.int .i64 (spErr l)) ∧ w = w' := by
  have HN := hide hn
  clear hn
  by_cases hlong : 8192 < n
  · go_enter Try.func21, Try.ntmps21
    go_wp2
    go_ret
    exact ⟨ret_int (by rw [spErr, if_pos (by have := HN.out; omega)]), rfl⟩
  · go_enter Try.func21, Try.ntmps21
    go_wp2
    go_loopg [3] n (fun gk i wr => ∃ k : Nat, k ≤ n ∧ i = .int .i64 k ∧ n ≤ gk + k ∧ (∀ j s, j < k → l[j]? = some s → s.ok) ∧ w = wr)
    case atStart => exact ⟨0, Nat.zero_le _, rfl, by omega, fun j c hj => absurd hj (by omega), rfl⟩
    case round =>
      obtain ⟨k, hk, rfl, hgk, hok, rfl⟩ := hrel
      by_cases hlt : k < n
      · obtain ⟨x, hx⟩ : ∃ x, l[k]? = some x := ⟨_, List.getElem?_eq_getElem (by have := HN.out; omega)⟩
        obtain ⟨b, off, rfl, hbB, c0, c1⟩ := h.spr hx
        have HX := hide hx
        have HOK := hide hok
        clear hx hok h
        by_cases hxo : x.ok
        · obtain ⟨g0, g1, g2, g3⟩ := Spr.ok_of hxo
          go_wp2
          go_roundg (gk - 1)
          case measure => omega
          case rel =>
            refine ⟨k + 1, by omega, by go_num, by omega, ?_, rfl⟩
            intro j c' hj hc'
            by_cases hjk : j = k
            · subst hjk; rw [HX.out] at hc'; cases hc'; exact hxo
            · exact HOK.out j c' (by omega) hc'
        · have hne := spErr_bad l (by have := HN.out; omega) (List.mem_of_getElem? HX.out) hxo
          have HE := hide hne
          have hcc := Spr.nok_of hxo
          clear hne hxo
          go_wp2
          all_goals
            first
            | (go_ret; exact ⟨ret_int HE.out.symm, rfl⟩)
            | (exfalso; simp only [Bool.not_eq_false', decide_eq_true_eq] at *; omega)
      · go_wp2
        go_ret
        exact ⟨ret_int (spErr_ok l (by have := HN.out; omega) (by have := HN.out; intro j c hj hc; exact hok j c (by omega) hc)).symm, rfl⟩

set_option maxHeartbeats 1000000 in
theorem rlength_any (s : Spr) (num den : Int) (w : World) (h : s.ok) (h0 : 0 ≤ num) (h1 : num ≤ 268435456) (h2 : 1 ≤ den) (h3 : den ≤ 268435456) :
    Calls Try.prog 27 #[.agg #[.int .i64 s.n, .int .i64 s.m], .int .i64 num, .int .i64 den] w fun e w' => e = .returned (.int .i64 (lenF s num den)) ∧ Below w.heap.size w w' := by
  obtain ⟨b0, b1, b2, b3, b4, b5⟩ := lenF_bnd h h0 h1 h2
  obtain ⟨a0, a1, a2, a3⟩ := Spr.ok_of h
  obtain ⟨q, hq⟩ : ∃ q, q = s.n * num / den := ⟨_, rfl⟩
  have i1 : IntKind.i64.wrap (s.n * num) = s.n * num := IntWalk.i64_in _ (by omega)
  have i2 : (s.n * num).tdiv den = q := by rw [hq]; exact Int.tdiv_eq_ediv_of_nonneg b0
  have i3 : IntKind.i64.wrap q = q := IntWalk.i64_in _ (by omega)
  have i4 : ¬ den = 0 := by omega
  rcases (show (s.m < q ∧ lenF s num den = q) ∨ (¬ s.m < q ∧ lenF s num den = s.m) by unfold lenF; omega) with ⟨hm, hl⟩ | ⟨hm, hl⟩
  all_goals
    have HL := hide hl
    have HQ := hide hq
    clear hl hq b2 b3 b4 b5
    go_enter Try.func27, Try.ntmps27
    go_wp2_with fail
    go_quiet (fail)
    go_wp2_with fail
    go_ret
    exact ⟨ret_int (by rw [HL.out]; omega), below_drewN (by go_grown) _⟩

set_option maxHeartbeats 1000000 in
theorem rtotal_any (A : Option Addr) (n c : Nat) (l : List Spr) (num den : Int) (w : World) (hn : n = l.length) (hm : n ≤ 8192) (h : Rds w w.heap.size A (sprs l)) (hok : ∀ s ∈ l, s.ok)
    (h0 : 0 ≤ num) (h1 : num ≤ 268435456) (h2 : 1 ≤ den) (h3 : den ≤ 268435456) :
    Calls Try.prog 14 #[.slice A n c, .int .i64 num, .int .i64 den] w fun e w' => e = .returned (.int .i64 (lens l num den)) ∧ Below w.heap.size w w' := by
  have HN := hide hn
  have HOK := hide hok
  have HR := hide h
  clear hn hok h
  go_enter Try.func14, Try.ntmps14
  go_wp2_with fail
  go_loopg [7, 8] n (fun gk m i wr => ∃ k : Nat, k ≤ n ∧ i = .int .i64 k ∧ n ≤ gk + k ∧ m = .int .i64 (lens (l.take k) num den) ∧ Hid (Below w.heap.size w wr))
  case atStart => exact ⟨0, Nat.zero_le _, rfl, by omega, rfl, Below.refl _ _⟩
  case round =>
    obtain ⟨k, hk, rfl, hgk, rfl, HB⟩ := hrel
    have hbd := lens_bnd (l.take k) num den (fun s hs => HOK.out s (List.mem_of_mem_take hs)) h0 h1 h2
    have hlk : (l.take k).length ≤ k := List.length_take_le _ _
    by_cases hlt : k < n
    · obtain ⟨x, hx⟩ : ∃ x, l[k]? = some x := ⟨_, List.getElem?_eq_getElem (by have := HN.out; omega)⟩
      obtain ⟨b, off, rfl, hbB, c0, c1⟩ := (Rds.on2 HR.out HB.out).spr hx
      have hxo := HOK.out x (List.mem_of_getElem? hx)
      have hxb := (lenF_bnd hxo h0 h1 h2).2.2.2.2
      have HS := hide (show lens (l.take (k + 1)) num den = lens (l.take k) num den + lenF x num den by rw [List.take_add_one, hx, Option.toList_some, lens_snoc])
      have HXO := hide hxo
      clear hx hxo
      obtain ⟨m, hm2⟩ : ∃ m, m = lens (l.take k) num den := ⟨_, rfl⟩
      obtain ⟨L, hL⟩ : ∃ L, L = lenF x num den := ⟨_, rfl⟩
      rw [← hm2, ← hL] at HS
      rw [← hm2] at hbd
      rw [← hL] at hxb
      rw [← hm2]
      have HL := hide (fun W => show Calls Try.prog 27 #[.agg #[.int .i64 x.n, .int .i64 x.m], .int .i64 num, .int .i64 den] W fun e w' => e = .returned (.int .i64 L) ∧ Below W.heap.size W w' from by rw [hL]; exact rlength_any x num den W HXO.out h0 h1 h2 h3)
      clear hm2 hL
      have i1 : IntKind.i64.wrap (m + L) = m + L := IntWalk.i64_in _ (by omega)
      go_wp2_with fail
      refine (HL.out _).mono ?_
      rintro e w1 ⟨rfl, hb1⟩
      have HB2 := hide (find1_tr HB.out hb1)
      clear hb1
      go_wp2_with fail
      go_roundg (gk - 1)
      case measure => omega
      case rel => exact ⟨k + 1, by omega, by go_num, by omega, by rw [HS.out], HB2⟩
    · have hall : l.take k = l := List.take_of_length_le (by have := HN.out; omega)
      rw [hall]
      clear hall
      go_wp2_with fail
      go_ret
      exact ⟨rfl, HB.out⟩

end Go.Proofs.Ytcnejnaeahffhaa
