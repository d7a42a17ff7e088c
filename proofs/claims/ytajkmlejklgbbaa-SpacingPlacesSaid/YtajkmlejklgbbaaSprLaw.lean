/- The law SpacingSprings, walked. -/
import Derived.Test.YtajkmlejklgbbaaKnown
import Derived.Test.YtajkmlejklgbbaaLspr
import Derived.Test.YtajkmlejklgbbaaWrong
namespace Go.Proofs.Ytajkmlejklgbbaa
open Go.RowKit

theorem cols_take (l : List Col) (k : Nat) : ∃ r, cols l = cols (l.take k) ++ r := ⟨cols (l.drop k), by rw [cols, cols, cols, ← List.flatMap_append, List.take_append_drop]⟩
theorem Rds.pre {w : World} {B : Nat} {A : Option Addr} {xs ys : List Value} (h : Rds w B A (xs ++ ys)) : Rds w B A xs := by
  rcases h with h | ⟨b, off, e, hb, hc⟩
  · exact .inl (List.append_eq_nil_iff.1 h).1
  · exact .inr ⟨b, off, e, hb, fun j u hu => hc j u (by rw [List.getElem?_append_left (List.getElem?_eq_some_iff.1 hu).1]; exact hu)⟩
theorem Rds.take {w : World} {B : Nat} {A : Option Addr} {α : Type} {f : α → List Value} {l : List α} (h : Rds w B A (l.flatMap f)) (k : Nat) : Rds w B A ((l.take k).flatMap f) := by
  have e : l.flatMap f = (l.take k).flatMap f ++ (l.drop k).flatMap f := by rw [← List.flatMap_append, List.take_append_drop]
  rw [e] at h
  exact h.pre

set_option maxRecDepth 100000 in
set_option maxHeartbeats 4000000 in
theorem springs_law (A A' : Option Addr) (n c n' c' : Nat) (l : List Col) (s : Int) (L : List Lst) (w : World) (hn : n = l.length) (hc : n ≤ c) (hm : c ≤ 9223372036854775807)
    (h : Rds w w.heap.size A (cols l)) (hn' : n' = L.length) (hc' : n' ≤ c') (hm' : c' ≤ 9223372036854775807) (h' : Rds w w.heap.size A' (lsts L)) :
    Calls Try.prog 4 #[.slice A n c, .int .i64 s, .slice A' n' c'] w fun e w' => e = .returned (.bool true) ∧ Below w.heap.size w w' := by
  have HN := hide hn
  have HN' := hide hn'
  clear hn hn'
  go_enter Try.func4, Try.ntmps4
  go_upto_region 1 with fail
  go_cut [0, 2] (fun v0 v2 wx => ∃ n1 n2 q : Nat, v0 = .slice A n1 c ∧ v2 = .slice A' n2 c' ∧ n1 ≤ n ∧ n1 ≤ 40 ∧ n2 ≤ n' ∧ n2 ≤ 20 ∧ wx = w.drewN q)
  case first =>
    rcases (show n ≤ 40 ∨ 40 < n by omega) with h40 | h40
    all_goals rcases (show n' ≤ 20 ∨ 20 < n' by omega) with h20 | h20
    all_goals
      go_quiet (fail)
      go_wp2_with fail
      go_meet
    · exact ⟨n, n', _, rfl, rfl, by omega, by omega, by omega, by omega, rfl⟩
    · exact ⟨n, 20, _, rfl, rfl, by omega, by omega, by omega, by omega, rfl⟩
    · exact ⟨40, n', _, rfl, rfl, by omega, by omega, by omega, by omega, rfl⟩
    · exact ⟨40, 20, _, rfl, rfl, by omega, by omega, by omega, by omega, rfl⟩
  case rest =>
    obtain ⟨n1, n2, qd, rfl, rfl, g1, g2, g3, g4, rfl⟩ := hcut
    obtain ⟨l1, hl1⟩ : ∃ l1, l1 = l.take n1 := ⟨_, rfl⟩
    obtain ⟨L1, hL1⟩ : ∃ L1, L1 = L.take n2 := ⟨_, rfl⟩
    have hn1 : n1 = l1.length := by rw [hl1, List.length_take, ← HN.out]; omega
    have hn2 : n2 = L1.length := by rw [hL1, List.length_take, ← HN'.out]; omega
    have r1 : Rds w w.heap.size A (cols l1) := by rw [hl1]; exact h.take n1
    have r2 : Rds w w.heap.size A' (lsts L1) := by rw [hL1]; exact h'.take n2
    have HN1 := hide hn1
    have HN2 := hide hn2
    have R1 := hide r1
    have R2 := hide r2
    clear hn1 hn2 hl1 hL1 r1 r2 h h' HN HN'
    obtain ⟨w, rfl⟩ : ∃ w0 : World, w0 = w := ⟨_, rfl⟩
    have rem0 : (n2 : Int) % 2 = 0 ∨ (n2 : Int) % 2 = 1 := by omega
    rcases rem0 with hr | hr
    all_goals
      by_cases he : colErr l1 = 0
      · have HE := hide he
        have HEE := hide (colErr_all l1 he).2
        clear he
        by_cases hs : 1 ≤ s ∧ s ≤ 15482880
        · obtain ⟨hs1, hs2⟩ := hs
          by_cases hw : ∀ x ∈ L1, x.ok n1
          · have HW := hide hw
            clear hw
            go_wp2_with fail
            refine (Springs_ok A A' n1 c n2 c' l1 s _ L1 _ HN1.out (by omega) (R1.out.drewN _) HE.out (by omega) HN2.out (by omega) (R2.out.drewN _) HW.out).mono ?_
            rintro e w1 ⟨v, rfl, o1, hb1⟩
            obtain ⟨A1, c1, rfl, -, -, -⟩ := own_form o1
            have b1 := below_undrewN hb1
            have q1 := Rds.own o1
            clear hb1 o1
            go_wp2_with fail
            refine (known_any _).mono ?_
            rintro e w2 ⟨rfl, hb2⟩
            have b2 := b1.trans (hb2.mono b1.size)
            have q2 := (q1.below hb2).more hb2.size
            have r1 := (R1.out.below b2).more b2.size
            clear q1 b1 hb2
            go_wp2_with fail
            refine (lcheck_any A n1 c l1 _ HN1.out (by omega) r1).mono ?_
            rw [HE.out]
            rintro e w3 ⟨rfl, rfl⟩
            have r2 := (R2.out.below b2).more b2.size
            have hw0 : lstErr L1 n1 = 0 := by rw [lstErr, if_pos HW.out]
            have HW0 := hide hw0
            clear hw0
            go_wp2_with fail
            refine (wrong_any A' n2 c' n1 L1 _ HN2.out (by omega) r2).mono ?_
            rw [HW0.out]
            rintro e w3 ⟨rfl, hb3⟩
            have b3 := b2.trans (hb3.mono b2.size)
            have q3 := (q2.below hb3).more hb3.size
            have r13 := (R1.out.below b3).more b3.size
            have r23 := (R2.out.below b3).more b3.size
            clear q2 b2 hb3 r1 r2
            go_wp2_with fail
            refine (lsprings_any A A' n1 c n2 c' l1 s _ L1 _ HN1.out (by omega) r13 HE.out (by omega) HN2.out (by omega) r23 HW.out).mono ?_
            rintro e w4 ⟨v, rfl, o4, hb4⟩
            obtain ⟨A4, c4, rfl, -, -, -⟩ := own_form o4
            have b4 := b3.trans (hb4.mono b3.size)
            have q4 := (q3.below hb4).more hb4.size
            have q5 := Rds.own o4
            have B4 := hide b4
            have Q4 := hide q4
            have Q5 := hide q5
            have hlen := own_len o4
            rw [sprs_length] at hlen
            clear b3 hb4 r13 r23 q3 o4 q4 q5 b4
            obtain ⟨sp, hlen, Q4, Q5⟩ : ∃ sp : List Spr, sp.length * 2 = (n1 - 1) * 2 ∧ Hid (Rds w4 w4.heap.size A1 (sprs sp)) ∧ Hid (Rds w4 w4.heap.size A4 (sprs sp)) := ⟨_, hlen, Q4, Q5⟩
            have hsl : sp.length = n1 - 1 := by omega
            have HSL := hide hsl
            clear hsl hlen
            go_wp2_with fail
            go_loopg [12] n1 (fun gk i wr => ∃ k : Nat, k ≤ n1 - 1 ∧ i = .int .i64 k ∧ n1 ≤ gk + k ∧ Below w4.heap.size w4 wr)
            case atStart => exact ⟨0, by omega, rfl, by omega, Below.refl _ _⟩
            case round =>
              obtain ⟨k, hk, rfl, hgk, hb⟩ := hrel
              by_cases hkl : k < n1 - 1
              · obtain ⟨x, hx⟩ : ∃ x, sp[k]? = some x := ⟨_, List.getElem?_eq_getElem (by have := HSL.out; omega)⟩
                obtain ⟨ba, oa, rfl, hba, ca0, ca1⟩ := (Q4.out.below hb).spr hx
                obtain ⟨bb, ob, rfl, hbb, cb0, cb1⟩ := (Q5.out.below hb).spr hx
                have HB := hide hb
                clear hx hb
                have i1 : (k : Int) < ((n1 - 1 : Nat) : Int) := by omega
                have i2 : (0 : Int) ≤ (k : Int) := by omega
                go_wp2_with fail
                go_quiet (fail)
                go_wp2_with fail
                go_roundg (gk - 1)
                case measure => omega
                case rel => exact ⟨k + 1, by omega, by go_num, by omega, below_drewN HB.out _⟩
              · go_wp2_with fail
                go_ret
                exact ⟨rfl, B4.out.trans (hb.mono B4.out.size)⟩
          · have hw0 : lstErr L1 n1 = 2 := by rw [lstErr, if_neg hw]
            have HW := hide hw
            have HW0 := hide hw0
            clear hw hw0
            go_wp2_with fail
            refine (Springs_err3 A A' n1 c n2 c' l1 s _ L1 _ HN1.out (by omega) (R1.out.drewN _) HE.out (by omega) HN2.out (by omega) (R2.out.drewN _) HW.out).mono ?_
            rintro e w1 ⟨rfl, hb1⟩
            have b1 := below_undrewN hb1
            clear hb1
            go_wp2_with fail
            refine (known_any _).mono ?_
            rintro e w2 ⟨rfl, hb2⟩
            have b2 := b1.trans (hb2.mono b1.size)
            have r1 := (R1.out.below b2).more b2.size
            clear b1 hb2
            go_wp2_with fail
            refine (lcheck_any A n1 c l1 _ HN1.out (by omega) r1).mono ?_
            rw [HE.out]
            rintro e w3 ⟨rfl, rfl⟩
            have r2 := (R2.out.below b2).more b2.size
            go_wp2_with fail
            refine (wrong_any A' n2 c' n1 L1 _ HN2.out (by omega) r2).mono ?_
            rw [HW0.out]
            rintro e w3 ⟨rfl, hb3⟩
            have b3 := b2.trans (hb3.mono b2.size)
            clear b2 hb3 r1 r2
            go_wp2_with fail
            go_ret
            exact ⟨rfl, b3⟩
        · have HS := hide hs
          have hs' : s < 1 ∨ 15482880 < s := by omega
          clear hs
          go_wp2_with fail
          refine (Springs_err2 A A' n1 c n2 c' l1 s _ _ HN1.out (by omega) (R1.out.drewN _) HE.out (by have := HS.out; omega)).mono ?_
          rintro e w1 ⟨rfl, hb1⟩
          have b1 := below_undrewN hb1
          clear hb1
          go_wp2_with fail
          refine (known_any _).mono ?_
          rintro e w2 ⟨rfl, hb2⟩
          have b2 := b1.trans (hb2.mono b1.size)
          have r1 := (R1.out.below b2).more b2.size
          clear b1 hb2
          go_wp2_with fail
          refine (lcheck_any A n1 c l1 _ HN1.out (by omega) r1).mono ?_
          rw [HE.out]
          rintro e w3 ⟨rfl, rfl⟩
          go_wp2_with (go_at_call 18; fail)
          all_goals
            first
            | (go_ret; exact ⟨rfl, b2⟩)
            | (exfalso; omega)
      · have he1 : (colErr l1 == 0) = false := by simpa using he
        have he2 : (colErr l1 != 0) = true := by simpa using he
        have HE := hide he
        clear he
        go_wp2_with fail
        refine (Springs_err1 A A' n1 c n2 c' l1 s _ _ HN1.out (by omega) (R1.out.drewN _) HE.out).mono ?_
        rintro e w1 ⟨rfl, hb1⟩
        have b1 := below_undrewN hb1
        clear hb1
        go_wp2_with fail
        refine (known_any _).mono ?_
        rintro e w2 ⟨rfl, hb2⟩
        have b2 := b1.trans (hb2.mono b1.size)
        have r1 := (R1.out.below b2).more b2.size
        clear b1 hb2
        go_wp2_with fail
        refine (lcheck_any A n1 c l1 _ HN1.out (by omega) r1).mono ?_
        rintro e w3 ⟨rfl, rfl⟩
        go_wp2_with fail
        go_ret
        exact ⟨rfl, b2⟩

end Go.Proofs.Ytajkmlejklgbbaa
