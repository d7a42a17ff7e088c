/- The reference's Parse at a text with a sign. -/
import Derived.Test.YtfappkhohddcjaaDoorParP
namespace Go.Proofs.YtfappkhohddcjaaDoor
open Go.RowKit

set_option maxRecDepth 100000 in
set_option maxHeartbeats 16000000 in
theorem RParse_minus (s : ByteArray) (w : World) (hs : s.size ≤ 1000000000) (hpos : 0 < s.size) (h45 : s.data.toList[0]? = some 45) :
    Calls Tryd.prog 28 #[.string s] w fun e w' => e = .returned (.tuple #[.agg #[.int .i64 (parF s.data.toList).1.n, .int .i64 (parF s.data.toList).1.d], .int .i64 ((parF s.data.toList).2 : Nat), .int .i64 (parF s.data.toList).1.e]) ∧ Below w.heap.size w w' := by
  have hlen := toList_len s
  obtain ⟨t1, t2⟩ := str_ne (s := s) (by omega)
  have t3 := (get_bool (s := s) (k := 0) (h := hpos) (c := 45) (m := 45) rfl).1.1 h45
  have hsg : signF s.data.toList = 1 := by rw [signF, if_pos h45]
  have HS := hide (S2.new w 0 0 0 1 26)
  have HA := hide (show ∀ W, Calls Tryd.prog 53 #[.string s, .int .i64 1] W fun e w' => e = .returned (.tuple #[.int .i64 (((numF s.data.toList 1).v : Int)), .int .i64 (((numF s.data.toList 1).at_ : Int)), .int .i64 ((numF s.data.toList 1).e), .int .i64 (numB (numF s.data.toList 1))]) ∧ W = w' from fun W => rnumber_any s 1 W hs (by omega))
  obtain ⟨hk, hv⟩ := numF_at s.data.toList 1 (by omega)
  have hp0 : parF s.data.toList = if (numF s.data.toList 1).e = 0 then slash s.data.toList (-((numF s.data.toList 1).v : Int)) (numF s.data.toList 1).at_ else (⟨0, 1, (numF s.data.toList 1).e⟩, (numF s.data.toList 1).at_) := by
    rw [parF, hsg]; rfl
  obtain ⟨A, hA⟩ : ∃ A, A = numF s.data.toList 1 := ⟨_, rfl⟩
  rw [← hA] at HA hk hv hp0
  obtain ⟨v, k, e⟩ := A
  simp only at HA hk hv hp0
  rw [hlen] at hk
  clear hA hsg h45
  by_cases he : e = 0
  · subst he
    rw [if_pos rfl] at hp0
    rw [show numB ⟨v, k, 0⟩ = 0 from rfl] at HA
    have i1 : IntKind.i64.wrap (-(v : Int)) = -(v : Int) := IntWalk.i64_in _ (by omega)
    have i3 : IntKind.i64.wrap (-1 * (v : Int)) = -(v : Int) := by rw [Int.neg_one_mul]; exact i1
    rcases (show k = s.size ∨ k < s.size by omega) with hke | hkl
    · subst hke
      have HP := hide (hp0.trans (by rw [slash, if_neg (by rw [List.getElem?_eq_none (by omega)]; simp)]))
      clear hp0
      have HO := hide (fun W => ROf_any (-(v : Int)) (1) W ⟨by omega, by omega⟩ ⟨by omega, by omega⟩)
      have HQ := hide (ofF_fq (-(v : Int)) 1)
      have HV0 := hide (show parF s.data.toList = if (ofF (-(v : Int)) 1).e = 0 ∧ textF (ofF (-(v : Int)) 1).n (ofF (-(v : Int)) 1).d = s.data.toList then (ofF (-(v : Int)) 1, 0) else (⟨0, 1, 3⟩, 0) from HP.out.trans (by rw [finF, if_neg (by omega)]))
      obtain ⟨F, hF⟩ : ∃ F, F = ofF (-(v : Int)) 1 := ⟨_, rfl⟩
      rw [← hF] at HO HQ HV0
      clear hF
      by_cases hFe : F.e = 0
      · have HX := hide (fun W => RText_any F.n F.d W HQ.out)
        obtain ⟨T, hT⟩ : ∃ T, T = textF F.n F.d := ⟨_, rfl⟩
        rw [← hT] at HX HV0
        rw [hFe] at HO
        have HFE := hide hFe
        clear hT hFe
        by_cases hts : T = s.data.toList
        · have HV := hide (show parF s.data.toList = (F, 0) by rw [HV0.out, if_pos ⟨HFE.out, hts⟩])
          have hne := ne_bool.1 hts
          clear hts HV0
          go_enter Tryd.func28, Tryd.ntmps28
          go_wp2_with fail
          generalize (w.alloc (.cells #[.int .i64 0, .int .i64 0] 26)).alloc (.cells #[.int .i64 0, .int .i64 1] 26) = wX at HS ⊢
          refine (HA.out _).mono ?_
          rintro e1 w1 ⟨rfl, rfl⟩
          go_wp2_with fail
          refine (HO.out _).mono ?_
          rintro e3 w3 ⟨rfl, hb⟩
          have HS3 := hide (HS.out.on hb)
          clear hb
          go_wp2_with fail
          have HS4 := hide (HS3.out.on ((Below.refl w3.heap.size w3).alloc (Nat.le_refl _) (.cells #[.int .i64 F.n, .int .i64 F.d] 26)))
          have HY4 := hide (Two.new w3 F.n F.d 26)
          generalize w3.alloc (.cells #[.int .i64 F.n, .int .i64 F.d] 26) = w4 at HS4 HY4 ⊢
          generalize w3.heap.size = y at HY4 ⊢
          have c0 := HY4.out.c0
          have c1 := HY4.out.c1
          go_wp2_with fail
          refine (HX.out _).mono ?_
          rintro e5 w5 ⟨rfl, hb⟩
          have HS5 := hide (HS4.out.on hb)
          have HY5 := hide (HY4.out.on hb HY4.out.lt)
          clear hb c0 c1
          have r0 := HS5.out.tx.c0
          have r1 := HS5.out.tx.c1
          have r2 := HS5.out.tx.f0
          have r3 := HS5.out.tx.f1
          have z0 := HS5.out.ty.c0
          have z1 := HS5.out.ty.c1
          have d0 := (HS5.out.tx.set (F.n) (F.d)).c0
          have d1 := (HS5.out.tx.set (F.n) (F.d)).c1
          have c0 := HY5.out.c0
          have c1 := HY5.out.c1
          go_wp2_with fail
          refine bodyPost_ret (v := .tuple #[.agg #[.int .i64 (F.n), .int .i64 (F.d)], .int .i64 (0), .int .i64 (0)]) (by simp [results, Tryd.results28, go_sem, d0, d1]) rfl ?_
          exact ⟨by rw [HV.out] <;> (simp [HFE.out]), (HS5.out.set1 (Nat.le_refl _) _ _).bel⟩
        · have HV := hide (show parF s.data.toList = (⟨0, 1, 3⟩, 0) by rw [HV0.out, if_neg (fun h => hts h.2)])
          have hne := ne_bool.2 hts
          clear hts HV0
          go_enter Tryd.func28, Tryd.ntmps28
          go_wp2_with fail
          generalize (w.alloc (.cells #[.int .i64 0, .int .i64 0] 26)).alloc (.cells #[.int .i64 0, .int .i64 1] 26) = wX at HS ⊢
          refine (HA.out _).mono ?_
          rintro e1 w1 ⟨rfl, rfl⟩
          go_wp2_with fail
          refine (HO.out _).mono ?_
          rintro e3 w3 ⟨rfl, hb⟩
          have HS3 := hide (HS.out.on hb)
          clear hb
          go_wp2_with fail
          have HS4 := hide (HS3.out.on ((Below.refl w3.heap.size w3).alloc (Nat.le_refl _) (.cells #[.int .i64 F.n, .int .i64 F.d] 26)))
          have HY4 := hide (Two.new w3 F.n F.d 26)
          generalize w3.alloc (.cells #[.int .i64 F.n, .int .i64 F.d] 26) = w4 at HS4 HY4 ⊢
          generalize w3.heap.size = y at HY4 ⊢
          have c0 := HY4.out.c0
          have c1 := HY4.out.c1
          go_wp2_with fail
          refine (HX.out _).mono ?_
          rintro e5 w5 ⟨rfl, hb⟩
          have HS5 := hide (HS4.out.on hb)
          have HY5 := hide (HY4.out.on hb HY4.out.lt)
          clear hb c0 c1
          have r0 := HS5.out.tx.c0
          have r1 := HS5.out.tx.c1
          have r2 := HS5.out.tx.f0
          have r3 := HS5.out.tx.f1
          have z0 := HS5.out.ty.c0
          have z1 := HS5.out.ty.c1
          have d0 := (HS5.out.tx.set (0) (1)).c0
          have d1 := (HS5.out.tx.set (0) (1)).c1
          go_wp2_with fail
          refine bodyPost_ret (v := .tuple #[.agg #[.int .i64 (0), .int .i64 (1)], .int .i64 (0), .int .i64 (3)]) (by simp [results, Tryd.results28, go_sem, d0, d1]) rfl ?_
          exact ⟨by rw [HV.out] <;> (first | rfl | simp), (HS5.out.set1 (Nat.le_refl _) _ _).bel⟩
      · have HV := hide (show parF s.data.toList = (⟨0, 1, 3⟩, 0) by rw [HV0.out, if_neg (fun h => hFe h.1)])
        have hFe' : (F.e != 0) = true := by simpa using hFe
        clear HV0
        go_enter Tryd.func28, Tryd.ntmps28
        go_wp2_with fail
        generalize (w.alloc (.cells #[.int .i64 0, .int .i64 0] 26)).alloc (.cells #[.int .i64 0, .int .i64 1] 26) = wX at HS ⊢
        refine (HA.out _).mono ?_
        rintro e1 w1 ⟨rfl, rfl⟩
        go_wp2_with fail
        refine (HO.out _).mono ?_
        rintro e3 w3 ⟨rfl, hb⟩
        have HS3 := hide (HS.out.on hb)
        clear hb
        have HS4 := hide (HS3.out.on ((Below.refl w3.heap.size w3).alloc (Nat.le_refl _) (.cells #[.int .i64 F.n, .int .i64 F.d] 26)))
        have r0 := HS4.out.tx.c0
        have r1 := HS4.out.tx.c1
        have r2 := HS4.out.tx.f0
        have r3 := HS4.out.tx.f1
        have z0 := HS4.out.ty.c0
        have z1 := HS4.out.ty.c1
        have d0 := (HS4.out.tx.set (0) (1)).c0
        have d1 := (HS4.out.tx.set (0) (1)).c1
        go_wp2_with fail
        refine bodyPost_ret (v := .tuple #[.agg #[.int .i64 (0), .int .i64 (1)], .int .i64 (0), .int .i64 (3)]) (by simp [results, Tryd.results28, go_sem, d0, d1]) rfl ?_
        exact ⟨by rw [HV.out] <;> (first | rfl | simp), (HS4.out.set1 (Nat.le_refl _) _ _).bel⟩
    · have hkl' : (k : Int) < (s.size : Int) := by omega
      by_cases hsl : s.data.toList[k]? = some 47
      · have t4 := (get_bool (s := s) (k := k) (h := hkl) (c := 47) (m := 47) rfl).1.1 hsl
        have HB := hide (show ∀ W, Calls Tryd.prog 53 #[.string s, .int .i64 ((k : Int) + 1)] W fun e w' => e = .returned (.tuple #[.int .i64 (((numF s.data.toList (k + 1)).v : Int)), .int .i64 (((numF s.data.toList (k + 1)).at_ : Int)), .int .i64 ((numF s.data.toList (k + 1)).e), .int .i64 (numB (numF s.data.toList (k + 1)))]) ∧ W = w' from fun W => rnumber_any s (k + 1) W hs (by omega))
        have i2 : IntKind.i64.wrap ((k : Int) + 1) = (k : Int) + 1 := IntWalk.i64_in _ (by omega)
        obtain ⟨hk2, hv2⟩ := numF_at s.data.toList (k + 1) (by omega)
        rw [slash, if_pos hsl] at hp0
        obtain ⟨B, hB⟩ : ∃ B, B = numF s.data.toList (k + 1) := ⟨_, rfl⟩
        rw [← hB] at HB hk2 hv2 hp0
        obtain ⟨v2, k2, e2⟩ := B
        simp only at HB hk2 hv2 hp0
        rw [hlen] at hk2
        clear hB hsl
        by_cases he2 : e2 = 0
        · subst he2
          rw [if_pos rfl] at hp0
          rw [show numB ⟨v2, k2, 0⟩ = 0 from rfl] at HB
          rcases (show k2 = s.size ∨ k2 < s.size by omega) with hke | hkl2
          · subst hke
            have HP := hide hp0
            clear hp0
            have HO := hide (fun W => ROf_any (-(v : Int)) ((v2 : Int)) W ⟨by omega, by omega⟩ ⟨by omega, by omega⟩)
            have HQ := hide (ofF_fq (-(v : Int)) (v2 : Int))
            have HV0 := hide (show parF s.data.toList = if (ofF (-(v : Int)) (v2 : Int)).e = 0 ∧ textF (ofF (-(v : Int)) (v2 : Int)).n (ofF (-(v : Int)) (v2 : Int)).d = s.data.toList then (ofF (-(v : Int)) (v2 : Int), 0) else (⟨0, 1, 3⟩, 0) from HP.out.trans (by rw [finF, if_neg (by omega)]))
            obtain ⟨F, hF⟩ : ∃ F, F = ofF (-(v : Int)) (v2 : Int) := ⟨_, rfl⟩
            rw [← hF] at HO HQ HV0
            clear hF
            by_cases hFe : F.e = 0
            · have HX := hide (fun W => RText_any F.n F.d W HQ.out)
              obtain ⟨T, hT⟩ : ∃ T, T = textF F.n F.d := ⟨_, rfl⟩
              rw [← hT] at HX HV0
              rw [hFe] at HO
              have HFE := hide hFe
              clear hT hFe
              by_cases hts : T = s.data.toList
              · have HV := hide (show parF s.data.toList = (F, 0) by rw [HV0.out, if_pos ⟨HFE.out, hts⟩])
                have hne := ne_bool.1 hts
                clear hts HV0
                go_enter Tryd.func28, Tryd.ntmps28
                go_wp2_with fail
                generalize (w.alloc (.cells #[.int .i64 0, .int .i64 0] 26)).alloc (.cells #[.int .i64 0, .int .i64 1] 26) = wX at HS ⊢
                refine (HA.out _).mono ?_
                rintro e1 w1 ⟨rfl, rfl⟩
                go_wp2_with fail
                refine (HB.out _).mono ?_
                rintro e2 w2 ⟨rfl, rfl⟩
                go_wp2_with fail
                refine (HO.out _).mono ?_
                rintro e3 w3 ⟨rfl, hb⟩
                have HS3 := hide (HS.out.on hb)
                clear hb
                go_wp2_with fail
                have HS4 := hide (HS3.out.on ((Below.refl w3.heap.size w3).alloc (Nat.le_refl _) (.cells #[.int .i64 F.n, .int .i64 F.d] 26)))
                have HY4 := hide (Two.new w3 F.n F.d 26)
                generalize w3.alloc (.cells #[.int .i64 F.n, .int .i64 F.d] 26) = w4 at HS4 HY4 ⊢
                generalize w3.heap.size = y at HY4 ⊢
                have c0 := HY4.out.c0
                have c1 := HY4.out.c1
                go_wp2_with fail
                refine (HX.out _).mono ?_
                rintro e5 w5 ⟨rfl, hb⟩
                have HS5 := hide (HS4.out.on hb)
                have HY5 := hide (HY4.out.on hb HY4.out.lt)
                clear hb c0 c1
                have r0 := HS5.out.tx.c0
                have r1 := HS5.out.tx.c1
                have r2 := HS5.out.tx.f0
                have r3 := HS5.out.tx.f1
                have z0 := HS5.out.ty.c0
                have z1 := HS5.out.ty.c1
                have d0 := (HS5.out.tx.set (F.n) (F.d)).c0
                have d1 := (HS5.out.tx.set (F.n) (F.d)).c1
                have c0 := HY5.out.c0
                have c1 := HY5.out.c1
                go_wp2_with fail
                refine bodyPost_ret (v := .tuple #[.agg #[.int .i64 (F.n), .int .i64 (F.d)], .int .i64 (0), .int .i64 (0)]) (by simp [results, Tryd.results28, go_sem, d0, d1]) rfl ?_
                exact ⟨by rw [HV.out] <;> (simp [HFE.out]), (HS5.out.set1 (Nat.le_refl _) _ _).bel⟩
              · have HV := hide (show parF s.data.toList = (⟨0, 1, 3⟩, 0) by rw [HV0.out, if_neg (fun h => hts h.2)])
                have hne := ne_bool.2 hts
                clear hts HV0
                go_enter Tryd.func28, Tryd.ntmps28
                go_wp2_with fail
                generalize (w.alloc (.cells #[.int .i64 0, .int .i64 0] 26)).alloc (.cells #[.int .i64 0, .int .i64 1] 26) = wX at HS ⊢
                refine (HA.out _).mono ?_
                rintro e1 w1 ⟨rfl, rfl⟩
                go_wp2_with fail
                refine (HB.out _).mono ?_
                rintro e2 w2 ⟨rfl, rfl⟩
                go_wp2_with fail
                refine (HO.out _).mono ?_
                rintro e3 w3 ⟨rfl, hb⟩
                have HS3 := hide (HS.out.on hb)
                clear hb
                go_wp2_with fail
                have HS4 := hide (HS3.out.on ((Below.refl w3.heap.size w3).alloc (Nat.le_refl _) (.cells #[.int .i64 F.n, .int .i64 F.d] 26)))
                have HY4 := hide (Two.new w3 F.n F.d 26)
                generalize w3.alloc (.cells #[.int .i64 F.n, .int .i64 F.d] 26) = w4 at HS4 HY4 ⊢
                generalize w3.heap.size = y at HY4 ⊢
                have c0 := HY4.out.c0
                have c1 := HY4.out.c1
                go_wp2_with fail
                refine (HX.out _).mono ?_
                rintro e5 w5 ⟨rfl, hb⟩
                have HS5 := hide (HS4.out.on hb)
                have HY5 := hide (HY4.out.on hb HY4.out.lt)
                clear hb c0 c1
                have r0 := HS5.out.tx.c0
                have r1 := HS5.out.tx.c1
                have r2 := HS5.out.tx.f0
                have r3 := HS5.out.tx.f1
                have z0 := HS5.out.ty.c0
                have z1 := HS5.out.ty.c1
                have d0 := (HS5.out.tx.set (0) (1)).c0
                have d1 := (HS5.out.tx.set (0) (1)).c1
                go_wp2_with fail
                refine bodyPost_ret (v := .tuple #[.agg #[.int .i64 (0), .int .i64 (1)], .int .i64 (0), .int .i64 (3)]) (by simp [results, Tryd.results28, go_sem, d0, d1]) rfl ?_
                exact ⟨by rw [HV.out] <;> (first | rfl | simp), (HS5.out.set1 (Nat.le_refl _) _ _).bel⟩
            · have HV := hide (show parF s.data.toList = (⟨0, 1, 3⟩, 0) by rw [HV0.out, if_neg (fun h => hFe h.1)])
              have hFe' : (F.e != 0) = true := by simpa using hFe
              clear HV0
              go_enter Tryd.func28, Tryd.ntmps28
              go_wp2_with fail
              generalize (w.alloc (.cells #[.int .i64 0, .int .i64 0] 26)).alloc (.cells #[.int .i64 0, .int .i64 1] 26) = wX at HS ⊢
              refine (HA.out _).mono ?_
              rintro e1 w1 ⟨rfl, rfl⟩
              go_wp2_with fail
              refine (HB.out _).mono ?_
              rintro e2 w2 ⟨rfl, rfl⟩
              go_wp2_with fail
              refine (HO.out _).mono ?_
              rintro e3 w3 ⟨rfl, hb⟩
              have HS3 := hide (HS.out.on hb)
              clear hb
              have HS4 := hide (HS3.out.on ((Below.refl w3.heap.size w3).alloc (Nat.le_refl _) (.cells #[.int .i64 F.n, .int .i64 F.d] 26)))
              have r0 := HS4.out.tx.c0
              have r1 := HS4.out.tx.c1
              have r2 := HS4.out.tx.f0
              have r3 := HS4.out.tx.f1
              have z0 := HS4.out.ty.c0
              have z1 := HS4.out.ty.c1
              have d0 := (HS4.out.tx.set (0) (1)).c0
              have d1 := (HS4.out.tx.set (0) (1)).c1
              go_wp2_with fail
              refine bodyPost_ret (v := .tuple #[.agg #[.int .i64 (0), .int .i64 (1)], .int .i64 (0), .int .i64 (3)]) (by simp [results, Tryd.results28, go_sem, d0, d1]) rfl ?_
              exact ⟨by rw [HV.out] <;> (first | rfl | simp), (HS4.out.set1 (Nat.le_refl _) _ _).bel⟩
          · have hkl2' : (k2 : Int) < (s.size : Int) := by omega
            have HV := hide (show parF s.data.toList = (⟨0, 1, 6⟩, k2) from hp0.trans (by rw [finF, if_pos (by omega)]))
            clear hp0
            go_enter Tryd.func28, Tryd.ntmps28
            go_wp2_with fail
            generalize (w.alloc (.cells #[.int .i64 0, .int .i64 0] 26)).alloc (.cells #[.int .i64 0, .int .i64 1] 26) = wX at HS ⊢
            refine (HA.out _).mono ?_
            rintro e1 w1 ⟨rfl, rfl⟩
            go_wp2_with fail
            refine (HB.out _).mono ?_
            rintro e2 w2 ⟨rfl, rfl⟩
            have r0 := HS.out.tx.c0
            have r1 := HS.out.tx.c1
            have r2 := HS.out.tx.f0
            have r3 := HS.out.tx.f1
            have z0 := HS.out.ty.c0
            have z1 := HS.out.ty.c1
            have d0 := (HS.out.tx.set (0) (1)).c0
            have d1 := (HS.out.tx.set (0) (1)).c1
            go_wp2_with fail
            refine bodyPost_ret (v := .tuple #[.agg #[.int .i64 (0), .int .i64 (1)], .int .i64 (k2), .int .i64 (6)]) (by simp [results, Tryd.results28, go_sem, d0, d1]) rfl ?_
            exact ⟨by rw [HV.out] <;> (first | rfl | simp), (HS.out.set1 (Nat.le_refl _) _ _).bel⟩
        · have HV := hide (show parF s.data.toList = (⟨0, 1, e2⟩, k2) from hp0.trans (by rw [if_neg he2]))
          have he2' : (e2 != 0) = true := by simpa using he2
          rw [show numB ⟨v2, k2, e2⟩ = (k2 : Int) from if_neg he2] at HB
          clear hp0
          go_enter Tryd.func28, Tryd.ntmps28
          go_wp2_with fail
          generalize (w.alloc (.cells #[.int .i64 0, .int .i64 0] 26)).alloc (.cells #[.int .i64 0, .int .i64 1] 26) = wX at HS ⊢
          refine (HA.out _).mono ?_
          rintro e1 w1 ⟨rfl, rfl⟩
          go_wp2_with fail
          refine (HB.out _).mono ?_
          rintro e2 w2 ⟨rfl, rfl⟩
          have r0 := HS.out.tx.c0
          have r1 := HS.out.tx.c1
          have r2 := HS.out.tx.f0
          have r3 := HS.out.tx.f1
          have z0 := HS.out.ty.c0
          have z1 := HS.out.ty.c1
          have d0 := (HS.out.tx.set (0) (1)).c0
          have d1 := (HS.out.tx.set (0) (1)).c1
          go_wp2_with fail
          refine bodyPost_ret (v := .tuple #[.agg #[.int .i64 (0), .int .i64 (1)], .int .i64 (k2), .int .i64 (e2)]) (by simp [results, Tryd.results28, go_sem, d0, d1]) rfl ?_
          exact ⟨by rw [HV.out] <;> (first | rfl | simp), (HS.out.set1 (Nat.le_refl _) _ _).bel⟩
      · have t4 := (get_bool (s := s) (k := k) (h := hkl) (c := 47) (m := 47) rfl).2.1 hsl
        have HV := hide (show parF s.data.toList = (⟨0, 1, 6⟩, k) from hp0.trans (by rw [slash, if_neg hsl, finF, if_pos (by omega)]))
        clear hp0 hsl
        go_enter Tryd.func28, Tryd.ntmps28
        go_wp2_with fail
        generalize (w.alloc (.cells #[.int .i64 0, .int .i64 0] 26)).alloc (.cells #[.int .i64 0, .int .i64 1] 26) = wX at HS ⊢
        refine (HA.out _).mono ?_
        rintro e1 w1 ⟨rfl, rfl⟩
        have r0 := HS.out.tx.c0
        have r1 := HS.out.tx.c1
        have r2 := HS.out.tx.f0
        have r3 := HS.out.tx.f1
        have z0 := HS.out.ty.c0
        have z1 := HS.out.ty.c1
        have d0 := (HS.out.tx.set (0) (1)).c0
        have d1 := (HS.out.tx.set (0) (1)).c1
        go_wp2_with fail
        refine bodyPost_ret (v := .tuple #[.agg #[.int .i64 (0), .int .i64 (1)], .int .i64 (k), .int .i64 (6)]) (by simp [results, Tryd.results28, go_sem, d0, d1]) rfl ?_
        exact ⟨by rw [HV.out] <;> (first | rfl | simp), (HS.out.set1 (Nat.le_refl _) _ _).bel⟩
  · have HV := hide (show parF s.data.toList = (⟨0, 1, e⟩, k) from hp0.trans (by rw [if_neg he]))
    have he' : (e != 0) = true := by simpa using he
    rw [show numB ⟨v, k, e⟩ = (k : Int) from if_neg he] at HA
    clear hp0
    go_enter Tryd.func28, Tryd.ntmps28
    go_wp2_with fail
    generalize (w.alloc (.cells #[.int .i64 0, .int .i64 0] 26)).alloc (.cells #[.int .i64 0, .int .i64 1] 26) = wX at HS ⊢
    refine (HA.out _).mono ?_
    rintro e1 w1 ⟨rfl, rfl⟩
    have r0 := HS.out.tx.c0
    have r1 := HS.out.tx.c1
    have r2 := HS.out.tx.f0
    have r3 := HS.out.tx.f1
    have z0 := HS.out.ty.c0
    have z1 := HS.out.ty.c1
    have d0 := (HS.out.tx.set (0) (1)).c0
    have d1 := (HS.out.tx.set (0) (1)).c1
    go_wp2_with fail
    refine bodyPost_ret (v := .tuple #[.agg #[.int .i64 (0), .int .i64 (1)], .int .i64 (k), .int .i64 (e)]) (by simp [results, Tryd.results28, go_sem, d0, d1]) rfl ?_
    exact ⟨by rw [HV.out] <;> (first | rfl | simp), (HS.out.set1 (Nat.le_refl _) _ _).bel⟩

end Go.Proofs.YtfappkhohddcjaaDoor
