/- The law SpringEqual, walked. -/
import Derived.Test.YtcnejnaeahffhaaPlaces30
import Derived.Test.YtcnejnaeahffhaaSpEven
namespace Go.Proofs.Ytcnejnaeahffhaa
open Go.RowKit

theorem Two.on2 {wr w' : World} {k B : Nat} {a b : Int} (h : Two wr k a b) (hb : Below B wr w') (hk : k < B) : Two w' k a b :=
  ⟨by have := hb.size; have := h.lt; omega, (hb.cell (p := ⟨_, _, none⟩) hk).trans h.c0, (hb.cell (p := ⟨_, _, none⟩) hk).trans h.c1, (hb.frozen (p := ⟨_, _, none⟩) hk).trans h.f0, (hb.frozen (p := ⟨_, _, none⟩) hk).trans h.f1⟩
theorem spErr_one (s : Spr) : spErr [s] = if s.ok then 0 else 2 := by
  unfold spErr
  rw [if_neg (by simp)]
  by_cases h : s.ok
  · rw [if_pos h, if_pos (by intro t ht; rw [List.mem_singleton.1 ht]; exact h)]
  · rw [if_neg h, if_neg (fun hh => h (hh s (by simp)))]

set_option maxRecDepth 100000 in
set_option maxHeartbeats 4000000 in
theorem equal_law (s : Spr) (a more : Int) (w : World) (ha0 : 0 ≤ a) (ha1 : a ≤ 255) (hm64 : -9223372036854775808 ≤ more ∧ more ≤ 9223372036854775807) :
    Calls Try.prog 6 #[.agg #[.int .i64 s.n, .int .i64 s.m], .int .u8 a, .int .i64 more] w fun e w' => e = .returned (.bool true) ∧ Below w.heap.size w w' := by
  obtain ⟨k, hk⟩ : ∃ k : Nat, (k : Int) = 1 + a % 100 := ⟨(1 + a % 100).toNat, by omega⟩
  have hk1 : 1 ≤ k := by omega
  have hk2 : k ≤ 100 := by omega
  have i0 : IntKind.i64.wrap a = a := IntWalk.i64_in _ (by omega)
  have i1 : a.tmod 100 = a % 100 := Int.tmod_eq_emod_of_nonneg ha0
  have i2 : IntKind.i64.wrap (a % 100) = a % 100 := IntWalk.i64_in _ (by omega)
  have i3 : IntKind.i64.wrap (1 + a % 100) = (k : Int) := by rw [hk]; exact IntWalk.i64_in _ (by omega)
  have HT0 := hide (Two.new (w := w) s.n s.m 45)
  have HB0 := hide ((Below.refl w.heap.size w).alloc (Nat.le_refl _) (.cells #[.int .i64 s.n, .int .i64 s.m] 45))
  clear hk
  go_enter Try.func6, Try.ntmps6
  go_wp2_with fail
  refine (known_any _).mono ?_
  rintro e w1 ⟨rfl, hb⟩
  have HB1 := hide (find1_tr HB0.out hb)
  have HT1 := hide (HT0.out.on hb)
  clear hb
  have t0 := HT1.out.c0
  have t1 := HT1.out.c1
  have t2 := HT1.out.lt
  go_wp2_with fail
  have bA : Below w1.heap.size w1 (w1.alloc (.cells #[.int .i64 s.n, .int .i64 s.m] 45)) := (Below.refl _ _).alloc (Nat.le_refl _) _
  have hrA : Rds (w1.alloc (.cells #[.int .i64 s.n, .int .i64 s.m] 45)) (w1.alloc (.cells #[.int .i64 s.n, .int .i64 s.m] 45)).heap.size (some ⟨w1.heap.size, 0, none⟩) (sprs [s]) :=
    (Rds.new w1 #[.int .i64 s.n, .int .i64 s.m] 45).more (by simp)
  have HB2 := hide (find1_tr HB1.out bA)
  have HT2 := hide (HT1.out.on bA)
  have HCK := hide (rcheck_any (some ⟨w1.heap.size, 0, none⟩) 1 1 [s] _ rfl (by omega) hrA)
  generalize hw2 : w1.alloc (.cells #[.int .i64 s.n, .int .i64 s.m] 45) = w2 at HB2 HT2 HCK ⊢
  clear hw2 bA hrA t0 t1 t2
  by_cases hs : s.ok
  · have HE := hide (show spErr [s] = 0 by rw [spErr_one, if_pos hs])
    have HS := hide hs
    obtain ⟨s0, s1, s2, s3⟩ := Spr.ok_of hs
    clear hs
    refine HCK.out.mono ?_
    rw [HE.out]
    rintro e w2' ⟨rfl, rfl⟩
    rcases (show more < 0 ∨ (0 ≤ more ∧ 16777216 < more) ∨ (0 ≤ more ∧ more ≤ 16777216) by omega) with h1 | ⟨h1, h2⟩ | ⟨h1, h2⟩
    · go_wp2_with fail
      refine (known_any _).mono ?_
      rintro e w3 ⟨rfl, hb⟩
      have HB3 := hide (find1_tr HB2.out hb)
      clear hb
      go_wp2_with fail
      go_ret
      exact ⟨rfl, HB3.out⟩
    · go_wp2_with fail
      refine (known_any _).mono ?_
      rintro e w3 ⟨rfl, hb⟩
      have HB3 := hide (find1_tr HB2.out hb)
      clear hb
      go_wp2_with fail
      go_ret
      exact ⟨rfl, HB3.out⟩
    · have hsw : w.heap.size + 1 ≤ w2.heap.size := HT2.out.lt
      go_wp2_with fail
      go_loopg [8, 9] k (fun gk v i wr => ∃ j : Nat, j ≤ k ∧ i = .int .i64 j ∧ k ≤ gk + j ∧ Hid (wr.ownsRow (w.heap.size + 1) 46 2 v j (sprs (List.replicate j s))) ∧ Hid (Below (w.heap.size + 1) w2 wr))
      case atStart => exact ⟨0, Nat.zero_le _, rfl, by omega, World.ownsRow_nil _ _ _ _, Below.refl _ _⟩
      case round =>
        obtain ⟨j, hj, rfl, hgj, HO, HB⟩ := hrel
        obtain ⟨A1, cc1, rfl, hA1, hcc1, hcc1m⟩ := own_form HO.out
        have hT := HT2.out.on2 HB.out (by omega)
        have t0 := hT.c0
        have t1 := hT.c1
        have t2 := hT.lt
        have hsz := HB.out.size
        by_cases hlt : j < k
        · have HFT := hide (show sprs (List.replicate (j + 1) s) = sprs (List.replicate j s) ++ s.cells by
            rw [List.replicate_succ', sprs, List.flatMap_append]; simp [sprs])
          clear hT
          go_wp2_with (at_builtin; go_must (refine wpList_app rfl (.tmp 41) (.tmp 47) 30 rfl (w.heap.size + 1) spr_ty _ j (sprs (List.replicate j s)) rfl (HO.out.alloc _) (wr.heap.size + 1) (some ⟨wr.heap.size, 0, none⟩) 1 1 s.cells rfl rfl ?_ (spr_one s) (by simp only [maxLen]; omega) (by omega) (by simp; omega) ?_); exact Rds.at_new (by simp) _ _; intro v' w3 o3 g3 b3)
          go_roundg (gk - 1)
          case measure => omega
          case rel =>
            refine ⟨j + 1, by omega, by go_num, by omega, hide (by rw [HFT.out]; exact o3), hide (grown_below (v := Value.slice A1 j cc1) (HB.out.alloc (by omega) _) (HO.out.alloc _) g3 (by simp; omega))⟩
        · have hkn : j = k := by omega
          subst hkn
          have HTT := hide hT
          have HBB := hide (HB2.out.trans (HB.out.mono (by omega)))
          obtain ⟨p, hp⟩ : ∃ p, p = (j : Int) * s.m := ⟨_, rfl⟩
          have p0 : 0 ≤ p := by rw [hp]; exact Int.mul_nonneg (by omega) s2
          have p1 : p ≤ 100 * 1048576 := by rw [hp]; exact Int.mul_le_mul (by omega) s3 s2 (by omega)
          have k1 : IntKind.i64.wrap ((j : Int) * s.m) = p := by rw [← hp]; exact IntWalk.i64_in _ (by omega)
          have k2 : IntKind.i64.wrap (p + more) = p + more := IntWalk.i64_in _ (by omega)
          have HP := hide hp
          clear hT hp hgj
          rcases (show 67108864 < p + more ∨ p + more ≤ 67108864 by omega) with h3 | h3
          · go_wp2_with fail
            go_ret
            exact ⟨rfl, HBB.out⟩
          · have hall : ∀ t ∈ List.replicate j s, t.ok := fun t ht => by rw [List.eq_of_mem_replicate ht]; exact HS.out
            have HFE := hide (show fitErr (List.replicate j s) (p + more) = 0 by
              have hsp : spErr (List.replicate j s) = 0 := by
                rw [spErr, if_neg (by rw [List.length_replicate]; omega), if_pos hall]
              rw [fitErr, if_neg (by rw [hsp]; simp), if_neg (by omega), if_neg (by rw [mins_rep, ← HP.out]; omega)])
            have HR1 := hide (Rds.own HO.out)
            have HSV := hide (Solve_ok A1 j cc1 (List.replicate j s) (p + more) wr (by rw [List.length_replicate]) hk1 HR1.out HFE.out)
            clear hall
            go_wp2_with fail
            refine HSV.out.mono ?_
            rintro e w4 ⟨g, xs, rfl, hrx, hso, hb⟩
            have hxs := equal (k := j) (s := s) (by omega) ⟨s0, s2⟩ h1 (x := xs) (by rw [← HP.out]; exact hso)
            have HXS := hide hxs
            have HRX := hide hrx
            have HB4 := hide (find1_tr HBB.out hb)
            have HT4 := hide (HTT.out.on hb)
            obtain ⟨dv, hdv⟩ : ∃ dv, dv = more / (j : Int) := ⟨_, rfl⟩
            obtain ⟨md, hmd⟩ : ∃ md, md = more % (j : Int) := ⟨_, rfl⟩
            have q2 : more.tdiv (j : Int) = dv := by rw [hdv]; exact Int.tdiv_eq_ediv_of_nonneg h1
            have q3 : more.tmod (j : Int) = md := by rw [hmd]; exact Int.tmod_eq_emod_of_nonneg h1
            have dv0 : 0 ≤ dv := by rw [hdv]; exact Int.ediv_nonneg h1 (by omega)
            have dv1 : dv ≤ 16777216 := by have := Int.ediv_le_self (j : Int) h1; omega
            have md0 : 0 ≤ md := by rw [hmd]; exact Int.emod_nonneg _ (by omega)
            have md1 : md < j := by rw [hmd]; exact Int.emod_lt_of_pos _ (by omega)
            have q4 : IntKind.i64.wrap dv = dv := IntWalk.i64_in _ (by omega)
            have q5 : IntKind.i64.wrap md = md := IntWalk.i64_in _ (by omega)
            have q6 : ¬ (j : Int) = 0 := by omega
            have q7 : IntKind.i64.wrap (s.m + dv) = s.m + dv := IntWalk.i64_in _ (by omega)
            have q8 : IntKind.i64.wrap (s.m + dv + 1) = s.m + dv + 1 := IntWalk.i64_in _ (by omega)
            have HG := hide (fun (i : Nat) (hi : i < j) => show xs[i]? = some (s.m + dv + if (i : Int) < md then 1 else 0) by
              have e1 : (List.replicate j s)[i]? = some s := by rw [List.getElem?_replicate, if_pos hi]
              have e2 := evenF_get (List.replicate j s) more e1
              rw [List.length_replicate, ← hdv, ← hmd] at e2
              rw [HXS.out]; exact e2)
            clear t0 t1 hxs hrx hso hb hdv hmd HSV HFE HR1 HO
            go_wp2_with fail
            go_loopg [13] j (fun gk i wr => ∃ i0 : Nat, i0 ≤ j ∧ i = .int .i64 i0 ∧ j ≤ gk + i0 ∧ Hid (Below w4.heap.size w4 wr))
            case atStart => exact ⟨0, Nat.zero_le _, rfl, by omega, Below.refl _ _⟩
            case round =>
              obtain ⟨i, hi, rfl, hgi, HC⟩ := hrel
              by_cases hlt2 : i < j
              · have hx := HG.out i hlt2
                have t0 := (HT4.out.on HC.out).c0
                have t1 := (HT4.out.on HC.out).c1
                have j1 : IntKind.i64.wrap (i : Int) = (i : Int) := IntWalk.i64_in _ (by omega)
                have j3 : ((i : Int)).toNat = i := by omega
                have j4 : (0 : Int) ≤ (i : Int) := by omega
                have j5 : (i : Int) < (j : Int) := by omega
                rcases (show (i : Int) < md ∨ md ≤ (i : Int) by omega) with h5 | h5
                · rw [if_pos h5] at hx
                  obtain ⟨bx, ox, e1, hbx, d0⟩ := (Rds.on2 HRX.out HC.out).int hx
                  simp only [Option.some.injEq, Addr.mk.injEq, and_true] at e1
                  obtain ⟨rfl, rfl⟩ := e1
                  rw [Nat.zero_add] at d0
                  clear hx
                  go_wp2_with fail
                  go_quiet (fail)
                  go_wp2_with fail
                  go_roundg (gk - 1)
                  case measure => omega
                  case rel => exact ⟨i + 1, by omega, by go_num, by omega, hide (below_drewN HC.out _)⟩
                · rw [if_neg (by omega), Int.add_zero] at hx
                  obtain ⟨bx, ox, e1, hbx, d0⟩ := (Rds.on2 HRX.out HC.out).int hx
                  simp only [Option.some.injEq, Addr.mk.injEq, and_true] at e1
                  obtain ⟨rfl, rfl⟩ := e1
                  rw [Nat.zero_add] at d0
                  have h6 : ¬ (i : Int) < md := by omega
                  clear hx
                  go_wp2_with fail
                  go_quiet (fail)
                  go_wp2_with fail
                  go_roundg (gk - 1)
                  case measure => omega
                  case rel => exact ⟨i + 1, by omega, by go_num, by omega, hide (below_drewN HC.out _)⟩
              · go_wp2_with fail
                go_ret
                exact ⟨rfl, find1_tr HB4.out HC.out⟩
  · have HE := hide (show spErr [s] = 2 by rw [spErr_one, if_neg hs])
    refine HCK.out.mono ?_
    rw [HE.out]
    rintro e w2' ⟨rfl, rfl⟩
    clear hs
    go_wp2_with fail
    refine (known_any _).mono ?_
    rintro e w3 ⟨rfl, hb⟩
    have HB3 := hide (find1_tr HB2.out hb)
    clear hb
    go_wp2_with fail
    go_ret
    exact ⟨rfl, HB3.out⟩

theorem springEqual_walk {w : World} (s : Spr) (_ : Spr.wf w s) (x : Int) (hx : (Lit.int .u8 x).wf = true) (y : Int) (hy : (Lit.int .i64 y).wf = true) :
    Calls Try.prog 6 #[.agg #[.int .i64 s.n, .int .i64 s.m], .int .u8 x, .int .i64 y] w fun e w' => e = .returned (.bool true) ∧ Below w.heap.size w w' := by
  have h1 : 0 ≤ x ∧ x ≤ 255 := by
    have h : IntKind.u8.min ≤ x ∧ x ≤ IntKind.u8.max := by simpa [Lit.wf] using hx
    exact h
  exact equal_law s x y w h1.1 h1.2 (in64_of hy)

end Go.Proofs.Ytcnejnaeahffhaa
