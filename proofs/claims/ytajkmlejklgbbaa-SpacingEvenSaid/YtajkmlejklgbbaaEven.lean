/- The law SpacingEven, walked. -/
import Derived.Test.YtajkmlejklgbbaaPlace
import Derived.Test.YtajkmlejklgbbaaLspr
namespace Go.Proofs.Ytajkmlejklgbbaa
open Go.RowKit

theorem colsE_ty : ElemTy Try.prog 29 41 3 24 :=
  ElemTy.of (z := .agg #[.int .i64 0, .int .i64 0, .int .i64 0]) Try.underlying29 (by kernel_rfl) rfl (by omega)
theorem colsE_one (l : List Col) : ∀ u ∈ cols l, u.oneCell' = true := by
  intro u hu
  simp only [cols, List.mem_flatMap] at hu
  obtain ⟨a, _, ha⟩ := hu
  simp only [Col.cells, List.mem_cons, List.not_mem_nil, or_false] at ha
  rcases ha with rfl | rfl | rfl <;> rfl
theorem colErr_one (c : Col) : colErr [c] = if c.ok then 0 else 2 := by
  unfold colErr
  rw [if_neg (by simp)]
  by_cases h : c.ok
  · rw [if_pos h, if_pos (by intro t ht; rw [List.mem_singleton.1 ht]; exact h)]
  · rw [if_neg h, if_neg (fun hh => h (hh c (by simp)))]
theorem nat_self {t : Int} (h : 0 < t) : nat t t = 96 := by
  rw [nat, if_neg (by omega), natR_end t t 96 (by omega), Int.sub_self, Int.mul_zero, Int.zero_ediv]
  rfl
theorem zip_rep {f : Col → Col → Spr} (c : Col) : ∀ k, List.zipWith f (List.replicate (k + 1) c) (List.replicate k c) = List.replicate k (f c c) := by
  intro k
  induction k with
  | zero => simp
  | succ k ih =>
    show f c c :: List.zipWith f (List.replicate (k + 1) c) (List.replicate k c) = f c c :: List.replicate k (f c c)
    rw [ih]
theorem base_rep {c : Col} (h : 0 < c.t) (k : Nat) : baseS c.t 8 (List.replicate (k + 1) c) = List.replicate k ⟨96, c.r + c.l + 8⟩ := by
  unfold baseS
  rw [show (List.replicate (k + 1) c).drop 1 = List.replicate k c by simp, zip_rep]
  congr 1
  unfold sprOf
  have hz : c.nz = true := by
    unfold Col.nz
    have : (c.t == 0) = false := by simp; omega
    rw [this]; simp
  rw [if_pos h, nat_self h, hz]
  rfl

/-- a block of a column -/
structure Three (wr : World) (k : Nat) (c : Col) : Prop where
  lt : k < wr.heap.size
  c0 : wr.cell? ⟨k, 0, none⟩ = some (.int .i64 c.l)
  c1 : wr.cell? ⟨k, 1, none⟩ = some (.int .i64 c.r)
  c2 : wr.cell? ⟨k, 2, none⟩ = some (.int .i64 c.t)
theorem Three.on {wr w' : World} {k B : Nat} {c : Col} (h : Three wr k c) (hb : Below B wr w') (hk : k < B) : Three w' k c :=
  ⟨by have := hb.size; have := h.lt; omega, (hb.cell (p := ⟨_, _, none⟩) hk).trans h.c0, (hb.cell (p := ⟨_, _, none⟩) hk).trans h.c1, (hb.cell (p := ⟨_, _, none⟩) hk).trans h.c2⟩
theorem Three.new (w : World) (c : Col) (t : TypeId) : Three (w.alloc (.cells #[.int .i64 c.l, .int .i64 c.r, .int .i64 c.t] t)) w.heap.size c := by
  refine ⟨by simp, ?_, ?_, ?_⟩ <;> simp [go_sem]

set_option maxRecDepth 100000 in
set_option maxHeartbeats 4000000 in
theorem even_law (c : Col) (a b : Int) (w : World) (ha0 : 0 ≤ a) (hb0 : 0 ≤ b) (hb1 : b ≤ 65535) :
    Calls Try.prog 11 #[.agg #[.int .i64 c.l, .int .i64 c.r, .int .i64 c.t], .int .u8 a, .int .u16 b] w fun e w' => e = .returned (.bool true) ∧ Below w.heap.size w w' := by
  obtain ⟨k, hk⟩ : ∃ k : Nat, (k : Int) = 1 + a % 40 := ⟨(1 + a % 40).toNat, by omega⟩
  have hk1 : 1 ≤ k := by omega
  have hk2 : k ≤ 40 := by omega
  have i1 : a.tmod 40 = a % 40 := Int.tmod_eq_emod_of_nonneg ha0
  have i2 : IntKind.u8.wrap (a % 40) = a % 40 := by
    have h1 : 0 ≤ a % 40 := by omega
    have h2 : a % 40 < 256 := by omega
    show a % 40 % 256 = a % 40
    omega
  have i2' : IntKind.i64.wrap (a % 40) = a % 40 := IntWalk.i64_in _ (by omega)
  have i3 : IntKind.i64.wrap (2 + a % 40) = ((k + 1 : Nat) : Int) := by rw [show (2 : Int) + a % 40 = ((k + 1 : Nat) : Int) by omega]; exact IntWalk.i64_in _ (by omega)
  have HT0 := hide (Three.new w c 41)
  have HB0 := hide ((Below.refl w.heap.size w).alloc (Nat.le_refl _) (.cells #[.int .i64 c.l, .int .i64 c.r, .int .i64 c.t] 41))
  clear hk
  go_enter Try.func11, Try.ntmps11
  go_wp2_with fail
  have bA : Below (w.heap.size + 1) (w.alloc (.cells #[.int .i64 c.l, .int .i64 c.r, .int .i64 c.t] 41)) ((w.alloc (.cells #[.int .i64 c.l, .int .i64 c.r, .int .i64 c.t] 41)).alloc (.cells #[.int .i64 c.l, .int .i64 c.r, .int .i64 c.t] 41)) := (Below.refl _ _).alloc (by simp) _
  have hrA : Rds ((w.alloc (.cells #[.int .i64 c.l, .int .i64 c.r, .int .i64 c.t] 41)).alloc (.cells #[.int .i64 c.l, .int .i64 c.r, .int .i64 c.t] 41)) ((w.alloc (.cells #[.int .i64 c.l, .int .i64 c.r, .int .i64 c.t] 41)).alloc (.cells #[.int .i64 c.l, .int .i64 c.r, .int .i64 c.t] 41)).heap.size (some ⟨w.heap.size + 1, 0, none⟩) (cols [c]) :=
    (Rds.at_new (w := w.alloc (.cells #[.int .i64 c.l, .int .i64 c.r, .int .i64 c.t] 41)) (b := w.heap.size + 1) (by simp) #[.int .i64 c.l, .int .i64 c.r, .int .i64 c.t] 41).more (by simp)
  have HT2 := hide (HT0.out.on bA (by omega))
  have HB2 := hide (HB0.out.trans (bA.mono (by omega)))
  have HCK := hide (lcheck_any (some ⟨w.heap.size + 1, 0, none⟩) 1 1 [c] _ rfl (by omega) hrA)
  generalize hw2 : (w.alloc (.cells #[.int .i64 c.l, .int .i64 c.r, .int .i64 c.t] 41)).alloc (.cells #[.int .i64 c.l, .int .i64 c.r, .int .i64 c.t] 41) = w2 at HT2 HB2 HCK ⊢
  clear hw2 bA hrA
  by_cases hc : c.ok
  · have HE := hide (show colErr [c] = 0 by rw [colErr_one, if_pos hc])
    have HC := hide hc
    obtain ⟨c0, c1, c2, c3, c4, c5⟩ := Col.ok_of hc
    clear hc
    have t0 := HT2.out.c0
    have t1 := HT2.out.c1
    have t2 := HT2.out.c2
    have t3 := HT2.out.lt
    refine HCK.out.mono ?_
    rw [HE.out]
    rintro e w2' ⟨rfl, rfl⟩
    rcases (show c.t = 0 ∨ 0 < c.t by omega) with ht | ht
    · rw [ht] at t2
      go_wp2_with fail
      refine (known_any _).mono ?_
      rintro e w3 ⟨rfl, hb⟩
      have HB3 := hide (find1_tr HB2.out hb)
      clear hb
      go_wp2_with fail
      go_ret
      exact ⟨rfl, HB3.out⟩
    · have hte : (c.t == 0) = false := by simp; omega
      go_wp2_with fail
      go_loopg [8, 9] (k + 1) (fun gk v i wr => ∃ j : Nat, j ≤ k + 1 ∧ i = .int .i64 j ∧ k + 1 ≤ gk + j ∧ Hid (wr.ownsRow (w.heap.size + 1) 41 3 v j (cols (List.replicate j c))) ∧ Hid (Below (w.heap.size + 1) w2 wr))
      case atStart => exact ⟨0, Nat.zero_le _, rfl, by omega, World.ownsRow_nil _ _ _ _, Below.refl _ _⟩
      case round =>
        obtain ⟨j, hj, rfl, hgj, HO, HB⟩ := hrel
        obtain ⟨A1, cc1, rfl, hA1, hcc1, hcc1m⟩ := own_form HO.out
        have hT := HT2.out.on HB.out (by omega)
        have u0 := hT.c0
        have u1 := hT.c1
        have u2 := hT.c2
        have u3 := hT.lt
        have hsz := HB.out.size
        by_cases hlt : j < k + 1
        · have HFT := hide (show cols (List.replicate (j + 1) c) = cols (List.replicate j c) ++ c.cells by
            rw [List.replicate_succ', cols, List.flatMap_append]; simp [cols])
          have j1 : (j : Int) < (k : Int) + 1 := by omega
          clear hT
          go_wp2_with (at_builtin; go_must (refine wpList_app rfl (.tmp 37) (.tmp 39) 29 rfl (w.heap.size + 1) colsE_ty _ j (cols (List.replicate j c)) rfl (HO.out.alloc _) (wr.heap.size + 1) (some ⟨wr.heap.size, 0, none⟩) 1 1 c.cells rfl rfl ?_ (by simpa [cols] using colsE_one [c]) (by simp only [maxLen]; omega) (by omega) (by simp; omega) ?_); exact Rds.at_new (by simp) _ _; intro v' w3 o3 g3 b3)
          go_roundg (gk - 1)
          case measure => omega
          case rel =>
            refine ⟨j + 1, by omega, by go_num, by omega, hide (by rw [HFT.out]; exact o3), hide (grown_below (v := Value.slice A1 j cc1) (HB.out.alloc (by omega) _) (HO.out.alloc _) g3 (by simp; omega))⟩
        · have hkn : j = k + 1 := by omega
          subst hkn
          have HTT := hide hT
          have HBB := hide (HB2.out.trans (HB.out.mono (by omega)))
          have hall : ∀ x ∈ List.replicate (k + 1) c, x.ok := fun x hx => by rw [List.eq_of_mem_replicate hx]; exact HC.out
          have hce : colErr (List.replicate (k + 1) c) = 0 := by
            unfold colErr
            rw [if_neg (by rw [List.length_replicate]; omega), if_pos hall]
          obtain ⟨m, hm⟩ : ∃ m, m = c.r + c.l + 8 := ⟨_, rfl⟩
          have hbase : adjs (srt []) (baseS c.t 8 (List.replicate (k + 1) c)) = List.replicate k ⟨96, m⟩ := by rw [base_rep ht, hm]; rfl
          have HR1 := hide (Rds.own HO.out)
          have hls := lsprings_any A1 none (k + 1) cc1 0 0 (List.replicate (k + 1) c) c.t 8 [] wr (by rw [List.length_replicate]) (by omega) HR1.out hce ⟨by omega, c5, by omega, by omega⟩ rfl (by omega) (.inl rfl) (fun x hx => by cases hx)
          rw [hbase] at hls
          have HLS := hide hls
          have hfe : fitsE (List.replicate (k + 1) c) (List.replicate k ⟨96, m⟩) = 0 := by
            have hsp : spErr (List.replicate k (⟨96, m⟩ : Spr)) = 0 := by
              rw [spErr, if_neg (by rw [List.length_replicate]; omega), if_pos]
              intro x hx
              rw [List.eq_of_mem_replicate hx]
              exact ⟨by show (0 : Int) ≤ 96; omega, by show (96 : Int) ≤ 1048576; omega, by show 0 ≤ m; omega, by show m ≤ 1048576; omega⟩
            rw [fitsE, if_neg (by rw [hce]; simp), if_neg (by simp), hsp]
          have HFE := hide hfe
          have hwa : widA (List.replicate (k + 1) c) (List.replicate k ⟨96, m⟩) = (k : Int) * m + (c.l + c.r) := by
            rw [widA, if_neg (by simp), mins_rep]
            unfold ends
            rw [List.head?_replicate, List.getLast?_replicate]
            simp
          have hkm0 : 0 ≤ (k : Int) * m := Int.mul_nonneg (by omega) (by omega)
          have hkm1 : (k : Int) * m ≤ 40 * 131080 := Int.mul_le_mul (by omega) (by omega) (by omega) (by omega)
          obtain ⟨wa, hwa2⟩ : ∃ wa, wa = widA (List.replicate (k + 1) c) (List.replicate k ⟨96, m⟩) := ⟨_, rfl⟩
          obtain ⟨wb, hwb2⟩ : ∃ wb, wb = widB (List.replicate (k + 1) c) (List.replicate k ⟨96, m⟩) := ⟨_, rfl⟩
          rw [← hwa2] at hwa
          have HWA := hide hwa2
          have HWB := hide hwb2
          have HWV := hide hwa
          have y1 : IntKind.i64.wrap b = b := IntWalk.i64_in _ (by omega)
          have y2 : IntKind.i64.wrap (wa + b) = wa + b := IntWalk.i64_in _ (by omega)
          have wa0 : 0 ≤ wa := by omega
          have wa1 : wa + b ≤ 67108864 := by omega
          have HM := hide hm
          clear hT hgj hall hce hbase hls hfe hwa hwa2 hwb2 hkm0 hkm1 t0 t1 t2 t3
          go_wp2_with fail
          refine HLS.out.mono ?_
          rintro e w4 ⟨v, rfl, hov, hb⟩
          rw [show k + 1 - 1 = k from rfl] at hov
          obtain ⟨A2, cc2, rfl, -, -, -⟩ := own_form hov
          have HR2 := hide (Rds.own hov)
          have HB4 := hide (find1_tr HBB.out hb)
          have HR14 := hide (Rds.on2 HR1.out hb)
          clear hov hb
          go_wp2_with fail
          refine (widths_any A1 A2 (k + 1) cc1 k cc2 (List.replicate (k + 1) c) (List.replicate k ⟨96, m⟩) _ (by rw [List.length_replicate]) HR14.out (by rw [List.length_replicate]) HR2.out HFE.out).mono ?_
          rw [← HWA.out, ← HWB.out]
          rintro e w5 ⟨rfl, hb⟩
          have HB5 := hide (find1_tr HB4.out hb)
          have HR15 := hide (Rds.on2 HR14.out hb)
          have HR25 := hide (Rds.on2 HR2.out hb)
          clear hb
          have HPL := hide (Place_ok A1 A2 (k + 1) cc1 k cc2 (List.replicate (k + 1) c) (List.replicate k ⟨96, m⟩) (wa + b) c c w5 (by rw [List.length_replicate]) HR15.out (by rw [List.length_replicate]) HR25.out HFE.out (by omega) (by simp) (by simp) (by rw [← HWA.out]; omega) wa1)
          go_wp2_with fail
          refine HPL.out.mono ?_
          rintro e w6 ⟨A3, c3', ps, xs, rfl, hrp, hpo, hb⟩
          have HB6 := hide (find1_tr HB5.out hb)
          have HRP := hide hrp
          have hxs := equal (k := k) (s := ⟨96, m⟩) (by omega) ⟨by show (0 : Int) ≤ 96; omega, by show 0 ≤ m; have := HM.out; omega⟩ hb0 (x := xs) (by
            have h1 := hpo.so
            rw [show wa + b - c.l - c.r = (k : Int) * m + b by rw [HWV.out]; omega] at h1
            exact h1)
          have HPO := hide hpo
          clear hrp hb HPL
          go_wp2_with fail
          refine (known_any _).mono ?_
          rintro e w7 ⟨rfl, hb⟩
          have HB7 := hide (find1_tr HB6.out hb)
          have HRP7 := hide (Rds.on2 HRP.out hb)
          clear hb
          obtain ⟨q, hq⟩ : ∃ q, q = m + b / (k : Int) := ⟨_, rfl⟩
          have q0 : 0 ≤ q := by
            have : 0 ≤ b / (k : Int) := Int.ediv_nonneg hb0 (by omega)
            have := HM.out
            omega
          have q1 : q ≤ 1000000 := by
            have : b / (k : Int) ≤ b := Int.ediv_le_self _ hb0
            have := HM.out
            omega
          have HD := hide (show ∀ i : Nat, i < k → ∃ P d : Int, ps[i]? = some P ∧ ps[i + 1]? = some (P + d) ∧ q ≤ d ∧ d ≤ q + 1 ∧ 0 ≤ P ∧ P ≤ 67108864 from fun i hi => by
            have e1 : (List.replicate k (⟨96, m⟩ : Spr))[i]? = some ⟨96, m⟩ := by rw [List.getElem?_replicate, if_pos hi]
            have e2 := evenF_get (List.replicate k ⟨96, m⟩) b e1
            rw [List.length_replicate, ← hxs] at e2
            have e3 := HPO.out.at_ i (by rw [List.length_replicate]; omega)
            have e4 := HPO.out.at_ (i + 1) (by rw [List.length_replicate]; omega)
            have e5 : (xs.take (i + 1)).sum = (xs.take i).sum + (m + b / (k : Int) + if (i : Int) < b % (k : Int) then 1 else 0) := by rw [List.take_add_one, e2, Option.toList_some, List.sum_append]; simp
            have s1 := take_sum_le HPO.out.nn i
            have s2 := HPO.out.sum
            refine ⟨_, _, e3, by rw [e4, e5, ← Int.add_assoc], ?_, ?_, by omega, by omega⟩
            · rw [hq]; split <;> omega
            · rw [hq]; split <;> omega)
          obtain ⟨P0, d0, hp0, hp1, dd0, dd1, pp0, pp1⟩ := HD.out 0 (by omega)
          obtain ⟨g, off, rfl, hgl, f0⟩ := HRP7.out.int hp0
          obtain ⟨g', off', e2, -, f1⟩ := HRP7.out.int hp1
          simp only [Option.some.injEq, Addr.mk.injEq, and_true] at e2
          obtain ⟨rfl, rfl⟩ := e2
          rw [Nat.add_zero] at f0
          rw [Nat.zero_add] at f1
          have z1 : IntKind.i64.wrap (P0 + d0 - P0) = d0 := by rw [show P0 + d0 - P0 = d0 by omega]; exact IntWalk.i64_in _ (by omega)
          have z2 : (1 : Int) < (k : Int) + 1 := by omega
          have z3 : (0 : Int) < (k : Int) + 1 := by omega
          have z4 : 1 < k + 1 := by omega
          have z5 : (1 : Int) < ((k + 1 : Nat) : Int) := by omega
          have z6 : (0 : Int) < ((k + 1 : Nat) : Int) := by omega
          clear hxs hq hp0 hp1
          go_wp2_with fail
          go_quiet (fail)
          go_wp2_with fail
          go_loopg [15, 16, 17] (k + 1) (fun gk s15 s16 i wr => ∃ (j : Nat) (lo hi : Int), 1 ≤ j ∧ j ≤ k + 1 ∧ i = .int .i64 j ∧ k + 1 ≤ gk + j ∧ s15 = .int .i64 lo ∧ s16 = .int .i64 hi ∧ q ≤ lo ∧ lo ≤ q + 1 ∧ q ≤ hi ∧ hi ≤ q + 1 ∧ Hid (Below w7.heap.size w7 wr))
          case atStart => exact ⟨1, d0, d0, by omega, by omega, rfl, by omega, rfl, rfl, dd0, dd1, dd0, dd1, below_drewN (Below.refl _ _) _⟩
          case round =>
            obtain ⟨j, lo, hi, hj1, hj, rfl, hgj, rfl, rfl, l0, l1, h0, h1, HC9⟩ := hrel
            by_cases hlt2 : j < k + 1
            · obtain ⟨P, d, hp, hp', e0, e1, P0', P1'⟩ := HD.out (j - 1) (by omega)
              rw [show j - 1 + 1 = j by omega] at hp'
              obtain ⟨g1, off1, e3, -, c6⟩ := (Rds.on2 HRP7.out HC9.out).int hp
              obtain ⟨g2, off2, e4, -, c7⟩ := (Rds.on2 HRP7.out HC9.out).int hp'
              simp only [Option.some.injEq, Addr.mk.injEq, and_true] at e3 e4
              obtain ⟨rfl, rfl⟩ := e3
              obtain ⟨rfl, rfl⟩ := e4
              have n1 : IntKind.i64.wrap (j : Int) = (j : Int) := IntWalk.i64_in _ (by omega)
              have n2 : ((j : Int)).toNat = j := by omega
              have n3 : (0 : Int) ≤ (j : Int) := by omega
              have n4 : (j : Int) < (k : Int) + 1 := by omega
              have n4' : (j : Int) < ((k + 1 : Nat) : Int) := by omega
              have n5 : IntKind.i64.wrap ((j : Int) - 1) = (j : Int) - 1 := IntWalk.i64_in _ (by omega)
              have n6 : ((j : Int) - 1).toNat = j - 1 := by omega
              have n7 : (0 : Int) ≤ (j : Int) - 1 := by omega
              have n8 : (j : Int) - 1 < (k : Int) + 1 := by omega
              have n8' : (j : Int) - 1 < ((k + 1 : Nat) : Int) := by omega
              have n9 : j - 1 < k + 1 := by omega
              have n10 : IntKind.i64.wrap (P + d - P) = d := by rw [show P + d - P = d by omega]; exact IntWalk.i64_in _ (by omega)
              have n11 : (1 : Int) ≤ (j : Int) := by omega
              clear hp hp'
              go_wp2_with fail
              go_quiet (fail)
              go_wp2_with fail
              go_roundg (gk - 1)
              case measure => omega
              case rel => exact ⟨j + 1, _, _, by omega, by omega, by go_num, by omega, rfl, rfl, by omega, by omega, by omega, by omega, hide (below_drewN HC9.out _)⟩
            · have n1 : IntKind.i64.wrap (hi - lo) = hi - lo := IntWalk.i64_in _ (by omega)
              have n2 : hi - lo ≤ 1 := by omega
              have n3 : ¬ (j : Int) < (k : Int) + 1 := by omega
              go_wp2_with fail
              go_ret
              exact ⟨rfl, find1_tr HB7.out HC9.out⟩
  · have HE := hide (show colErr [c] = 2 by rw [colErr_one, if_neg hc])
    refine HCK.out.mono ?_
    rw [HE.out]
    rintro e w2' ⟨rfl, rfl⟩
    clear hc
    go_wp2_with fail
    refine (known_any _).mono ?_
    rintro e w3 ⟨rfl, hb⟩
    have HB3 := hide (find1_tr HB2.out hb)
    clear hb
    go_wp2_with fail
    go_ret
    exact ⟨rfl, HB3.out⟩

theorem spacingEven_walk {w : World} (c : Col) (_ : Col.wf w c) (x : Int) (hx : (Lit.int .u8 x).wf = true) (y : Int) (hy : (Lit.int .u16 y).wf = true) :
    Calls Try.prog 11 #[.agg #[.int .i64 c.l, .int .i64 c.r, .int .i64 c.t], .int .u8 x, .int .u16 y] w fun e w' => e = .returned (.bool true) ∧ Below w.heap.size w w' := by
  have h1 : 0 ≤ x ∧ x ≤ 255 := by
    have h : IntKind.u8.min ≤ x ∧ x ≤ IntKind.u8.max := by simpa [Lit.wf] using hx
    exact h
  have h2 : 0 ≤ y ∧ y ≤ 65535 := by
    have h : IntKind.u16.min ≤ y ∧ y ≤ IntKind.u16.max := by simpa [Lit.wf] using hy
    exact h
  exact even_law c x y w h1.1 h2.1 h2.2

end Go.Proofs.Ytajkmlejklgbbaa
