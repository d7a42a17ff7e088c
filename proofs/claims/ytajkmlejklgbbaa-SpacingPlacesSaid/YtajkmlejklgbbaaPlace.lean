/- spacing.Place. -/
import Derived.Test.YtajkmlejklgbbaaWidthsW
import Derived.Test.YtajkmlejklgbbaaSpEven
namespace Go.Proofs.Ytajkmlejklgbbaa
open Go.RowKit

theorem take_sum_le {x : List Int} (h : ∀ v ∈ x, 0 ≤ v) : ∀ k, 0 ≤ (x.take k).sum ∧ (x.take k).sum ≤ x.sum := by
  induction x with
  | nil => intro k; simp
  | cons a x ih =>
    intro k
    have h0 := h a (by simp)
    cases k with
    | zero =>
      have := ih (fun v hv => h v (by simp [hv])) 0
      simp at this ⊢
      omega
    | succ k =>
      have := ih (fun v hv => h v (by simp [hv])) k
      simp only [List.take_succ_cons, List.sum_cons]
      omega
theorem solve_sum {l : List Spr} (hn : ∀ s ∈ l, 0 ≤ s.n ∧ 0 ≤ s.m) (h0 : 0 < l.length) {width : Int} {x : List Int} (hx : SolveOut l width x) (hw : mins l ≤ width) : (∀ v ∈ x, 0 ≤ v) ∧ x.sum = width := by
  by_cases hp : ∃ s ∈ l, 0 < s.n
  · have b := hx.bal hp
    refine ⟨fun v hv => ?_, b.sum⟩
    obtain ⟨i, hi⟩ := List.getElem?_of_mem hv
    obtain ⟨s, hs⟩ : ∃ s, l[i]? = some s := ⟨_, List.getElem?_eq_getElem (by rw [← b.len]; exact (List.getElem?_eq_some_iff.1 hi).1)⟩
    have := (b.low i s v hs hi).1
    have := (hn s (List.mem_of_getElem? hs)).2
    omega
  · have hz : ∀ s ∈ l, s.n = 0 := fun s hs => by
      have := (hn s hs).1
      rcases (show s.n = 0 ∨ 0 < s.n by omega) with h | h
      · exact h
      · exact absurd ⟨s, hs, h⟩ hp
    have ex := hx.even hz
    refine ⟨fun v hv => ?_, by rw [ex, evenF_sum h0]; omega⟩
    obtain ⟨i, hi⟩ := List.getElem?_of_mem hv
    rw [ex] at hi
    obtain ⟨s, hs⟩ : ∃ s, l[i]? = some s := ⟨_, List.getElem?_eq_getElem (by rw [← evenF_len l (width - mins l)]; exact (List.getElem?_eq_some_iff.1 hi).1)⟩
    rw [evenF_get l _ hs] at hi
    cases hi
    have := (hn s (List.mem_of_getElem? hs)).2
    have : 0 ≤ (width - mins l) / (l.length : Int) := Int.ediv_nonneg (by omega) (by omega)
    split <;> omega
theorem Rds.int {w : World} {B : Nat} {A : Option Addr} {l : List Int} (h : Rds w B A (l.map (Value.int .i64))) {k : Nat} {x : Int} (hk : l[k]? = some x) :
    ∃ b off, A = some ⟨b, off, none⟩ ∧ b < B ∧ w.cell? ⟨b, off + k, none⟩ = some (.int .i64 x) := by
  obtain ⟨b, off, e, hb, hc⟩ := h.get (k := k) (by rw [List.length_map]; exact (List.getElem?_eq_some_iff.1 hk).1)
  exact ⟨b, off, e, hb, hc k _ (by rw [List.getElem?_map, hk]; rfl)⟩
theorem own_one (w : World) (x : Int) : (w.alloc (.cells #[.int .i64 x] 3)).ownsRow w.heap.size 3 1 (.slice (some ⟨w.heap.size, 0, none⟩) 1 1) 1 ([x].map (Value.int .i64)) :=
  ⟨rfl, .inr ⟨w.heap.size, 1, _, rfl, Nat.le_refl _, heap_alloc_new w _, Nat.le_refl _, by simp only [maxLen]; omega, rfl, rfl⟩⟩
theorem own_base {w : World} {B B' : Nat} {e : TypeId} {sz n : Nat} {v : Value} {xs : List Value} (h : w.ownsRow B e sz v n xs) (hB : B' ≤ B) : w.ownsRow B' e sz v n xs := by
  rcases h.2 with h2 | ⟨g, cap, cur, h1, h2, h3⟩
  · exact ⟨h.1, .inl h2⟩
  · exact ⟨h.1, .inr ⟨g, cap, cur, h1, Nat.le_trans hB h2, h3⟩⟩
theorem below3 {a b : Prop} {B : Nat} {w w' : World} (h : a ∧ b ∧ Below B w w') : Below B w w' := h.2.2
theorem keep2 {B : Nat} {w w' : World} {p1 p2 : Addr} {x y : Value} (h : Below B w w') (a1 : p1.block < B) (a2 : p2.block < B)
    (h1 : w.cell? p1 = some x) (h2 : w.cell? p2 = some y) : w'.cell? p1 = some x ∧ w'.cell? p2 = some y ∧ Below B w w' :=
  ⟨(h.cell a1).trans h1, (h.cell a2).trans h2, h⟩

set_option maxHeartbeats 1000000 in
theorem in_any (n most : Int) (w : World) : Calls Try.prog 31 #[.int .i64 n, .int .i64 most] w fun e w' => e = .returned (.bool (decide (0 ≤ n ∧ n ≤ most))) ∧ w = w' := by
  obtain ⟨v, hv⟩ : ∃ v, v = decide (0 ≤ n ∧ n ≤ most) := ⟨_, rfl⟩
  rw [← hv]
  rcases (show n < 0 ∨ (0 ≤ n ∧ ¬ n ≤ most) ∨ (0 ≤ n ∧ n ≤ most) by omega) with h | ⟨h, h2⟩ | ⟨h, h2⟩
  · have HE := hide (show v = false by rw [hv]; simp; omega)
    clear hv
    go_enter Try.func31, Try.ntmps31
    go_wp2_with fail
    go_ret
    exact ⟨by rw [HE.out]; rfl, rfl⟩
  · have HE := hide (show v = false by rw [hv]; simp; omega)
    clear hv
    go_enter Try.func31, Try.ntmps31
    go_wp2_with fail
    go_ret
    exact ⟨by rw [HE.out]; first | rfl | simp [h2], rfl⟩
  · have HE := hide (show v = true by rw [hv]; simp; omega)
    clear hv
    go_enter Try.func31, Try.ntmps31
    go_wp2_with fail
    go_ret
    exact ⟨by rw [HE.out]; first | rfl | simp [h2], rfl⟩

/-- Place where the width is enough and there are two columns or more -/
structure PlaceOut (l : List Col) (s : List Spr) (width : Int) (a z : Col) (ps xs : List Int) : Prop where
  len : ps.length = l.length
  so : SolveOut s (width - a.l - z.r) xs
  nn : ∀ v ∈ xs, 0 ≤ v
  sum : xs.sum = width - a.l - z.r
  at_ : ∀ k, k < l.length → ps[k]? = some (a.l + (xs.take k).sum)

set_option maxRecDepth 100000 in
set_option maxHeartbeats 4000000 in
theorem Place_ok (A A' : Option Addr) (n c n' c' : Nat) (l : List Col) (s : List Spr) (width : Int) (a z : Col) (w : World) (hn : n = l.length) (h : Rds w w.heap.size A (cols l))
    (hn' : n' = s.length) (h' : Rds w w.heap.size A' (sprs s)) (he : fitsE l s = 0) (h2 : 2 ≤ n) (ha : l[0]? = some a) (hz : l[n - 1]? = some z) (hw : widA l s ≤ width) (hw1 : width ≤ 67108864) :
    Calls Try.prog 28 #[.slice A n c, .slice A' n' c', .int .i64 width] w fun e w' => ∃ (A2 : Option Addr) (c2 : Nat) (ps xs : List Int), e = .returned (.tuple #[.slice A2 n c2, .int .i64 0]) ∧
      Rds w' w'.heap.size A2 (ps.map (Value.int .i64)) ∧ PlaceOut l s width a z ps xs ∧ Below w.heap.size w w' := by
  have HN := hide hn
  have HN' := hide hn'
  have HR := hide h
  have HR' := hide h'
  have HFI := hide he
  obtain ⟨hc, hl, hs⟩ := fitsE_zero he
  obtain ⟨hc1, hc2⟩ := colErr_all' l hc
  obtain ⟨hs1, hs2⟩ := spErr_all s hs
  have HNM := hide (show ∀ t ∈ s, 0 ≤ t.n ∧ 0 ≤ t.m from fun t ht => ⟨(Spr.ok_of (hs2 t ht)).1, (Spr.ok_of (hs2 t ht)).2.2.1⟩)
  have hmb := mins_bnd s hs2
  obtain ⟨a0, a1, a2, a3, a4, a5⟩ := Col.ok_of (hc2 a (List.mem_of_getElem? ha))
  obtain ⟨z0, z1, z2, z3, z4, z5⟩ := Col.ok_of (hc2 z (List.mem_of_getElem? hz))
  have hne : l ≠ [] := by intro e; rw [e] at ha; simp at ha
  have hends : ends l = a.l + z.r := by
    unfold ends
    rw [List.head?_eq_getElem?, ha, List.getLast?_eq_getElem?, ← hn, hz]
  have hA : widA l s = mins s + (a.l + z.r) := by rw [widA, if_neg hne, hends]
  obtain ⟨wa, hwa⟩ : ∃ wa, wa = widA l s := ⟨_, rfl⟩
  obtain ⟨wb, hwb⟩ : ∃ wb, wb = widB l s := ⟨_, rfl⟩
  rw [← hwa] at hA hw
  have HWA := hide hwa
  have HWB := hide hwb
  have hn1 : n' = n - 1 := by omega
  obtain ⟨W, hW⟩ : ∃ W, W = width - a.l - z.r := ⟨_, rfl⟩
  have W0 : 0 ≤ W := by omega
  have W1 : mins s ≤ W := by omega
  have HFE := hide (show fitErr s W = 0 by rw [fitErr, if_neg (by rw [hs]; simp), if_neg (by omega), if_neg (by omega)])
  have HM := hide W1
  have HW := hide hW
  have i1 : IntKind.i64.wrap (width - a.l) = width - a.l := IntWalk.i64_in _ (by omega)
  have i2 : IntKind.i64.wrap (width - a.l - z.r) = W := by rw [hW]; exact IntWalk.i64_in _ (by omega)
  have hwlt : ¬ width < wa := by omega
  have hp0 : 0 < n' := by omega
  have n1a : n' + 1 ≤ n := by omega
  have n1b : n ≤ n' + 1 := by omega
  clear hn1
  have hn4 : n ≤ 4096 := by omega
  have HAA := hide ha
  have HZZ := hide hz
  have e0 : ((n : Int) == 0) = false := by simp; omega
  have e1 : ((n : Int) == 1) = false := by simp; omega
  have t1 : IntKind.i64.wrap ((n : Int) - 1) = (n : Int) - 1 := IntWalk.i64_in _ (by omega)
  have t2 : ((n : Int) - 1).toNat = n - 1 := by omega
  have t3 : (0 : Int) ≤ (n : Int) - 1 := by omega
  have t4 : (n : Int) - 1 < (n : Int) := by omega
  have t5 : (0 : Int) < (n : Int) := by omega
  have t6 : 0 < n := by omega
  have t7 : n - 1 < n := by omega
  have t8 : (1 : Int) ≤ (n : Int) := by omega
  have t9 : 1 ≤ n := by omega
  have HIN := hide (show decide (0 ≤ width ∧ width ≤ 67108864) = true by simp; omega)
  clear hn hn' h h' he hc hl hs hc1 hc2 hs1 hs2 hmb ha hz hne hends hA hwa hwb hW W1 a2 a3 a4 a5 z0 z1 z4 z5
  go_enter Try.func28, Try.ntmps28
  go_wp2_with fail
  refine (Width_ok A A' n c n' c' l s _ HN.out HR.out HN'.out HR'.out HFI.out).mono ?_
  rw [← HWA.out, ← HWB.out]
  rintro e w1 ⟨rfl, hb⟩
  have HB1 := hide hb
  clear hb
  go_wp2_with fail
  refine (in_any width 67108864 _).mono ?_
  rw [HIN.out]
  rintro e w1' ⟨rfl, rfl⟩
  obtain ⟨b, off, hA1, hbB, c0, -, -⟩ := (Rds.on2 HR.out HB1.out).col HAA.out
  obtain ⟨b', off', hA2, -, -, d1, -⟩ := (Rds.on2 HR.out HB1.out).col HZZ.out
  subst hA1
  simp only [Option.some.injEq, Addr.mk.injEq, and_true] at hA2
  obtain ⟨rfl, rfl⟩ := hA2
  rw [Nat.zero_mul, Nat.add_zero] at c0
  have HR1' := hide (Rds.on2 HR'.out HB1.out)
  have hbs := hbB
  go_upto_region 13 with fail
  have bA : Below w1.heap.size w1 (w1.alloc (.cells #[.int .i64 a.l] 3)) := (Below.refl _ _).alloc (Nat.le_refl _) _
  have C0 := hide ((bA.cell (p := ⟨b, off, none⟩) hbB).trans c0)
  have C1 := hide ((bA.cell (p := ⟨b, off + (n - 1) * 3 + 1, none⟩) hbB).trans d1)
  have HOO := hide (own_one w1 a.l)
  have HRA' := hide (Rds.on2 HR1'.out bA)
  have HBA := hide (find1_tr HB1.out bA)
  have hbA : b < (w1.alloc (.cells #[.int .i64 a.l] 3)).heap.size := by simp; omega
  have hsA : (w1.alloc (.cells #[.int .i64 a.l] 3)).heap.size = w1.heap.size + 1 := by simp
  generalize hwA : w1.alloc (.cells #[.int .i64 a.l] 3) = wA at C0 C1 HOO HRA' HBA hbA hsA ⊢
  have c0' := C0.out
  have d1' := C1.out
  have HSL := hide (fun Wd (hWd : Rds Wd Wd.heap.size A' (sprs s)) => Solve_ok2 A' n' c' s W Wd HN'.out hp0 hWd HFE.out)
  clear hwA bA c0 d1 hbB
  go_region_held3 (fun w' => w'.cell? ⟨b, off, none⟩ = some (.int .i64 a.l) ∧ w'.cell? ⟨b, off + (n - 1) * 3 + 1, none⟩ = some (.int .i64 z.r) ∧ Below wA.heap.size wA w')
    (first | (go_keep; done) | (exact keep2 (Below.drew (Below.refl _ _)) hbA hbA C0.out C1.out) | (exact keep2 (find1_tr (below3 (by assumption)) (by assumption)) hbA hbA C0.out C1.out) | (exact keep2 (Below.drew (below3 (by assumption))) hbA hbA C0.out C1.out))
    (first | (go_at_call 30; refine (HSL.out _ (Rds.on2 HRA'.out (below3 (by assumption)))).mono ?_; rintro e w' ⟨g, xs, rfl, hrx, hso, hb', hgg⟩))
  have hB := below3 (show _ by assumption)
  have hgA : wA.heap.size ≤ g := by simpa using hgg
  have HO0 := hide (own_below HOO.out hB (Nat.le_refl _))
  have HB0 := hide (find1_tr HBA.out hB)
  have HRX := hide hrx
  have HSM := hide (solve_sum HNM.out (by have := HN'.out; omega) hso HM.out)
  have HXL := hide (show xs.length = n' by rw [hso.len]; exact HN'.out.symm)
  have HSO := hide hso
  have hwB := HBA.out.size
  have hgw : w1.heap.size < g := by omega
  have hs1 := hB.size
  have hb1s := HB1.out.size
  clear hB hb' hgg hrx hso c0' d1'
  go_wp2_with fail
  go_loopg [11, 67] n' (fun gk v i wr => ∃ (k : Nat) (ps : List Int), k ≤ n' ∧ i = .int .i64 k ∧ n' ≤ gk + k ∧ Hid (ps.length = k + 1 ∧ ∀ j, j ≤ k → ps[j]? = some (a.l + (xs.take j).sum)) ∧ Hid (wr.ownsRow w1.heap.size 3 1 v (k + 1) (ps.map (Value.int .i64))) ∧
    Hid (v.ownBlock ≠ some g) ∧ Hid (Rds wr wr.heap.size (some ⟨g, 0, none⟩) (xs.map (Value.int .i64))) ∧ Hid (Below w.heap.size w wr) ∧ w'.heap.size ≤ wr.heap.size)
  case atStart =>
    refine ⟨0, [a.l], Nat.zero_le _, rfl, by omega, hide ⟨rfl, fun j hj => by
      obtain rfl : j = 0 := (by omega)
      simp⟩, HO0, hide ?_, HRX, HB0, Nat.le_refl _⟩
    simp [Value.ownBlock]
    omega
  case round =>
    obtain ⟨k, ps, hk, rfl, hgk, HPS, HO, HNE, HRX, HB, hsz⟩ := hrel
    obtain ⟨A1, cc1, rfl, hA1, hcc1, hcc1m⟩ := own_form HO.out
    by_cases hlt : k < n'
    · obtain ⟨x, hx⟩ : ∃ x, xs[k]? = some x := ⟨_, List.getElem?_eq_getElem (by have := HXL.out; omega)⟩
      obtain ⟨bx, ox, e1, hbx, d0⟩ := HRX.out.int hx
      simp only [Option.some.injEq, Addr.mk.injEq, and_true] at e1
      obtain ⟨rfl, rfl⟩ := e1
      rw [Nat.zero_add] at d0
      obtain ⟨bp, op, rfl, hbp, d1⟩ := (Rds.own HO.out).int (HPS.out.2 k (Nat.le_refl _))
      have s1 := take_sum_le HSM.out.1 k
      have s2 := take_sum_le HSM.out.1 (k + 1)
      have s3 : (xs.take (k + 1)).sum = (xs.take k).sum + x := by rw [List.take_add_one, hx, Option.toList_some, List.sum_append]; simp
      have s4 := HSM.out.2
      have s5 := HW.out
      have x0 := HSM.out.1 x (List.mem_of_getElem? hx)
      obtain ⟨m, hm2⟩ : ∃ m, m = a.l + (xs.take k).sum := ⟨_, rfl⟩
      have HNEW := hide (show a.l + (xs.take (k + 1)).sum = m + x by rw [s3, hm2]; omega)
      rw [← hm2] at d1
      have m0 : 0 ≤ m := by omega
      have m1 : m ≤ 268435456 := by omega
      have x1 : x ≤ 268435456 := by omega
      have HP2 := hide (show (ps ++ [m + x]).length = k + 1 + 1 ∧ ∀ j, j ≤ k + 1 → (ps ++ [m + x])[j]? = some (a.l + (xs.take j).sum) from ⟨by simp [HPS.out.1], fun j hj => by
        by_cases e : j = k + 1
        · subst e
          rw [List.getElem?_append_right (by rw [HPS.out.1]; omega), HPS.out.1, Nat.sub_self, HNEW.out]; rfl
        · rw [List.getElem?_append_left (by rw [HPS.out.1]; omega)]; exact HPS.out.2 j (by omega)⟩)
      have j1 : IntKind.i64.wrap (k : Int) = (k : Int) := IntWalk.i64_in _ (by omega)
      have j3 : ((k : Int)).toNat = k := by omega
      have j4 : (0 : Int) ≤ (k : Int) := by omega
      have j5 : (k : Int) < ((k + 1 : Nat) : Int) := by omega
      have j6 : k < k + 1 := by omega
      have j7 : IntKind.i64.wrap (m + x) = m + x := IntWalk.i64_in _ (by omega)
      have j8 : (k : Int) < (k : Int) + 1 := by omega
      clear hx s1 s2 s3 s4 s5 hm2
      go_wp2_with (at_builtin; go_must (refine wpList_app rfl (.tmp 72) (.tmp 79) 51 rfl w1.heap.size int_ty _ (k + 1) (ps.map (Value.int .i64)) rfl (HO.out.alloc _) (wr.heap.size + 1) (some ⟨wr.heap.size, 0, none⟩) 1 1 [.int .i64 (m + x)] rfl rfl ?_ (by simp; rfl) (by simp only [maxLen]; omega) (by omega) (by simp; omega) ?_); exact Rds.at_new (by simp) _ _; intro v' w3 o3 g3 b3)
      go_roundg (gk - 1)
      case measure => omega
      case rel =>
        have hne := HNE.out
        refine ⟨k + 1, ps ++ [m + x], by omega, by go_num, by omega, HP2, hide (by rw [List.map_append]; exact o3), hide ?_, hide ?_, hide (by have h1 := grown_below (B := w.heap.size) (v := Value.slice (some ⟨bp, op, none⟩) (k + 1) cc1) (HB.out.alloc (by omega) _) (own_base (HO.out.alloc _) (by omega)) g3 (by simp; omega); exact h1), ?_⟩
        · rcases b3 with b3 | b3
          · rw [b3]; exact hne
          · rw [b3]; simp; omega
        · refine Rds.more (B := wr.heap.size) ?_ (by have := g3.size; simp at this; omega)
          rcases HRX.out with h1 | ⟨b, off, e, hb, hc⟩
          · exact .inl h1
          · refine .inr ⟨b, off, e, hb, fun jj u hu => ?_⟩
            have hbg : b = g := by injection e with e; injection e with e; omega
            rw [g3.cell_far ⟨b, off + jj, none⟩ (by simp; omega) (by rw [hbg]; exact fun h => hne h.symm)]
            exact (World.cell?_alloc_lt _ _ _ hb).trans (hc jj u hu)
        · have := g3.size; simp at this; omega
    · have hkn : k = n' := by omega
      subst hkn
      have HPO := hide (show PlaceOut l s width a z ps xs from ⟨by rw [HPS.out.1, ← HN.out]; omega, by rw [← HW.out]; exact HSO.out, HSM.out.1, by rw [HSM.out.2, HW.out], fun j hj => HPS.out.2 j (by have := HN.out; omega)⟩)
      have hkn2 : k + 1 = n := by omega
      subst hkn2
      go_wp2_with fail
      go_ret2
      exact ⟨A1, cc1, ps, xs, rfl, Rds.own HO.out, HPO.out, HB.out⟩

end Go.Proofs.Ytajkmlejklgbbaa
