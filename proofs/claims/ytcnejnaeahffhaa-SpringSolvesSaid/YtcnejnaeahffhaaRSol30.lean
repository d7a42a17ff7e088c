/- The reference's Solve; the law's solve; the law SpringSolves, walked. -/
import Derived.Test.YtcnejnaeahffhaaForce30
import Derived.Test.YtcnejnaeahffhaaGrows30
namespace Go.Proofs.Ytcnejnaeahffhaa
open Go.RowKit

/-- the best of the first k, as the inner loop finds it -/
def PickTo (l : List Spr) (x : List Int) (k : Nat) (i : Nat) (s : Spr) (v : Int) : Prop :=
  i < k ∧ l[i]? = some s ∧ x[i]? = some v ∧ 0 < s.n ∧ ∀ (j : Nat) (t : Spr) (u : Int), j < k → l[j]? = some t → x[j]? = some u → 0 < t.n → (v + 1) * t.n < (u + 1) * s.n ∨ ((v + 1) * t.n = (u + 1) * s.n ∧ i ≤ j)
def NoneTo (l : List Spr) (k : Nat) : Prop := ∀ (j : Nat) (t : Spr), j < k → l[j]? = some t → ¬ 0 < t.n
theorem PickTo.pick {l : List Spr} {x : List Int} {i : Nat} {s : Spr} {v : Int} (h : PickTo l x l.length i s v) : Pick l x i s v :=
  ⟨h.2.1, h.2.2.1, h.2.2.2.1, fun j t u ht hu tn => h.2.2.2.2 j t u (List.getElem?_eq_some_iff.1 ht).1 ht hu tn⟩
theorem PickTo.skip {l : List Spr} {x : List Int} {k i : Nat} {s t : Spr} {v : Int} (h : PickTo l x k i s v) (ht : l[k]? = some t) (htn : ¬ 0 < t.n) : PickTo l x (k + 1) i s v := by
  obtain ⟨h1, h2, h3, h4, h5⟩ := h
  refine ⟨by omega, h2, h3, h4, fun j r u hj hr hu rn => ?_⟩
  by_cases e : j = k
  · subst e
    rw [ht] at hr
    cases hr
    exact absurd rn htn
  · exact h5 j r u (by omega) hr hu rn
theorem PickTo.stay {l : List Spr} {x : List Int} {k i : Nat} {s t : Spr} {v u : Int} (h : PickTo l x k i s v) (ht : l[k]? = some t) (hu : x[k]? = some u) (hc : ¬ (u + 1) * s.n < (v + 1) * t.n) : PickTo l x (k + 1) i s v := by
  obtain ⟨h1, h2, h3, h4, h5⟩ := h
  refine ⟨by omega, h2, h3, h4, fun j r z hj hr hz rn => ?_⟩
  by_cases e : j = k
  · subst e
    rw [ht] at hr
    rw [hu] at hz
    cases hr
    cases hz
    rcases (show (v + 1) * t.n < (u + 1) * s.n ∨ (v + 1) * t.n = (u + 1) * s.n by omega) with h6 | h6
    · exact .inl h6
    · exact .inr ⟨h6, by omega⟩
  · exact h5 j r z (by omega) hr hz rn
theorem PickTo.take {l : List Spr} {x : List Int} {k i : Nat} {s t : Spr} {v u : Int} (h : PickTo l x k i s v) (ht : l[k]? = some t) (hu : x[k]? = some u) (tn : 0 < t.n) (hc : (u + 1) * s.n < (v + 1) * t.n) : PickTo l x (k + 1) k t u := by
  obtain ⟨h1, h2, h3, h4, h5⟩ := h
  refine ⟨by omega, ht, hu, tn, fun j r z hj hr hz rn => ?_⟩
  by_cases e : j = k
  · subst e
    rw [ht] at hr
    rw [hu] at hz
    cases hr
    cases hz
    exact .inr ⟨rfl, Nat.le_refl _⟩
  · have h6 := h5 j r z (by omega) hr hz rn
    have a1 : (u + 1) * s.n * r.n < (v + 1) * t.n * r.n := Int.mul_lt_mul_of_pos_right hc rn
    have a2 : (v + 1) * r.n * t.n ≤ (z + 1) * s.n * t.n := Int.mul_le_mul_of_nonneg_right (by omega) (by omega)
    have e1 : (v + 1) * t.n * r.n = (v + 1) * r.n * t.n := Int.mul_right_comm _ _ _
    have e2 : (u + 1) * s.n * r.n = (u + 1) * r.n * s.n := Int.mul_right_comm _ _ _
    have e3 : (z + 1) * s.n * t.n = (z + 1) * t.n * s.n := Int.mul_right_comm _ _ _
    exact .inl (cancel_lt (by omega : (1 : Int) ≤ s.n) (by omega))
theorem PickTo.first {l : List Spr} {x : List Int} {k : Nat} {t : Spr} {u : Int} (h : NoneTo l k) (ht : l[k]? = some t) (hu : x[k]? = some u) (tn : 0 < t.n) : PickTo l x (k + 1) k t u := by
  refine ⟨by omega, ht, hu, tn, fun j r z hj hr hz rn => ?_⟩
  by_cases e : j = k
  · subst e
    rw [ht] at hr
    rw [hu] at hz
    cases hr
    cases hz
    exact .inr ⟨rfl, Nat.le_refl _⟩
  · exact absurd rn (h j r (by omega) hr)
theorem NoneTo.next {l : List Spr} {k : Nat} {t : Spr} (h : NoneTo l k) (ht : l[k]? = some t) (htn : ¬ 0 < t.n) : NoneTo l (k + 1) := by
  intro j r hj hr
  by_cases e : j = k
  · subst e
    rw [ht] at hr
    cases hr
    exact htn
  · exact h j r (by omega) hr

theorem bal_bnd {l : List Spr} {xs : List Int} {width : Int} (hn : ∀ s ∈ l, 0 ≤ s.n ∧ 0 ≤ s.m) (h : Bal l xs width) (hw : width ≤ 700) : ∀ (j : Nat) (u : Int), xs[j]? = some u → 0 ≤ u ∧ u ≤ 700 := by
  have h0 : ∀ v ∈ xs, 0 ≤ v := fun v hv => by
    obtain ⟨i, hi⟩ := List.getElem?_of_mem hv
    obtain ⟨s, hs⟩ : ∃ s, l[i]? = some s := ⟨_, List.getElem?_eq_getElem (by rw [← h.len]; exact (List.getElem?_eq_some_iff.1 hi).1)⟩
    have := (h.low i s v hs hi).1
    have := (hn s (List.mem_of_getElem? hs)).2
    omega
  intro j u hu
  have h1 := take_sum_le h0 j
  have h2 := take_sum_le h0 (j + 1)
  have h3 : (xs.take (j + 1)).sum = (xs.take j).sum + u := by rw [List.take_add_one, hu, Option.toList_some, List.sum_append]; simp
  have h4 := h.sum
  have h5 := h0 u (List.mem_of_getElem? hu)
  omega

theorem Row.set {w wr : World} {g n cap : Nat} {xs : List Int} (h : wr.ownsRow w.heap.size 3 1 (.slice (some ⟨g, 0, none⟩) n cap) n (xs.map (Value.int .i64))) {k : Nat} (x : Int) :
    (wr.setCell ⟨g, k, none⟩ (.int .i64 x)).ownsRow w.heap.size 3 1 (.slice (some ⟨g, 0, none⟩) n cap) n ((xs.set k x).map (Value.int .i64)) := by
  obtain ⟨h4, -⟩ := h.stored k (.int .i64 x)
  rw [List.map_set]
  exact h4
theorem Row.cell {w wr : World} {g n cap : Nat} {xs : List Int} (h : wr.ownsRow w.heap.size 3 1 (.slice (some ⟨g, 0, none⟩) n cap) n (xs.map (Value.int .i64))) {k : Nat} {x : Int} (hx : xs[k]? = some x) :
    g < wr.heap.size ∧ w.heap.size ≤ g ∧ wr.cell? ⟨g, k, none⟩ = some (.int .i64 x) ∧ wr.frozen? ⟨g, k, none⟩ = false := by
  obtain ⟨g', cap', hv, hb', hl', hn', hc', hlen', hH⟩ := Go.Lib.holds_of_ownsRow h (by intro e; cases e)
  cases hv
  obtain ⟨hk, e⟩ := List.getElem?_eq_some_iff.1 hx
  have h5 := hH k (by simpa using hk)
  rw [Nat.zero_add] at h5
  refine ⟨hl', hb', ?_, h5.2⟩
  rw [h5.1, getElem!_pos _ k (by simpa using hk)]
  simp [e]

set_option maxRecDepth 100000 in
set_option maxHeartbeats 8000000 in
theorem rsolve_any (A : Option Addr) (n c : Nat) (l : List Spr) (rest : Nat) (w : World) (hn : n = l.length) (hm : n ≤ 8) (h0 : 0 < n) (h : Rds w w.heap.size A (sprs l)) (hok : ∀ s ∈ l, 0 ≤ s.n ∧ s.n ≤ 60 ∧ 0 ≤ s.m ∧ s.m ≤ 40) (hr : rest ≤ 300) :
    Calls Try.prog 20 #[.slice A n c, .int .i64 (mins l + rest)] w fun e w' => ∃ (A' : Option Addr) (c' : Nat) (xs : List Int), e = .returned (.slice A' n c') ∧ Rds w' w'.heap.size A' (xs.map (Value.int .i64)) ∧ SolveOut l (mins l + rest) xs ∧ Below w.heap.size w w' := by
  have HN := hide hn
  have HR := hide h
  have HOK := hide hok
  have hmx : ∀ k, k ≤ n → 0 ≤ mins (l.take k) ∧ mins (l.take k) ≤ 40 * k ∧ mins (l.take k) ≤ mins l := by
    intro k
    have key : ∀ (l : List Spr), (∀ s ∈ l, 0 ≤ s.m ∧ s.m ≤ 40) → ∀ k, 0 ≤ mins (l.take k) ∧ mins (l.take k) ≤ 40 * k ∧ mins (l.take k) ≤ mins l := by
      intro l
      induction l with
      | nil => intro _ k; simp [mins]; omega
      | cons s l ih =>
        intro hh k
        have h1 := hh s (by simp)
        have e : mins (s :: l) = s.m + mins l := by simp [mins]
        cases k with
        | zero =>
          have := ih (fun t ht => hh t (by simp [ht])) 0
          rw [List.take_zero] at this ⊢
          rw [e]
          simp [mins] at this ⊢
          omega
        | succ k =>
          have := ih (fun t ht => hh t (by simp [ht])) k
          rw [List.take_succ_cons, e]
          have e2 : mins (s :: l.take k) = s.m + mins (l.take k) := by simp [mins]
          rw [e2]
          omega
    intro _
    exact key l (fun s hs => ⟨(hok s hs).2.2.1, (hok s hs).2.2.2⟩) k
  have hmm := hmx n (Nat.le_refl _)
  rw [List.take_of_length_le (by omega)] at hmm
  have HMX := hide hmx
  obtain ⟨M, hM⟩ : ∃ M, M = mins l := ⟨_, rfl⟩
  rw [← hM] at hmm
  rw [← hM]
  have HM := hide hM
  clear hn h hok hmx hM
  go_enter Try.func20, Try.ntmps20
  go_wp2_with fail
  go_loopg [5, 6, 7, 8] n (fun gk v s6 s7 i wr => ∃ (k : Nat) (b : Bool), k ≤ n ∧ i = .int .i64 k ∧ n ≤ gk + k ∧ s6 = .int .i64 (M + rest - mins (l.take k)) ∧ s7 = .bool b ∧ Hid (b = true ↔ ∃ s ∈ l.take k, 0 < s.n) ∧
    Hid (wr.ownsRow w.heap.size 3 1 v k ((l.take k).map fun s => Value.int .i64 s.m)) ∧ Hid (Below w.heap.size w wr))
  case atStart => exact ⟨0, false, Nat.zero_le _, rfl, by omega, by simp [mins], rfl, hide (by simp), World.ownsRow_nil _ _ _ _, Below.refl _ _⟩
  case round =>
    obtain ⟨k, b, hk, rfl, hgk, rfl, rfl, HE, HO, HB⟩ := hrel
    obtain ⟨A1, cc1, rfl, hA1, hcc1, hcc1m⟩ := own_form HO.out
    have hsz := HB.out.size
    have hmk := HMX.out k hk
    by_cases hlt : k < n
    · obtain ⟨x, hx⟩ : ∃ x, l[k]? = some x := ⟨_, List.getElem?_eq_getElem (by have := HN.out; omega)⟩
      obtain ⟨b1, off, rfl, hbB, c0, c1⟩ := (Rds.on2 HR.out HB.out).spr hx
      obtain ⟨x0, x1, x2, x3⟩ := HOK.out x (List.mem_of_getElem? hx)
      have HT := hide (show mins (l.take (k + 1)) = mins (l.take k) + x.m by rw [List.take_add_one, hx, Option.toList_some, mins_snoc])
      have HFT := hide (show ((l.take (k + 1)).map fun s => Value.int .i64 s.m) = ((l.take k).map fun s => Value.int .i64 s.m) ++ [.int .i64 x.m] by rw [List.take_add_one, hx, Option.toList_some, List.map_append]; rfl)
      have HE2 := hide (show (∃ s ∈ l.take (k + 1), 0 < s.n) ↔ (∃ s ∈ l.take k, 0 < s.n) ∨ 0 < x.n by
        rw [List.take_add_one, hx, Option.toList_some]
        constructor
        · rintro ⟨s, hs, h⟩
          rcases List.mem_append.1 hs with hs | hs
          · exact .inl ⟨s, hs, h⟩
          · rw [List.mem_singleton.1 hs] at h; exact .inr h
        · rintro (⟨s, hs, h⟩ | h)
          · exact ⟨s, List.mem_append_left _ hs, h⟩
          · exact ⟨x, by simp, h⟩)
      obtain ⟨r, hrr⟩ : ∃ r, r = M + rest - mins (l.take k) := ⟨_, rfl⟩
      have HNEW := hide (show M + (rest : Int) - mins (l.take (k + 1)) = r - x.m by rw [HT.out, hrr]; omega)
      rw [← hrr]
      have r0 : -1000 ≤ r := by omega
      have r1 : r ≤ 1000 := by omega
      have i1 : IntKind.i64.wrap (r - x.m) = r - x.m := IntWalk.i64_in _ (by omega)
      have cl : ∀ (ao : Obj), (wr.alloc ao).cell? ⟨b1, off + k * 2 + 1, none⟩ = some (.int .i64 x.m) := fun ao => (World.cell?_alloc_lt _ _ _ hbB).trans c1
      have cl0 : ∀ (ao : Obj), (wr.alloc ao).cell? ⟨b1, off + k * 2, none⟩ = some (.int .i64 x.n) := fun ao => (World.cell?_alloc_lt _ _ _ hbB).trans c0
      have hb1w : b1 < w.heap.size := by
        obtain ⟨b2, o2, e2, hb2, -, -⟩ := HR.out.spr hx
        simp only [Option.some.injEq, Addr.mk.injEq, and_true] at e2
        omega
      clear hx hrr hmk
      cases b with
      | true =>
        have HB1 := hide (HE.out.1 rfl)
        go_wp2_with (at_builtin; go_must (refine wpList_app rfl (.tmp 20) (.tmp 26) 36 rfl w.heap.size int_ty _ k ((l.take k).map fun s => Value.int .i64 s.m) rfl (HO.out.alloc _) (wr.heap.size + 1) (some ⟨wr.heap.size, 0, none⟩) 1 1 [.int .i64 x.m] rfl rfl ?_ (by simp; rfl) (by simp only [maxLen]; omega) (by omega) (by simp; omega) ?_); exact Rds.at_new (by simp) _ _; intro v' w3 o3 g3 b3; have d0 := (app_keep (HO.out.alloc _) g3 hb1w (by simp; omega) (off + k * 2)).trans (cl0 _); have d1 := (app_keep (HO.out.alloc _) g3 hb1w (by simp; omega) (off + k * 2 + 1)).trans (cl _))
        go_roundg (gk - 1)
        case measure => omega
        case rel =>
          refine ⟨k + 1, _, by omega, by go_num, by omega, by rw [HNEW.out], rfl, hide ?_, hide (by rw [HFT.out]; exact o3), hide (grown_below (v := Value.slice A1 k cc1) (HB.out.alloc hsz _) (HO.out.alloc _) g3 (by simp; omega))⟩
          rw [HE2.out]; simp [HB1.out]
      | false =>
        have hnb : ¬ (∃ s ∈ l.take k, 0 < s.n) := fun hb => by have := HE.out.2 hb; cases this
        have HNB := hide hnb
        clear hnb
        go_wp2_with (at_builtin; go_must (refine wpList_app rfl (.tmp 20) (.tmp 26) 36 rfl w.heap.size int_ty _ k ((l.take k).map fun s => Value.int .i64 s.m) rfl (HO.out.alloc _) (wr.heap.size + 1) (some ⟨wr.heap.size, 0, none⟩) 1 1 [.int .i64 x.m] rfl rfl ?_ (by simp; rfl) (by simp only [maxLen]; omega) (by omega) (by simp; omega) ?_); exact Rds.at_new (by simp) _ _; intro v' w3 o3 g3 b3; have d0 := (app_keep (HO.out.alloc _) g3 hb1w (by simp; omega) (off + k * 2)).trans (cl0 _); have d1 := (app_keep (HO.out.alloc _) g3 hb1w (by simp; omega) (off + k * 2 + 1)).trans (cl _))
        go_roundg (gk - 1)
        case measure => omega
        case rel =>
          refine ⟨k + 1, _, by omega, by go_num, by omega, by rw [HNEW.out], rfl, hide ?_, hide (by rw [HFT.out]; exact o3), hide (grown_below (v := Value.slice A1 k cc1) (HB.out.alloc hsz _) (HO.out.alloc _) g3 (by simp; omega))⟩
          rw [HE2.out]; simp only [decide_eq_true_eq]; exact ⟨fun h => .inr h, fun h => h.elim (fun h => absurd h HNB.out) id⟩
    · have hkn : k = n := by omega
      subst hkn
      have hall : l.take k = l := List.take_of_length_le (by have := HN.out; omega)
      have hrest : M + (rest : Int) - mins (l.take k) = (rest : Int) := by rw [hall, ← HM.out]; omega
      rw [hrest]
      rw [hall] at HE HO
      have hmap : (l.map fun s => Value.int .i64 s.m) = (l.map Spr.m).map (Value.int .i64) := by rw [List.map_map]; rfl
      rw [hmap] at HO
      have hne : ∃ g, A1 = some ⟨g, 0, none⟩ := by
        obtain ⟨g, cap, e, -⟩ := HO.out.form h0
        injection e with e1
        exact ⟨g, e1⟩
      obtain ⟨g, rfl⟩ := hne
      have i6 : ¬ (k : Int) = 0 := by omega
      clear hall hrest hmap hmk hA1 hgk
      cases b with
      | false =>
        have hz : ∀ s ∈ l, s.n = 0 := fun s hs => by
          have h1 := (HOK.out s hs).1
          rcases (show s.n = 0 ∨ 0 < s.n by omega) with h2 | h2
          · exact h2
          · have := HE.out.2 ⟨s, hs, h2⟩; cases this
        obtain ⟨X, hX⟩ : ∃ X, X = evenF l (rest : Int) := ⟨_, rfl⟩
        have HXL := hide (show X.length = k by rw [hX, evenF_len]; exact HN.out.symm)
        have HSO := hide (show SolveOut l (M + rest) X from ⟨by rw [hX, evenF_len], fun _ => by rw [hX, ← HM.out]; congr 1; omega, fun ⟨s, hs, h1⟩ => by have := hz s hs; omega⟩)
        obtain ⟨dv, hdv⟩ : ∃ dv, dv = (rest : Int) / (k : Int) := ⟨_, rfl⟩
        obtain ⟨md, hmd⟩ : ∃ md, md = (rest : Int) % (k : Int) := ⟨_, rfl⟩
        have q2 : (rest : Int).tdiv (k : Int) = dv := by rw [hdv]; exact Int.tdiv_eq_ediv_of_nonneg (by omega)
        have q3 : (rest : Int).tmod (k : Int) = md := by rw [hmd]; exact Int.tmod_eq_emod_of_nonneg (by omega)
        have dv0 : 0 ≤ dv := by rw [hdv]; exact Int.ediv_nonneg (by omega) (by omega)
        have dv1 : dv ≤ 300 := by have := Int.ediv_le_self (k : Int) (show (0 : Int) ≤ rest by omega); omega
        have md0 : 0 ≤ md := by rw [hmd]; exact Int.emod_nonneg _ (by omega)
        have md1 : md < k := by rw [hmd]; exact Int.emod_lt_of_pos _ (by omega)
        have q4 : IntKind.i64.wrap dv = dv := IntWalk.i64_in _ (by omega)
        have q5 : IntKind.i64.wrap md = md := IntWalk.i64_in _ (by omega)
        have q7 : IntKind.i64.wrap (dv + 1) = dv + 1 := IntWalk.i64_in _ (by omega)
        have HG := hide (fun (j : Nat) (s : Spr) (hj : l[j]? = some s) => show X[j]? = some (s.m + dv + if (j : Int) < md then 1 else 0) by
          rw [hX, evenF_get l _ hj, ← HN.out, hdv, hmd])
        clear hX hz hdv hmd
        go_wp2_with fail
        go_loopg [9] k (fun gk i wr2 => ∃ (j : Nat) (ys : List Int), j ≤ k ∧ i = .int .i64 j ∧ k ≤ gk + j ∧ Hid (wr2.ownsRow w.heap.size 3 1 (.slice (some ⟨g, 0, none⟩) k cc1) k (ys.map (Value.int .i64))) ∧ Hid (ys.length = k ∧ (∀ m, m < j → ys[m]? = X[m]?) ∧ ∀ m, j ≤ m → ys[m]? = (l.map Spr.m)[m]?) ∧ Hid (Below w.heap.size w wr2))
        case atStart => exact ⟨0, l.map Spr.m, Nat.zero_le _, rfl, by omega, HO, hide ⟨by rw [List.length_map]; exact HN.out.symm, fun m hm => absurd hm (by omega), fun m _ => rfl⟩, HB⟩
        case round =>
          obtain ⟨j, ys, hj, rfl, hgj, HOj, HY, HBj⟩ := hrel
          by_cases hlt2 : j < k
          · obtain ⟨x, hx⟩ : ∃ x, l[j]? = some x := ⟨_, List.getElem?_eq_getElem (by have := HN.out; omega)⟩
            have hxs := HOK.out x (List.mem_of_getElem? hx)
            have hy : ys[j]? = some x.m := by rw [HY.out.2.2 j (Nat.le_refl _), List.getElem?_map, hx]; rfl
            obtain ⟨hg1, hg2, c2, fz⟩ := Row.cell HOj.out hy
            have hXj := HG.out j x hx
            have j1 : IntKind.i64.wrap (j : Int) = (j : Int) := IntWalk.i64_in _ (by omega)
            have j3 : ((j : Int)).toNat = j := by omega
            have j4 : (0 : Int) ≤ (j : Int) := by omega
            have j5 : (j : Int) < (k : Int) := by omega
            have hnew : ∀ z : Int, X[j]? = some z → (ys.set j z).length = k ∧ (∀ m, m < j + 1 → (ys.set j z)[m]? = X[m]?) ∧ ∀ m, j + 1 ≤ m → (ys.set j z)[m]? = (l.map Spr.m)[m]? := by
              intro z hz
              obtain ⟨l1, l2, l3⟩ := HY.out
              refine ⟨by rw [List.length_set]; exact l1, fun m hm => ?_, fun m hm => ?_⟩
              · by_cases e : m = j
                · subst e; rw [List.getElem?_set_self (by omega), hz]
                · rw [List.getElem?_set_ne (by omega)]; exact l2 m (by omega)
              · rw [List.getElem?_set_ne (by omega)]; exact l3 m (by omega)
            have HNW := hide hnew
            obtain ⟨hxa, hxb, hxc, hxd⟩ := hxs
            clear hx hy hnew
            rcases (show (j : Int) < md ∨ md ≤ (j : Int) by omega) with h5 | h5
            · rw [if_pos h5] at hXj
              have HXJ := hide (show X[j]? = some (x.m + (dv + 1)) by rw [hXj]; congr 1; omega)
              have q8 : IntKind.i64.wrap (x.m + (dv + 1)) = x.m + (dv + 1) := IntWalk.i64_in _ (by omega)
              clear hXj
              go_wp2_with fail
              go_roundg (gk - 1)
              case measure => omega
              case rel => exact ⟨j + 1, ys.set j (x.m + (dv + 1)), by omega, by go_num, by omega, hide (Row.set HOj.out _), hide (HNW.out _ HXJ.out), hide (HBj.out.setCell hg2 _)⟩
            · rw [if_neg (by omega), Int.add_zero] at hXj
              have HXJ := hide hXj
              have q8 : IntKind.i64.wrap (x.m + dv) = x.m + dv := IntWalk.i64_in _ (by omega)
              have h6 : ¬ (j : Int) < md := by omega
              clear hXj
              go_wp2_with fail
              go_roundg (gk - 1)
              case measure => omega
              case rel => exact ⟨j + 1, ys.set j (x.m + dv), by omega, by go_num, by omega, hide (Row.set HOj.out _), hide (HNW.out _ HXJ.out), hide (HBj.out.setCell hg2 _)⟩
          · have hyx : ys = X := List.ext_getElem? fun m => by
              by_cases hm2 : m < j
              · exact HY.out.2.1 m hm2
              · rw [List.getElem?_eq_none (by have := HY.out.1; omega), List.getElem?_eq_none (by have := HXL.out; omega)]
            subst hyx
            go_wp2_with fail
            go_ret
            first
              | exact ⟨_, cc1, ys, rfl, Rds.own HOj.out, HSO.out, HBj.out⟩
              | exact ⟨_, ⟨cc1, rfl⟩, ys, Rds.own HOj.out, HSO.out, HBj.out⟩
      | true =>
        have HPO := hide (HE.out.1 rfl)
        have HNM := hide (show ∀ s ∈ l, 0 ≤ s.n from fun s hs => (HOK.out s hs).1)
        have HM0 := hide (show mins l = M from HM.out.symm)
        clear HE
        go_wp2_with fail
        go_loopg [6] rest (fun gk s6 wr2 => ∃ (r : Nat) (xs : List Int), s6 = .int .i64 r ∧ r ≤ gk ∧ r ≤ rest ∧ Hid (wr2.ownsRow w.heap.size 3 1 (.slice (some ⟨g, 0, none⟩) k cc1) k (xs.map (Value.int .i64))) ∧ Hid (Bal l xs (M + (rest - r : Nat))) ∧ Hid (Below w.heap.size w wr2))
        case atStart => exact ⟨rest, l.map Spr.m, rfl, Nat.le_refl _, Nat.le_refl _, HO, hide (by rw [Nat.sub_self, ← HM0.out]; simpa using Bal.mins), HB⟩
        case round =>
          obtain ⟨r, xs, rfl, hgr, hrr, HOr, HBA, HBr⟩ := hrel
          obtain ⟨gm, rfl⟩ : ∃ gm : Nat, gm = gk := ⟨_, rfl⟩
          by_cases hr0 : r = 0
          · subst hr0
            have HSO := hide (show SolveOut l (M + rest) xs from ⟨HBA.out.len, fun hz => by obtain ⟨s, hs, h1⟩ := HPO.out; have := hz s hs; omega, fun _ => by have := HBA.out; rwa [Nat.sub_zero] at this⟩)
            go_wp2_with fail
            go_ret
            first
              | exact ⟨_, cc1, xs, rfl, Rds.own HOr.out, HSO.out, HBr.out⟩
              | exact ⟨_, ⟨cc1, rfl⟩, xs, Rds.own HOr.out, HSO.out, HBr.out⟩
          · have hrp : 0 < r := by omega
            have HXS := hide (show ∀ (j : Nat) (u : Int), xs[j]? = some u → 0 ≤ u ∧ u ≤ 700 from bal_bnd (fun s hs => ⟨(HOK.out s hs).1, (HOK.out s hs).2.2.1⟩) HBA.out (by omega))
            have HXL := hide (show xs.length = k by rw [HBA.out.len]; exact HN.out.symm)
            go_wp2_with fail
            go_loopg [11, 12] k (fun gk s11 s12 wr3 => ∃ (j : Nat) (best : Int), j ≤ k ∧ s12 = .int .i64 j ∧ k ≤ gk + j ∧ s11 = .int .i64 best ∧ Hid ((NoneTo l j ∧ best = -1) ∨ ∃ (i : Nat) (s : Spr) (v : Int), PickTo l xs j i s v ∧ best = (i : Int)) ∧ Hid (Below wr.heap.size wr wr3))
            case atStart => exact ⟨0, -1, Nat.zero_le _, rfl, by omega, rfl, hide (.inl ⟨fun j t hj => absurd hj (by omega), rfl⟩), Below.refl _ _⟩
            case round =>
              obtain ⟨j, best, hj, rfl, hgj, rfl, HP, HB3⟩ := hrel
              by_cases hlt2 : j < k
              · obtain ⟨t, ht⟩ : ∃ t, l[j]? = some t := ⟨_, List.getElem?_eq_getElem (by have := HN.out; omega)⟩
                obtain ⟨u, hu⟩ : ∃ u, xs[j]? = some u := ⟨_, List.getElem?_eq_getElem (by have := HXL.out; omega)⟩
                obtain ⟨b1, off, rfl, hbB, c0, -⟩ := (Rds.on2 (Rds.on2 HR.out HBr.out) HB3.out).spr ht
                obtain ⟨hg1, hg2, d0', -⟩ := Row.cell HOr.out hu
                have d0 := (HB3.out.cell (p := ⟨g, j, none⟩) hg1).trans d0'
                obtain ⟨t0, t1, -, -⟩ := HOK.out t (List.mem_of_getElem? ht)
                obtain ⟨u0, u1⟩ := HXS.out j u hu
                have j1 : IntKind.i64.wrap (j : Int) = (j : Int) := IntWalk.i64_in _ (by omega)
                have j3 : ((j : Int)).toNat = j := by omega
                have j4 : (0 : Int) ≤ (j : Int) := by omega
                have j5 : (j : Int) < (k : Int) := by omega
                have HTT := hide ht
                have HUU := hide hu
                have HP0 := HP.out
                clear ht hu d0' HP
                rcases (show t.n = 0 ∨ 0 < t.n by omega) with htn | htn
                · have HNEW := hide (show (NoneTo l (j + 1) ∧ best = -1) ∨ ∃ (i : Nat) (s : Spr) (v : Int), PickTo l xs (j + 1) i s v ∧ best = (i : Int) from by
                    rcases HP0 with ⟨h1, h2⟩ | ⟨i, s, v, h1, h2⟩
                    · exact .inl ⟨h1.next HTT.out (by omega), h2⟩
                    · exact .inr ⟨i, s, v, h1.skip HTT.out (by omega), h2⟩)
                  rw [htn] at c0
                  clear HP0
                  go_wp2_with fail
                  go_quiet (fail)
                  go_wp2_with fail
                  go_roundg (gk - 1)
                  case measure => omega
                  case rel => exact ⟨j + 1, best, by omega, by go_num, by omega, rfl, HNEW, hide (below_drewN HB3.out _)⟩
                · rcases HP0 with ⟨h1, rfl⟩ | ⟨i, s, v, h1, rfl⟩
                  · have HNEW := hide (show (NoneTo l (j + 1) ∧ (j : Int) = -1) ∨ ∃ (i : Nat) (s : Spr) (v : Int), PickTo l xs (j + 1) i s v ∧ (j : Int) = (i : Int) from .inr ⟨j, t, u, PickTo.first h1 HTT.out HUU.out htn, rfl⟩)
                    clear h1
                    go_wp2_with fail
                    go_quiet (fail)
                    go_wp2_with fail
                    go_roundg (gk - 1)
                    case measure => omega
                    case rel => exact ⟨j + 1, (j : Int), by omega, by go_num, by omega, rfl, HNEW, hide (below_drewN HB3.out _)⟩
                  · have H1 := hide h1
                    obtain ⟨hij, hs, hv, sn, -⟩ := h1
                    obtain ⟨b2, off2, e2, -, f0, -⟩ := (Rds.on2 (Rds.on2 HR.out HBr.out) HB3.out).spr hs
                    simp only [Option.some.injEq, Addr.mk.injEq, and_true] at e2
                    obtain ⟨rfl, rfl⟩ := e2
                    obtain ⟨-, -, g0', -⟩ := Row.cell HOr.out hv
                    have g0 := (HB3.out.cell (p := ⟨g, i, none⟩) hg1).trans g0'
                    obtain ⟨s0, s1, -, -⟩ := HOK.out s (List.mem_of_getElem? hs)
                    obtain ⟨v0, v1⟩ := HXS.out i v hv
                    have a0 : 0 ≤ (u + 1) * s.n := Int.mul_nonneg (by omega) s0
                    have a1 : (u + 1) * s.n ≤ 701 * 60 := Int.mul_le_mul (by omega) s1 s0 (by omega)
                    have a2 : 0 ≤ (v + 1) * t.n := Int.mul_nonneg (by omega) t0
                    have a3 : (v + 1) * t.n ≤ 701 * 60 := Int.mul_le_mul (by omega) t1 t0 (by omega)
                    have k1 : IntKind.i64.wrap (u + 1) = u + 1 := IntWalk.i64_in _ (by omega)
                    have k2 : IntKind.i64.wrap (v + 1) = v + 1 := IntWalk.i64_in _ (by omega)
                    have k3 : IntKind.i64.wrap ((u + 1) * s.n) = (u + 1) * s.n := IntWalk.i64_in _ (by omega)
                    have k4 : IntKind.i64.wrap ((v + 1) * t.n) = (v + 1) * t.n := IntWalk.i64_in _ (by omega)
                    have m1 : IntKind.i64.wrap (i : Int) = (i : Int) := IntWalk.i64_in _ (by omega)
                    have m3 : ((i : Int)).toNat = i := by omega
                    have m4 : (0 : Int) ≤ (i : Int) := by omega
                    have m5 : (i : Int) < (k : Int) := by omega
                    have m6 : i < k := by omega
                    have m7 : ¬ (i : Int) < 0 := by omega
                    clear hs hv g0' a0 a1 a2 a3
                    rcases (show (u + 1) * s.n < (v + 1) * t.n ∨ ¬ (u + 1) * s.n < (v + 1) * t.n by omega) with hc | hc
                    · have HNEW := hide (show (NoneTo l (j + 1) ∧ (j : Int) = -1) ∨ ∃ (i : Nat) (s : Spr) (v : Int), PickTo l xs (j + 1) i s v ∧ (j : Int) = (i : Int) from .inr ⟨j, t, u, H1.out.take HTT.out HUU.out htn hc, rfl⟩)
                      go_wp2_with fail
                      go_quiet (fail)
                      go_wp2_with fail
                      go_roundg (gk - 1)
                      case measure => omega
                      case rel => exact ⟨j + 1, (j : Int), by omega, by go_num, by omega, rfl, HNEW, hide (below_drewN HB3.out _)⟩
                    · have HNEW := hide (show (NoneTo l (j + 1) ∧ (i : Int) = -1) ∨ ∃ (i' : Nat) (s : Spr) (v : Int), PickTo l xs (j + 1) i' s v ∧ (i : Int) = (i' : Int) from .inr ⟨i, s, v, H1.out.stay HTT.out HUU.out hc, rfl⟩)
                      go_wp2_with fail
                      go_quiet (fail)
                      go_wp2_with fail
                      go_roundg (gk - 1)
                      case measure => omega
                      case rel => exact ⟨j + 1, (i : Int), by omega, by go_num, by omega, rfl, HNEW, hide (below_drewN HB3.out _)⟩
              · have hjk : j = k := by omega
                subst hjk
                rcases HP.out with ⟨h1, rfl⟩ | ⟨i, s, v, h1, rfl⟩
                · exfalso
                  obtain ⟨s, hs, h2⟩ := HPO.out
                  obtain ⟨m, hm2⟩ := List.getElem?_of_mem hs
                  exact h1 m s (by have := (List.getElem?_eq_some_iff.1 hm2).1; have := HN.out; omega) hm2 h2
                · have hpk : Pick l xs i s v := PickTo.pick (by rw [← HN.out]; exact h1)
                  have HPK := hide hpk
                  have hij : i < j := h1.1
                  have hOr2 := own_below HOr.out HB3.out (Nat.le_refl _)
                  obtain ⟨hg1, hg2, g0, fz⟩ := Row.cell hOr2 hpk.gv
                  obtain ⟨v0, v1⟩ := HXS.out i v hpk.gv
                  have HO3 := hide hOr2
                  have k2 : IntKind.i64.wrap (v + 1) = v + 1 := IntWalk.i64_in _ (by omega)
                  have m1 : IntKind.i64.wrap (i : Int) = (i : Int) := IntWalk.i64_in _ (by omega)
                  have m3 : ((i : Int)).toNat = i := by omega
                  have m4 : (0 : Int) ≤ (i : Int) := by omega
                  have m5 : (i : Int) < (j : Int) := by omega
                  have n1 : IntKind.i64.wrap ((r : Int) - 1) = (r : Int) - 1 := IntWalk.i64_in _ (by omega)
                  clear h1 hpk hOr2 HP
                  go_wp2_with fail
                  go_roundg (gm - 1)
                  case measure => omega
                  case rel =>
                    refine ⟨r - 1, xs.set i (v + 1), by go_num, by omega, by omega, hide (Row.set HO3.out _), hide ?_, hide ((find1_tr HBr.out HB3.out).setCell hg2 _)⟩
                    have hgw := HBA.out.grow HPK.out
                    rw [show (M + ((rest - r : Nat) : Int)) + 1 = M + ((rest - (r - 1) : Nat) : Int) by omega] at hgw
                    exact hgw

end Go.Proofs.Ytcnejnaeahffhaa
