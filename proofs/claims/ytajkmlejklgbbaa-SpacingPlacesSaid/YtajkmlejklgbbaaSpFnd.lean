/- spring.find. -/
import Derived.Test.YtajkmlejklgbbaaSpNats
import Derived.Test.YtajkmlejklgbbaaSpSearch
import Derived.Test.YtajkmlejklgbbaaSpBest
namespace Go.Proofs.Ytajkmlejklgbbaa
open Go.RowKit

/-- the cells of find's own variables -/
structure FindAt (w wr : World) (A : Option Addr) (n c : Nat) (width p q : Int) : Prop where
  below : Below w.heap.size w wr
  size : w.heap.size + 4 ≤ wr.heap.size
  cl : wr.cell? ⟨w.heap.size, 0, none⟩ = some (.slice A n c)
  cw : wr.cell? ⟨w.heap.size + 1, 0, none⟩ = some (.int .i64 width)
  r0 : wr.cell? ⟨w.heap.size + 1 + 1, 0, none⟩ = some (.int .i64 0)
  r1 : wr.cell? ⟨w.heap.size + 1 + 1, 1, none⟩ = some (.int .i64 0)
  b0 : wr.cell? ⟨w.heap.size + 1 + 1 + 1, 0, none⟩ = some (.int .i64 p)
  b1 : wr.cell? ⟨w.heap.size + 1 + 1 + 1, 1, none⟩ = some (.int .i64 q)
  fr0 : wr.frozen? ⟨w.heap.size + 1 + 1, 0, none⟩ = false
  fr1 : wr.frozen? ⟨w.heap.size + 1 + 1, 1, none⟩ = false
  fb0 : wr.frozen? ⟨w.heap.size + 1 + 1 + 1, 0, none⟩ = false
  fb1 : wr.frozen? ⟨w.heap.size + 1 + 1 + 1, 1, none⟩ = false

section
variable {w wr w' : World} {A : Option Addr} {n c : Nat} {width p q : Int}
theorem FindAt.on (h : FindAt w wr A n c width p q) (hb : Below wr.heap.size wr w') : FindAt w w' A n c width p q := by
  have hs := h.size
  exact ⟨find1_tr h.below hb, by have := hb.size; omega, (hb.cell (p := ⟨_, _, none⟩) (by simp; omega)).trans h.cl, (hb.cell (p := ⟨_, _, none⟩) (by simp; omega)).trans h.cw,
    (hb.cell (p := ⟨_, _, none⟩) (by simp; omega)).trans h.r0, (hb.cell (p := ⟨_, _, none⟩) (by simp; omega)).trans h.r1, (hb.cell (p := ⟨_, _, none⟩) (by simp; omega)).trans h.b0, (hb.cell (p := ⟨_, _, none⟩) (by simp; omega)).trans h.b1,
    (hb.frozen (p := ⟨_, _, none⟩) (by simp; omega)).trans h.fr0, (hb.frozen (p := ⟨_, _, none⟩) (by simp; omega)).trans h.fr1, (hb.frozen (p := ⟨_, _, none⟩) (by simp; omega)).trans h.fb0, (hb.frozen (p := ⟨_, _, none⟩) (by simp; omega)).trans h.fb1⟩
theorem FindAt.new (h : FindAt w wr A n c width p q) (o : Obj) : FindAt w (wr.alloc o) A n c width p q := h.on ((Below.refl _ _).alloc (Nat.le_refl _) o)
theorem FindAt.set (h : FindAt w wr A n c width p q) (p' q' : Int) : FindAt w ((wr.setCell ⟨w.heap.size + 1 + 1 + 1, 0, none⟩ (.int .i64 p')).setCell ⟨w.heap.size + 1 + 1 + 1, 1, none⟩ (.int .i64 q')) A n c width p' q' := by
  have hs := h.size
  have e : ∀ b o, b ≠ w.heap.size + 1 + 1 + 1 → ((wr.setCell ⟨w.heap.size + 1 + 1 + 1, 0, none⟩ (.int .i64 p')).setCell ⟨w.heap.size + 1 + 1 + 1, 1, none⟩ (.int .i64 q')).cell? ⟨b, o, none⟩ = wr.cell? ⟨b, o, none⟩ := by
    intro b o hb
    rw [World.cell?_setCell_other _ _ _ _ (by intro e; injection e with e; omega), World.cell?_setCell_other _ _ _ _ (by intro e; injection e with e; omega)]
  refine ⟨(h.below.setCell (by simp; omega) _).setCell (by simp; omega) _, by simpa [World.setCell] using hs, (e _ _ (by omega)).trans h.cl, (e _ _ (by omega)).trans h.cw, (e _ _ (by omega)).trans h.r0, (e _ _ (by omega)).trans h.r1, ?_, ?_, ?_, ?_, ?_, ?_⟩
  · rw [World.cell?_setCell_other _ _ _ _ (by intro e; injection e with _ e; omega)]
    exact World.cell?_setCell_same _ _ _ h.b0
  · exact World.cell?_setCell_same _ _ _ (u := .int .i64 q) (by rw [World.cell?_setCell_other _ _ _ _ (by intro e; injection e with _ e; omega)]; exact h.b1)
  · simpa using h.fr0
  · simpa using h.fr1
  · simpa using h.fb0
  · simpa using h.fb1
end

theorem Rds.set {w : World} {B : Nat} {A : Option Addr} {xs : List Value} (h : Rds w B A xs) {k i : Nat} (v : Value) (hA : ∀ b off sp, A = some ⟨b, off, sp⟩ → xs ≠ [] → b ≠ k) : Rds (w.setCell ⟨k, i, none⟩ v) B A xs := by
  rcases h with h | ⟨b, off, e, hb, hc⟩
  · exact .inl h
  · by_cases hx : xs = []
    · exact .inl hx
    · exact .inr ⟨b, off, e, hb, fun j u hu => by
        rw [World.cell?_setCell_other _ _ _ _ (by intro e2; injection e2 with e2; exact hA b off none e hx e2.symm)]
        exact hc j u hu⟩

set_option maxRecDepth 100000 in
set_option maxHeartbeats 4000000 in
theorem find_any (A : Option Addr) (n c : Nat) (l : List Spr) (width : Int) (w : World) (hn : n = l.length) (hm : n ≤ 8192) (h : Rds w w.heap.size A (sprs l)) (hok : ∀ s ∈ l, s.ok)
    (hw0 : 0 ≤ width) (hw1 : width ≤ 67108864) (hmin : mins l ≤ width) :
    Calls Try.prog 44 #[.slice A n c, .int .i64 width] w fun e w' => ∃ p q : Int, e = .returned (.agg #[.int .i64 p, .int .i64 q]) ∧ Low l width p q ∧ Below w.heap.size w w' := by
  have HN := hide hn
  have HOK := hide hok
  have HR := hide h
  have HNM := hide (show ∀ s ∈ l, 0 ≤ s.n ∧ 0 ≤ s.m from fun s hs => ⟨(Spr.ok_of (hok s hs)).1, (Spr.ok_of (hok s hs)).2.2.1⟩)
  have HST := hide (BestOf.start (fun s hs => (Spr.ok_of (hok s hs)).2.2.1) hw0 hmin)
  clear hn hok h hmin
  go_enter Try.func44, Try.ntmps44
  go_wp2_with fail
  have hb0 : Below w.heap.size w ((((w.alloc (.cells #[.slice A n c] 31)).alloc (.cells #[.int .i64 width] 3)).alloc (.cells #[.int .i64 0, .int .i64 0] 87)).alloc (.cells #[.int .i64 0, .int .i64 1] 87)) :=
    ((((Below.refl _ w).alloc (Nat.le_refl _) _).alloc (by simp) _).alloc (by simp; omega) _).alloc (by simp; omega) _
  have hF0 : FindAt w ((((w.alloc (.cells #[.slice A n c] 31)).alloc (.cells #[.int .i64 width] 3)).alloc (.cells #[.int .i64 0, .int .i64 0] 87)).alloc (.cells #[.int .i64 0, .int .i64 1] 87)) A n c width 0 1 := by
    refine ⟨hb0, by simp, ?_, ?_, ?_, ?_, ?_, ?_, ?_, ?_, ?_, ?_⟩ <;> simp [go_sem]
  generalize hw2 : ((((w.alloc (.cells #[.slice A n c] 31)).alloc (.cells #[.int .i64 width] 3)).alloc (.cells #[.int .i64 0, .int .i64 0] 87)).alloc (.cells #[.int .i64 0, .int .i64 1] 87)) = w2 at hF0 hb0
  clear hw2
  refine (naturals_any A n c l _ HN.out hm (Rds.on2 HR.out hb0) HOK.out).mono ?_
  rintro e w3 ⟨A3, c3, ns, rfl, hr3, hns, hb3, hA3⟩
  have HA3 := hide (show ∀ b off sp, A3 = some ⟨b, off, sp⟩ → ns.map (Value.int .i64) ≠ [] → b ≠ w.heap.size + 1 + 1 + 1 from fun b off sp e h => by have := hA3 b off sp e (by rintro rfl; exact h rfl); have := hF0.size; omega)
  have hF3 := hF0.on hb3
  obtain ⟨nn, hnn⟩ : ∃ nn, nn = ns.length := ⟨_, rfl⟩
  have HNN := hide hnn
  have HNS := hide hns
  have HR3 := hide hr3
  have hnl : nn ≤ 8192 := by have := hns.len; have := HN.out; omega
  rw [← hnn]
  clear hnn hns hr3 hF0 hb0 hb3 hA3
  go_wp2_with fail
  go_loopg [17] nn (fun gk i wr => ∃ (k : Nat) (p q : Int), k ≤ nn ∧ i = .int .i64 k ∧ nn ≤ gk + k ∧ FindAt w wr A n c width p q ∧ Hid (Rds wr wr.heap.size A3 (ns.map (Value.int .i64))) ∧ Hid (BestOf l width (fun x => x ∈ ns.take k) p q))
  case atStart => exact ⟨0, 0, 1, Nat.zero_le _, rfl, by omega, hF3, HR3, hide (HST.out.imp fun x hx => by simp at hx)⟩
  case round =>
    obtain ⟨k, p, q, hk, rfl, hgk, hF, HRN, HB⟩ := hrel
    by_cases hlt : k < nn
    · obtain ⟨x, hx⟩ : ∃ x, ns[k]? = some x := ⟨_, List.getElem?_eq_getElem (by have := HNN.out; omega)⟩
      obtain ⟨hx0, s, hs, hsx⟩ := HNS.out.sub x (List.mem_of_getElem? hx)
      have hs2 := Spr.ok_of (HOK.out s hs)
      have hxm : x ≤ 1048576 := by omega
      obtain ⟨bn, on, rfl, hbn, hcn⟩ := HRN.out.get (k := k) (by rw [List.length_map]; exact (List.getElem?_eq_some_iff.1 hx).1)
      have c19 := hcn k (.int .i64 x) (by rw [List.getElem?_map, hx]; rfl)
      have htk : ∀ y, y ∈ ns.take (k + 1) → y ∈ ns.take k ∨ y = x := by
        intro y hy
        rw [List.take_add_one, hx, Option.toList_some] at hy
        simpa using hy
      have HTK := hide htk
      have HS := hide (show s ∈ l ∧ s.n = x from ⟨hs, hsx⟩)
      have hp0 := HB.out.p0
      have hpw := HB.out.pw
      have hq1 := HB.out.q1
      have hqm := HB.out.qm
      have hpx0 : 0 ≤ p * x := Int.mul_nonneg hp0 (by omega)
      have hpx1 : p * x ≤ 67108864 * 1048576 := Int.mul_le_mul (by omega) hxm (by omega) (by omega)
      obtain ⟨k0, hk0⟩ : ∃ k0, k0 = p * x / q := ⟨_, rfl⟩
      have k00 : 0 ≤ k0 := by rw [hk0]; exact Int.ediv_nonneg hpx0 (by omega)
      have k01 : k0 ≤ width := by
        have e1 := lens_ge (a := p) (b := q) (fun t ht => (HNM.out t ht).2) hs
        have e2 := HB.out.fit
        have e3 : s.n * p / q ≤ lenF s p q := by unfold lenF; omega
        rw [hsx, Int.mul_comm x p, ← hk0] at e3
        omega
      have i1 : IntKind.i64.wrap (p * x) = p * x := IntWalk.i64_in _ (by omega)
      have i2 : (p * x).tdiv q = k0 := by rw [hk0]; exact Int.tdiv_eq_ediv_of_nonneg hpx0
      have i3 : IntKind.i64.wrap k0 = k0 := IntWalk.i64_in _ (by omega)
      have i4 : ¬ q = 0 := by omega
      obtain ⟨nx, hnx⟩ : ∃ nx, nx = k0 + 1 := ⟨_, rfl⟩
      have i5 : IntKind.i64.wrap (k0 + 1) = nx := by rw [hnx]; exact IntWalk.i64_in _ (by omega)
      have nx0 : 1 ≤ nx := by omega
      have nx1 : nx ≤ 67108865 := by omega
      have HNX := hide (show nx = p * x / q + 1 by rw [hnx, hk0])
      have q0 := hF.b0
      have q1' := hF.b1
      have HF := hide hF
      have hsz4 := hF.size
      have z0 : w.heap.size < wr.heap.size := by omega
      have z1 : w.heap.size + 1 < wr.heap.size := by omega
      have z2 : w.heap.size + 1 + 1 < wr.heap.size := by omega
      have z3 : w.heap.size + 1 + 1 + 1 < wr.heap.size := by omega
      clear hx hs hsx hs2 hcn htk hF hpx1 hk0 hnx
      go_upto_region 6 with fail
      have hFA := (HF.out.new (.cells #[.int .i64 x] 3)).new (.cells #[.int .i64 nx] 3)
      have dA : ((wr.alloc (.cells #[.int .i64 x] 3)).alloc (.cells #[.int .i64 nx] 3)).cell? ⟨wr.heap.size, 0, none⟩ = some (.int .i64 x) := by simp [go_sem]
      have nA : ((wr.alloc (.cells #[.int .i64 x] 3)).alloc (.cells #[.int .i64 nx] 3)).cell? ⟨wr.heap.size + 1, 0, none⟩ = some (.int .i64 nx) := by simp [go_sem]
      have bA : Below wr.heap.size wr ((wr.alloc (.cells #[.int .i64 x] 3)).alloc (.cells #[.int .i64 nx] 3)) := ((Below.refl _ _).alloc (Nat.le_refl _) _).alloc (by simp) _
      have sA : ((wr.alloc (.cells #[.int .i64 x] 3)).alloc (.cells #[.int .i64 nx] 3)).heap.size = wr.heap.size + 1 + 1 := by simp
      generalize hwA : ((wr.alloc (.cells #[.int .i64 x] 3)).alloc (.cells #[.int .i64 nx] 3)) = wA at hFA dA nA bA sA ⊢
      have clA := hFA.cl
      have cwA := hFA.cw
      have zA := hFA.size
      have y0 : w.heap.size < wA.heap.size := by omega
      have y1 : w.heap.size + 1 < wA.heap.size := by omega
      have y2 : wr.heap.size < wA.heap.size := by omega
      have y3 : wr.heap.size + 1 < wA.heap.size := by omega
      have C1 := hide clA
      have C2 := hide nA
      have C3 := hide dA
      have C4 := hide cwA
      have HRA := hide (Rds.on2 HR.out hFA.below)
      have HFA := hide hFA
      clear hwA hFA i1 i2 i3 i5 q0 q1' c19 hbn sA
      obtain ⟨T, hT⟩ : ∃ T, T = lens l nx x := ⟨_, rfl⟩
      have htot : ∀ W, Rds W W.heap.size A (sprs l) → Calls Try.prog 47 #[.slice A n c, .agg #[.int .i64 nx, .int .i64 x]] W fun e w' => e = .returned (.int .i64 T) ∧ Below W.heap.size W w' :=
        fun W hW => by rw [hT]; exact total_any A n c l nx x W HN.out hm hW HOK.out (by omega) (by omega) (by omega) (by omega)
      have HT := hide hT
      have HTOT := hide htot
      clear hT htot
      rcases (show width < T ∨ T ≤ width by omega) with hgt | hgt
      · go_region_held3 (fun w' => w'.cell? ⟨w.heap.size, 0, none⟩ = some (.slice A n c) ∧ w'.cell? ⟨wr.heap.size + 1, 0, none⟩ = some (.int .i64 nx) ∧ w'.cell? ⟨wr.heap.size, 0, none⟩ = some (.int .i64 x) ∧ w'.cell? ⟨w.heap.size + 1, 0, none⟩ = some (.int .i64 width) ∧ Below wA.heap.size wA w')
          (first | (go_keep; done) | (exact find1_keep (Below.drew (Below.refl _ _)) y0 y3 y2 y1 C1.out C2.out C3.out C4.out) | (exact find1_keep (find1_tr (below5 (by assumption)) (by assumption)) y0 y3 y2 y1 C1.out C2.out C3.out C4.out) | (exact find1_keep (Below.drew (below5 (by assumption))) y0 y3 y2 y1 C1.out C2.out C3.out C4.out))
          (first | (go_at_call 47; refine (HTOT.out _ (Rds.on2 HRA.out (below5 (by assumption)))).mono ?_; rintro e w' ⟨rfl, hb'⟩))
        have hB6 := below5 (show _ by assumption)
        have HF6 := hide (HFA.out.on hB6)
        have HB6 := hide (Rds.on2 HRN.out (find1_tr bA (hB6)))
        have HBST := hide ((HB.out.skip (fun t ht => (HNM.out t ht).1) hx0 (by rw [← HNX.out, ← HT.out]; exact hgt)).imp (P' := fun y => y ∈ ns.take (k + 1)) HTK.out)
        clear hB6 hb' bA dA nA clA cwA
        go_wp2_with fail
        go_roundg (gk - 1)
        case measure => omega
        case rel => exact ⟨k + 1, p, q, by omega, by go_num, by omega, HF6.out, HB6.out, HBST⟩
      · go_region_held3 (fun w' => w'.cell? ⟨w.heap.size, 0, none⟩ = some (.slice A n c) ∧ w'.cell? ⟨wr.heap.size + 1, 0, none⟩ = some (.int .i64 nx) ∧ w'.cell? ⟨wr.heap.size, 0, none⟩ = some (.int .i64 x) ∧ w'.cell? ⟨w.heap.size + 1, 0, none⟩ = some (.int .i64 width) ∧ Below wA.heap.size wA w')
          (first | (go_keep; done) | (exact find1_keep (Below.drew (Below.refl _ _)) y0 y3 y2 y1 C1.out C2.out C3.out C4.out) | (exact find1_keep (find1_tr (below5 (by assumption)) (by assumption)) y0 y3 y2 y1 C1.out C2.out C3.out C4.out) | (exact find1_keep (Below.drew (below5 (by assumption))) y0 y3 y2 y1 C1.out C2.out C3.out C4.out))
          (first | (go_at_call 47; refine (HTOT.out _ (Rds.on2 HRA.out (below5 (by assumption)))).mono ?_; rintro e w' ⟨rfl, hb'⟩))
        have hB6 := below5 (show _ by assumption)
        have HF6 := hide (HFA.out.on hB6)
        have HB6 := hide (Rds.on2 HRN.out (find1_tr bA (hB6)))
        have d1 := (hB6.cell (p := ⟨wr.heap.size + 1, 0, none⟩) y3).trans C2.out
        have d2 := (hB6.cell (p := ⟨wr.heap.size, 0, none⟩) y2).trans C3.out
        have d3 := HF6.out.cw
        have d4 := HF6.out.cl
        have zs6 := hB6.size
        have v0 : w.heap.size < w'.heap.size := by omega
        have v1 : w.heap.size + 1 < w'.heap.size := by omega
        have v2 : wr.heap.size < w'.heap.size := by omega
        have v3 : wr.heap.size + 1 < w'.heap.size := by omega
        have HR6 := hide (Rds.on2 HRA.out hB6)
        have nxw : nx ≤ width := by
          have e1 := lens_ge (a := nx) (b := x) (fun t ht => (HNM.out t ht).2) HS.out.1
          have e2 := lenF_own (s := s) (by rw [HS.out.2]; exact hx0) nx
          rw [HS.out.2, ← HT.out] at *
          omega
        obtain ⟨m, hmm⟩ : ∃ m : Nat, (m : Int) = width - nx + 1 := ⟨(width - nx + 1).toNat, by omega⟩
        have j1 : IntKind.i64.wrap (width - nx) = width - nx := IntWalk.i64_in _ (by omega)
        have j2 : IntKind.i64.wrap (width - nx + 1) = (m : Int) := by rw [hmm]; exact IntWalk.i64_in _ (by omega)
        have HMM := hide hmm
        have hse := hide (search_any A n c l nx x width m w.heap.size (wr.heap.size + 1) wr.heap.size (w.heap.size + 1) w' HN.out hm HOK.out (by omega) (by omega) (by omega) (by omega) HR6.out d4 d1 d2 d3 v0 v3 v2 v1)
        have hB6' := hide hB6
        clear hB6 hb' dA nA clA cwA hmm
        go_wp2_with fail
        refine hse.out.mono ?_
        rintro e w7 ⟨kk, rfl, hkm, hs1, hs2, hb7⟩
        have hF7 := HF6.out.on hb7
        have zs7 := hb7.size
        have hbt := HB.out.take (fun t ht => HNM.out t ht) hx0 hxm HS.out.1 HS.out.2 HNX.out HMM.out (by rw [← HT.out]; exact hgt) hkm hs1 hs2
        obtain ⟨f, hf⟩ : ∃ f, f = nx + (kk : Int) := ⟨_, rfl⟩
        rw [← hf] at hbt
        have f0 := hbt.p0
        have fw := hbt.pw
        have HBT := hide (hbt.imp (P' := fun y => y ∈ ns.take (k + 1)) HTK.out)
        have l1 : IntKind.i64.wrap (nx + (kk : Int)) = f := by rw [hf]; exact IntWalk.i64_in _ (by omega)
        have hcmp : cmpF f x p q = 1 := by
          have e1 := fl_lt (p * x) q hq1
          rw [← HNX.out] at e1
          have e2 : nx * q ≤ f * q := Int.mul_le_mul_of_nonneg_right (by omega) (by omega)
          unfold cmpF cmpS
          rw [if_neg (by omega), if_pos (by omega)]
        have hco := fun W => compare_any f x p q W f0 (by omega) (by omega) (by omega) hp0 (by omega) hq1 (by omega)
        rw [hcmp] at hco
        have HCO := hide hco
        have g1 := (hb7.cell (p := ⟨wr.heap.size + 1, 0, none⟩) v3).trans d1
        have g2 := (hb7.cell (p := ⟨wr.heap.size, 0, none⟩) v2).trans d2
        have g3 := hF7.b0
        have g4 := hF7.b1
        have u0 : w.heap.size + 1 + 1 + 1 < w7.heap.size := by have := hF7.size; omega
        have u1 : wr.heap.size < w7.heap.size := by omega
        have u2 : wr.heap.size + 1 < w7.heap.size := by omega
        have HF7 := hide hF7
        have HB7 := hide (Rds.on2 HB6.out hb7)
        clear d1 d2 d3 d4 hbt hf hcmp hco hb7 hs1 hs2 hF7 hpx0 fw j1 j2
        go_wp2_with fail
        refine (HCO.out _).mono ?_
        rintro e w8 ⟨rfl, hb8⟩
        have hF8 := (HF7.out.new _).on hb8
        have HB8 := hide (Rds.on2 HB7.out (find1_tr ((Below.refl _ w7).alloc (Nat.le_refl _) _) (hb8.mono (by simp))))
        have k1 := hF8.b0
        have k2 := hF8.b1
        have k3 := hF8.fb0
        have k4 := hF8.fb1
        have k5 : w8.cell? ⟨w7.heap.size, 0, none⟩ = some (.int .i64 f) := (hb8.cell (p := ⟨w7.heap.size, 0, none⟩) (by simp)).trans (by simp [go_sem])
        have k6 : w8.cell? ⟨w7.heap.size, 1, none⟩ = some (.int .i64 x) := (hb8.cell (p := ⟨w7.heap.size, 1, none⟩) (by simp)).trans (by simp [go_sem])
        have HF8 := hide hF8
        clear hF8 hb8 g1 g2 g3 g4
        go_wp2_with fail
        go_roundg (gk - 1)
        case measure => omega
        case rel =>
          refine ⟨k + 1, f, x, by omega, by go_num, by omega, HF8.out.set f x, hide ?_, HBT⟩
          exact (Rds.set (Rds.set HB8.out _ HA3.out) _ HA3.out).more (by simp [World.setCell])
    · have hall : ns.take k = ns := List.take_of_length_le (by have := HNN.out; omega)
      have hB := HB.out.imp0 (P' := fun x => ∃ s ∈ l, s.n = x) fun x hx0 ⟨s, hs, e⟩ => by rw [hall, ← e]; exact HNS.out.sup s hs (by omega)
      obtain ⟨P, hP⟩ : ∃ P : Nat, (P : Int) = p := ⟨p.toNat, by have := HB.out.p0; omega⟩
      obtain ⟨Q, hQ⟩ : ∃ Q : Nat, (Q : Int) = q := ⟨q.toNat, by have := HB.out.q1; omega⟩
      have hQ1 : 1 ≤ Q := by have := HB.out.q1; omega
      have hP2 : P ≤ 67108864 := by have := HB.out.pw; omega
      have hQ2 : Q ≤ 1048576 := by have := HB.out.qm; omega
      subst hP hQ
      have HBF := hide hB
      have b0 := hF.b0
      have b1 := hF.b1
      have zs := hF.size
      have z3 : w.heap.size + 1 + 1 + 1 < wr.heap.size := by omega
      have HF := hide hF
      clear hall hB hF HRN HB
      go_upto_region 12 with fail
      go_quiet (fail)
      go_wp2_with fail
      have hF2 : FindAt w (wr.drewN nq) A n c width P Q := HF.out.on (below_drewN (Below.refl _ _) _)
      clear z3 b0 b1
      generalize wr.drewN nq = wq at hF2 ⊢
      have HF2 := hide hF2
      clear hF2
      go_loopg [11, 12] Q (fun gl s11 s12 wr2 => ∃ a b : Nat, s11 = .int .i64 a ∧ s12 = .int .i64 b ∧ b ≤ gl ∧ a ≤ 67108864 ∧ b ≤ 67108864 ∧ Hid (Nat.gcd a b = Nat.gcd P Q) ∧ Hid (FindAt w wr2 A n c width P Q))
      case atStart => exact ⟨P, Q, rfl, rfl, Nat.le_refl _, hP2, by omega, hide rfl, HF2⟩
      case round =>
        obtain ⟨a, b, rfl, rfl, hgl, ha, hb, HG, HFr⟩ := hrel
        by_cases hb0 : b = 0
        · subst hb0
          have HA := hide (show a = Nat.gcd P Q by have := HG.out; rwa [Nat.gcd_zero_right] at this)
          have hG0 : 0 < Nat.gcd P Q := Nat.gcd_pos_of_pos_right _ hQ1
          have ha0 : ¬ (a : Int) = 0 := by have := HA.out; omega
          have e1 : (P : Int).tdiv (a : Int) = ((P / a : Nat) : Int) := by rw [Int.tdiv_eq_ediv_of_nonneg (by omega)]; exact (Int.natCast_ediv P a).symm
          have e2 : (Q : Int).tdiv (a : Int) = ((Q / a : Nat) : Int) := by rw [Int.tdiv_eq_ediv_of_nonneg (by omega)]; exact (Int.natCast_ediv Q a).symm
          have HLOW := hide (show Low l width ((P / a : Nat) : Int) ((Q / a : Nat) : Int) from by
            have d1 : a ∣ P := by rw [HA.out]; exact Nat.gcd_dvd_left _ _
            have d2 : a ∣ Q := by rw [HA.out]; exact Nat.gcd_dvd_right _ _
            have hbf := HBF.out
            rw [show (P : Int) = ((P / a : Nat) : Int) * (a : Int) by rw [← Int.natCast_mul, Nat.div_mul_cancel d1], show (Q : Int) = ((Q / a : Nat) : Int) * (a : Int) by rw [← Int.natCast_mul, Nat.div_mul_cancel d2]] at hbf
            exact Low.of (fun s hs => (HNM.out s hs).1) (by omega) hbf (Int.ofNat_le.2 (Nat.div_pos (Nat.le_of_dvd hQ1 d2) (by omega : 0 < a))) (Int.natCast_nonneg _)
              (by rw [HA.out]; exact Nat.coprime_div_gcd_div_gcd hG0))
          obtain ⟨p', hp'⟩ : ∃ p' : Int, p' = ((P / a : Nat) : Int) := ⟨_, rfl⟩
          obtain ⟨q', hq'⟩ : ∃ q' : Int, q' = ((Q / a : Nat) : Int) := ⟨_, rfl⟩
          rw [← hp'] at HLOW e1
          rw [← hq'] at HLOW e2
          have p0 := HLOW.out.p0
          have pw := HLOW.out.pw
          have q1 := HLOW.out.q1
          have qm := HLOW.out.qm
          have i1 : IntKind.i64.wrap p' = p' := IntWalk.i64_in _ (by omega)
          have i2 : IntKind.i64.wrap q' = q' := IntWalk.i64_in _ (by omega)
          have b0 := HFr.out.b0
          have b1 := HFr.out.b1
          have r0 := HFr.out.r0
          have r1 := HFr.out.r1
          have fr0 := HFr.out.fr0
          have fr1 := HFr.out.fr1
          have hbl := hide (HFr.out.below)
          clear hp' hq' HG HFr HF2 HF HBF
          go_wp2_with fail
          go_region
          go_wp2_with fail
          try simp only [Exit.inBlock, Exit.then]
          have x0 := World.cell?_setCell_same wr ⟨w.heap.size + 1 + 1, 0, none⟩ (.int .i64 p') r0
          have x1 : ((wr.setCell ⟨w.heap.size + 1 + 1, 0, none⟩ (.int .i64 p')).setCell ⟨w.heap.size + 1 + 1, 1, none⟩ (.int .i64 q')).cell? ⟨w.heap.size + 1 + 1, 1, none⟩ = some (.int .i64 q') :=
            World.cell?_setCell_same _ _ _ (u := .int .i64 0) (by rw [World.cell?_setCell_other _ _ _ _ (by intro e; injection e with _ e; omega)]; exact r1)
          refine bodyPost_ret (v := .agg #[.int .i64 p', .int .i64 q']) (by simp [results, Try.results44, go_sem, x0, x1]) rfl ?_
          exact ⟨p', q', rfl, HLOW.out, ((hbl.out.setCell (by simp; omega) _).setCell (by simp; omega) _).drew⟩
        · have hbn : ((b : Int) != 0) = true := by simpa using hb0
          have hb0' : ¬ (b : Int) = 0 := by omega
          have hlt2 : a % b < b := Nat.mod_lt _ (by omega)
          have e1 : (a : Int).tmod (b : Int) = ((a % b : Nat) : Int) := by rw [Int.tmod_eq_emod_of_nonneg (by omega)]; exact (Int.natCast_emod a b).symm
          have e2 : IntKind.i64.wrap ((a % b : Nat) : Int) = ((a % b : Nat) : Int) := IntWalk.i64_in _ (by omega)
          have HG2 := hide (show Nat.gcd b (a % b) = Nat.gcd P Q by rw [← HG.out, Nat.gcd_comm b, ← Nat.gcd_rec, Nat.gcd_comm])
          obtain ⟨r, hr⟩ : ∃ r, r = a % b := ⟨_, rfl⟩
          rw [← hr] at hlt2 e1 e2 HG2
          clear hr HG
          go_wp2_with fail
          go_quiet (fail)
          go_wp2_with fail
          go_roundg (b - 1)
          case measure => omega
          case rel => exact ⟨b, r, rfl, rfl, by omega, by omega, by omega, HG2, hide (HFr.out.on (below_drewN (Below.refl _ _) _))⟩

end Go.Proofs.Ytajkmlejklgbbaa
