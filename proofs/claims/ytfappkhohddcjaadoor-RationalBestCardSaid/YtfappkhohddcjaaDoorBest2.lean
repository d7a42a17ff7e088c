/- The reference's Best returns the nearest fraction. -/
import Derived.Test.YtfappkhohddcjaaDoorBest1
namespace Go.Proofs.YtfappkhohddcjaaDoor
open Go.RowKit

theorem fl_dist {n d m f : Int} (hd : 0 < d) (hf : f = n * m / d) : dist n d f m ≤ d ∧ dist n d (f + 1) m ≤ d := by
  have hem := Int.mul_ediv_add_emod (n * m) d
  have hm0 := Int.emod_nonneg (n * m) (show d ≠ 0 by omega)
  have hml := Int.emod_lt_of_pos (n * m) hd
  rw [← hf] at hem
  have e : d * f = f * d := Int.mul_comm _ _
  have e2 : (f + 1) * d = f * d + d := by rw [Int.add_mul, Int.one_mul]
  unfold dist
  omega

theorem near_hyps {n d ad bd an bn : Int} (h1 : Fq n d) (ha : 1 ≤ ad ∧ ad ≤ 60) (hb : 1 ≤ bd ∧ bd ≤ 60) (da : dist n d an ad ≤ d) (db : dist n d bn bd ≤ d) :
    i61 (n * ad) ∧ i61 (an * d) ∧ i61 (n * bd) ∧ i61 (bn * d) ∧ i61 (dist n d an ad * bd) ∧ i61 (dist n d bn bd * ad) := by
  obtain ⟨a1, a2, a3, a4⟩ := h1
  have k1 := natmul_bnd (a := n) (q := ad) a1 a2 (by omega) ha.2
  have k2 := natmul_bnd (a := n) (q := bd) a1 a2 (by omega) hb.2
  have k3 := natmul_bnd (a := dist n d an ad) (q := bd) (by have := dist_nonneg n d an ad; omega) (by omega) (by omega) hb.2
  have k4 := natmul_bnd (a := dist n d bn bd) (q := ad) (by have := dist_nonneg n d bn bd; omega) (by omega) (by omega) ha.2
  have k5 : -65498251264 ≤ an * d ∧ an * d ≤ 65498251264 := by unfold dist at da; omega
  have k6 : -65498251264 ≤ bn * d ∧ bn * d ≤ 65498251264 := by unfold dist at db; omega
  unfold i61
  omega

/-- the search's state behind the denominators up to m -/
def Found (n d : Int) (m : Nat) (bp bq : Int) : Prop := (m = 0 ∧ bp = n / d ∧ bq = 1) ∨ (1 ≤ m ∧ Nearest n d m bp bq)
structure Bd (n d bp bq : Int) : Prop where
  lo : 1 ≤ bq
  hi : bq ≤ 60
  dle : dist n d bp bq ≤ d

/-- the step in a denominator: j candidates have been looked at -/
def Mid (n d : Int) (m : Nat) (f : Int) (j : Nat) (bp bq cp cq : Int) : Prop :=
  (j = 0 ∧ cp = bp ∧ cq = bq) ∨
  (j = 1 ∧ ((nearB n d f (m + 1) bp bq ∧ cp = f ∧ cq = m + 1) ∨ (¬ nearB n d f (m + 1) bp bq ∧ cp = bp ∧ cq = bq))) ∨
  (j = 2 ∧ Found n d (m + 1) cp cq)

theorem Found.step {n d : Int} {m : Nat} {f bp bq p1 q1 p2 q2 : Int} (hd : 0 < d) (hf : f = n * (m + 1) / d) (h : Found n d m bp bq)
    (h1 : (nearB n d f (m + 1) bp bq ∧ p1 = f ∧ q1 = m + 1) ∨ (¬ nearB n d f (m + 1) bp bq ∧ p1 = bp ∧ q1 = bq))
    (h2 : (nearB n d (f + 1) (m + 1) p1 q1 ∧ p2 = f + 1 ∧ q2 = m + 1) ∨ (¬ nearB n d (f + 1) (m + 1) p1 q1 ∧ p2 = p1 ∧ q2 = q1)) : Found n d (m + 1) p2 q2 := by
  refine .inr ⟨by omega, ?_⟩
  rw [show (((m + 1 : Nat) : Int)) = (m : Int) + 1 by omega]
  rcases h with ⟨rfl, rfl, rfl⟩ | ⟨hm, h⟩
  · have hf' : f = n / d := by rw [hf]; simp
    subst hf'
    simp only [Int.cast_ofNat_Int, Int.zero_add] at *
    have e1 : p1 = n / d ∧ q1 = 1 := by omega
    obtain ⟨rfl, rfl⟩ := e1
    unfold nearB at h2
    simp only [Int.mul_one] at h2
    have hq2 : q2 = 1 := by omega
    subst hq2
    exact near_first hd rfl (by omega)
  · unfold nearB at h1 h2
    exact near_step hd hf (by omega) h h1 h2

theorem Mid.next {n d : Int} {m j : Nat} {f bp bq cp cq kk D : Int} (hd : 0 < d) (hf : f = n * D / d) (hD : D = m + 1) (hk : kk = f + j) (hj : j < 2) (h0 : Found n d m bp bq) (h : Mid n d m f j bp bq cp cq) :
    (nearB n d kk D cp cq → Mid n d m f (j + 1) bp bq kk D) ∧ (¬ nearB n d kk D cp cq → Mid n d m f (j + 1) bp bq cp cq) := by
  subst hD
  rcases h with ⟨rfl, rfl, rfl⟩ | ⟨rfl, h⟩ | ⟨rfl, _⟩
  · have e : kk = f := by omega
    subst e
    exact ⟨fun hn => .inr (.inl ⟨rfl, .inl ⟨hn, rfl, rfl⟩⟩), fun hn => .inr (.inl ⟨rfl, .inr ⟨hn, rfl, rfl⟩⟩)⟩
  · have e : kk = f + 1 := by omega
    subst e
    exact ⟨fun hn => .inr (.inr ⟨rfl, Found.step hd hf h0 h (.inl ⟨hn, rfl, rfl⟩)⟩), fun hn => .inr (.inr ⟨rfl, Found.step hd hf h0 h (.inr ⟨hn, rfl, rfl⟩)⟩)⟩
  · omega

structure R3 (w0 : World) (k y : Nat) (n d bp bq : Int) (w' : World) : Prop where
  tx : Two w' k n d
  tr : Two w' (k + 1) 0 0
  tb : Two w' y bp bq
  hk : k = w0.heap.size
  hy : k + 2 ≤ y
  bel : Below w0.heap.size w0 w'
section
variable {w0 w1 w2 : World} {k y : Nat} {n d bp bq : Int}
theorem R3.on (h : R3 w0 k y n d bp bq w1) (hb : Below w1.heap.size w1 w2) : R3 w0 k y n d bp bq w2 :=
  ⟨h.tx.on hb h.tx.lt, h.tr.on hb h.tr.lt, h.tb.on hb h.tb.lt, h.hk, h.hy, on_tr h.bel hb⟩
theorem R3.set (h : R3 w0 k y n d bp bq w1) (a b : Int) : R3 w0 k y n d a b ((w1.setCell ⟨y, 0, none⟩ (.int .i64 a)).setCell ⟨y, 1, none⟩ (.int .i64 b)) := by
  have l1 := h.hy
  have l2 := h.hk
  exact ⟨(h.tx.setOther _ _ (by omega) _).setOther _ _ (by omega) _, (h.tr.setOther _ _ (by omega) _).setOther _ _ (by omega) _, h.tb.set a b, h.hk, h.hy,
    (h.bel.setCell (by show w0.heap.size ≤ y; omega) _).setCell (by show w0.heap.size ≤ y; omega) _⟩
end

set_option maxRecDepth 100000 in
set_option maxHeartbeats 8000000 in
theorem RBest_any (n d : Int) (most : Nat) (p q : Int) (w : World) (h1 : Fq n d) (hm1 : 1 ≤ most) (hm : most ≤ 60) (HN : Nearest n d most p q) :
    Calls Tryd.prog 24 #[.agg #[.int .i64 n, .int .i64 d], .int .i64 most] w fun e w' => e = .returned (.agg #[.int .i64 (ofF p q).n, .int .i64 (ofF p q).d]) ∧ Below w.heap.size w w' := by
  have H1 := hide h1
  have HN' := hide HN
  obtain ⟨a1, a2, a3, a4⟩ := h1
  clear HN
  have HF0 := hide (fun W => RFloor_any n d W ⟨by omega, by omega⟩ (by omega) (by omega))
  have HD0 := hide (show Bd n d (n / d) 1 from ⟨by omega, by omega, by have := (fl_dist (n := n) (d := d) (m := 1) (f := n / d) (by omega) (by rw [Int.mul_one])).1; exact this⟩)
  obtain ⟨f0, hf0⟩ : ∃ f, f = n / d := ⟨_, rfl⟩
  rw [← hf0] at HF0 HD0
  have HFD := hide (show Found n d 0 f0 1 from .inl ⟨rfl, hf0, rfl⟩)
  have HS := hide (show Two ((w.alloc (.cells #[.int .i64 n, .int .i64 d] 26)).alloc (.cells #[.int .i64 0, .int .i64 0] 26)) w.heap.size n d ∧ Two ((w.alloc (.cells #[.int .i64 n, .int .i64 d] 26)).alloc (.cells #[.int .i64 0, .int .i64 0] 26)) (w.heap.size + 1) 0 0 ∧ Below w.heap.size w ((w.alloc (.cells #[.int .i64 n, .int .i64 d] 26)).alloc (.cells #[.int .i64 0, .int .i64 0] 26)) from
    ⟨(Two.new w n d _).on ((Below.refl _ _).alloc (Nat.le_refl _) _) (by simp), by have := Two.new (w.alloc (.cells #[.int .i64 n, .int .i64 d] 26)) 0 0 26; simpa using this, ((Below.refl _ _).alloc (Nat.le_refl _) _).alloc (by simp) _⟩)
  clear hf0
  go_enter Tryd.func24, Tryd.ntmps24
  go_wp2_with fail
  generalize (w.alloc (.cells #[.int .i64 n, .int .i64 d] 26)).alloc (.cells #[.int .i64 0, .int .i64 0] 26) = wX at HS ⊢
  have x0 := HS.out.1.c0
  have x1 := HS.out.1.c1
  go_wp2_with fail
  refine (HF0.out _).mono ?_
  rintro e w1 ⟨rfl, hb⟩
  have HX1 := hide (HS.out.1.on hb HS.out.1.lt)
  have HY1 := hide (HS.out.2.1.on hb HS.out.2.1.lt)
  have HB1 := hide (on_tr HS.out.2.2 hb)
  clear hb x0 x1 HS
  go_wp2_with fail
  obtain ⟨y, hy⟩ : ∃ y, y = w1.heap.size := ⟨_, rfl⟩
  have HR := hide (show R3 w w.heap.size y n d f0 1 (w1.alloc (.cells #[.int .i64 f0, .int .i64 1] 26)) from
    ⟨HX1.out.on ((Below.refl _ _).alloc (Nat.le_refl _) _) HX1.out.lt, HY1.out.on ((Below.refl _ _).alloc (Nat.le_refl _) _) HY1.out.lt, by rw [hy]; exact Two.new w1 f0 1 _, rfl, by have := HY1.out.lt; omega, HB1.out.alloc HB1.out.size _⟩)
  generalize w1.alloc (.cells #[.int .i64 f0, .int .i64 1] 26) = wV at HR ⊢
  rw [← hy]
  clear hy HX1 HY1 HB1
  go_loopg [6] (most + 1) (fun gl s6 wr => ∃ m : Nat, ∃ bp bq D : Int, s6 = .int .i64 D ∧ D ≤ m + 1 ∧ m + 1 ≤ D ∧ m ≤ most ∧ most - m ≤ gl ∧ Hid (Found n d m bp bq) ∧ Hid (Bd n d bp bq) ∧ Hid (R3 w w.heap.size y n d bp bq wr))
  case atStart => exact ⟨0, f0, 1, 1, rfl, by omega, by omega, by omega, by omega, HFD, HD0, HR⟩
  case round =>
    obtain ⟨m, bp, bq, D, rfl, hD1, hD2, hmm, hgl, HFm, HBm, HRm⟩ := hrel
    have x0 := HRm.out.tx.c0
    have x1 := HRm.out.tx.c1
    by_cases hlt : D ≤ (most : Int)
    · have nb := natmul_bnd (a := n) (q := D) (by omega) (by omega) (by omega) (by omega)
      have i1 : IntKind.i64.wrap (n * D) = n * D := IntWalk.i64_in _ (by omega)
      have HF := hide (fun W => RFloor_any (n * D) d W ⟨by omega, by omega⟩ (by omega) (by omega))
      obtain ⟨f, hf⟩ : ∃ f, f = n * D / d := ⟨_, rfl⟩
      rw [← hf] at HF
      have HFD1 := hide (fl_dist (n := n) (d := d) (m := D) (f := f) (by omega) hf)
      have hfb := floor_bnd (a := n * D) (b := d) ⟨by omega, by omega⟩ (by omega)
      rw [← hf] at hfb
      have HFE := hide hf
      clear hf nb
      go_wp2_with fail
      refine (HF.out _).mono ?_
      rintro e w2 ⟨rfl, hb⟩
      have HR2 := hide (HRm.out.on hb)
      clear hb x0 x1
      go_wp2_with fail
      obtain ⟨gm, rfl⟩ : ∃ gm : Nat, gm = gk := ⟨_, rfl⟩
      obtain ⟨wo, rfl⟩ : ∃ wo : World, wo = wr := ⟨_, rfl⟩
      go_loopg [8] (3) (fun gl s8 wr => ∃ j : Nat, ∃ cp cq kk : Int, s8 = .int .i64 kk ∧ kk ≤ f + j ∧ f + j ≤ kk ∧ j ≤ 2 ∧ 2 - j ≤ gl ∧ Hid (Mid n d m f j bp bq cp cq) ∧ Hid (Bd n d cp cq) ∧ Hid (R3 w w.heap.size y n d cp cq wr))
      case atStart => exact ⟨0, bp, bq, f, rfl, by omega, by omega, by omega, by omega, hide (.inl ⟨rfl, rfl, rfl⟩), HBm, HR2⟩
      case round =>
        obtain ⟨j, cp, cq, kk, rfl, hk1, hk2, hj2, hgj, HM, HBc, HRc⟩ := hrel
        have g1 : IntKind.i64.wrap (f + 1) = f + 1 := IntWalk.i64_in _ (by omega)
        have g2 : IntKind.i64.wrap (kk + 1) = kk + 1 := IntWalk.i64_in _ (by omega)
        by_cases hj : j < 2
        · have hkf : kk ≤ f + 1 := by omega
          have y0 := HRc.out.tx.c0
          have y1 := HRc.out.tx.c1
          have y2 := HRc.out.tb.c0
          have y3 := HRc.out.tb.c1
          have HMN := hide (Mid.next (kk := kk) (D := D) (by omega) HFE.out (by omega) (by omega) hj HFm.out HM.out)
          have HBk := hide (show Bd n d kk D from ⟨by omega, by omega, by
            rcases (show kk = f ∨ kk = f + 1 by omega) with e | e <;> rw [e]
            · exact HFD1.out.1
            · exact HFD1.out.2⟩)
          have HH := hide (near_hyps (an := kk) (bn := cp) H1.out ⟨HBk.out.lo, HBk.out.hi⟩ ⟨HBc.out.lo, HBc.out.hi⟩ HBk.out.dle HBc.out.dle)
          have HQ := hide (show 2 - (j + 1) ≤ gk - 1 ∧ gk - 1 < gk ∧ kk + 1 ≤ f + ((j + 1 : Nat) : Int) ∧ f + ((j + 1 : Nat) : Int) ≤ kk + 1 by omega)
          by_cases hn : nearB n d kk D cp cq
          · have HNR := hide (fun W => near_any n d kk D cp cq W true (by simp [hn]) HH.out.1 HH.out.2.1 HH.out.2.2.1 HH.out.2.2.2.1 HH.out.2.2.2.2.1 HH.out.2.2.2.2.2)
            have HM' := hide (HMN.out.1 hn)
            clear hn
            go_wp2_with fail
            refine (HNR.out _).mono ?_
            rintro e w3 ⟨rfl, hb⟩
            have HR3 := hide (HRc.out.on hb)
            clear hb y0 y1 y2 y3
            have r0 := HR3.out.tb.c0
            have r1 := HR3.out.tb.c1
            have r2 := HR3.out.tb.f0
            have r3 := HR3.out.tb.f1
            have HR4 := hide (HR3.out.set kk D)
            go_wp2_with fail
            go_roundg (gk - 1)
            case measure => exact HQ.out.2.1
            case rel => exact ⟨j + 1, kk, D, kk + 1, rfl, HQ.out.2.2.1, HQ.out.2.2.2, by omega, HQ.out.1, HM', HBk, HR4⟩
          · have HNR := hide (fun W => near_any n d kk D cp cq W false (by simp [hn]) HH.out.1 HH.out.2.1 HH.out.2.2.1 HH.out.2.2.2.1 HH.out.2.2.2.2.1 HH.out.2.2.2.2.2)
            have HM' := hide (HMN.out.2 hn)
            clear hn
            go_wp2_with fail
            refine (HNR.out _).mono ?_
            rintro e w3 ⟨rfl, hb⟩
            have HR3 := hide (HRc.out.on hb)
            clear hb y0 y1 y2 y3
            go_wp2_with fail
            go_roundg (gk - 1)
            case measure => exact HQ.out.2.1
            case rel => exact ⟨j + 1, cp, cq, kk + 1, rfl, HQ.out.2.2.1, HQ.out.2.2.2, by omega, HQ.out.1, HM', HBc, HR3⟩
        · have hkf : ¬ kk ≤ f + 1 := by omega
          have g3 : IntKind.i64.wrap (D + 1) = D + 1 := IntWalk.i64_in _ (by omega)
          have HFN := hide (show Found n d (m + 1) cp cq by
            rcases HM.out with ⟨h, _⟩ | ⟨h, _⟩ | ⟨_, h⟩
            · omega
            · omega
            · exact h)
          have HQ := hide (show gm - 1 < gm ∧ D + 1 ≤ ((m + 1 : Nat) : Int) + 1 ∧ ((m + 1 : Nat) : Int) + 1 ≤ D + 1 ∧ m + 1 ≤ most ∧ most - (m + 1) ≤ gm - 1 by omega)
          go_wp2_with fail
          go_roundg (gm - 1)
          case measure => exact HQ.out.1
          case rel => exact ⟨m + 1, cp, cq, D + 1, rfl, HQ.out.2.1, HQ.out.2.2.1, HQ.out.2.2.2.1, HQ.out.2.2.2.2, HFN, HBc, HRc⟩
    · have hme : m = most := by omega
      have HNr : Nearest n d most bp bq := by
        rcases HFm.out with ⟨h, _⟩ | ⟨_, h⟩
        · omega
        · rw [← hme]; exact h
      obtain ⟨e1, e2⟩ := HN'.out.unique HNr
      have HE1 := hide e1
      have HE2 := hide e2
      have y2 := HRm.out.tb.c0
      have y3 := HRm.out.tb.c1
      have hb1 := HBm.out.lo
      have hb2 := HBm.out.hi
      have hb3 := HBm.out.dle
      have nb := natmul_bnd (a := n) (q := bq) (by omega) (by omega) (by omega) hb2
      have k6 : -65498251264 ≤ bp * d ∧ bp * d ≤ 65498251264 := by unfold dist at hb3; omega
      have k7 := le_mul_pos (p := bp) (d := d) (by omega) k6.1 k6.2
      have HO := hide (fun W => ROf_any bp bq W ⟨by omega, by omega⟩ ⟨by omega, by omega⟩)
      obtain ⟨F, hF⟩ : ∃ F, F = ofF bp bq := ⟨_, rfl⟩
      have HFF := hide hF
      rw [← hF] at HO
      clear hF e1 e2 HNr nb k6 k7 hb1 hb2 hb3 hme
      go_wp2_with fail
      refine (HO.out _).mono ?_
      rintro e w3 ⟨rfl, hb⟩
      have HR3 := hide (HRm.out.on hb)
      clear hb y2 y3 x0 x1
      have HR4 := hide (HR3.out.on ((Below.refl w3.heap.size w3).alloc (Nat.le_refl _) (.cells #[.int .i64 F.n, .int .i64 F.d] 26)))
      have r0 := HR4.out.tr.c0
      have r1 := HR4.out.tr.c1
      have r2 := HR4.out.tr.f0
      have r3 := HR4.out.tr.f1
      have d0 := (HR4.out.tr.set F.n F.d).c0
      have d1 := (HR4.out.tr.set F.n F.d).c1
      go_wp2_with fail
      refine bodyPost_ret (v := .agg #[.int .i64 F.n, .int .i64 F.d]) (by simp [results, Tryd.results24, go_sem, *]) rfl ?_
      exact ⟨by rw [HFF.out, HE1.out, HE2.out], (HR4.out.bel.setCell (by simp) _).setCell (by simp) _⟩

end Go.Proofs.YtfappkhohddcjaaDoor
