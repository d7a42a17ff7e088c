/- slices.MinFunc at compare; spring.fits. -/
import Derived.Test.YtajkmlejklgbbaaSpSearch
import Derived.Test.YtajkmlejklgbbaaSpTot
namespace Go.Proofs.Ytajkmlejklgbbaa
open Go.RowKit

/-- a block of two numbers -/
structure Two (wr : World) (k : Nat) (a b : Int) : Prop where
  lt : k < wr.heap.size
  c0 : wr.cell? ⟨k, 0, none⟩ = some (.int .i64 a)
  c1 : wr.cell? ⟨k, 1, none⟩ = some (.int .i64 b)
  f0 : wr.frozen? ⟨k, 0, none⟩ = false
  f1 : wr.frozen? ⟨k, 1, none⟩ = false
section
variable {wr w' : World} {k : Nat} {a b : Int}
theorem Two.on (h : Two wr k a b) (hb : Below wr.heap.size wr w') : Two w' k a b :=
  ⟨by have := hb.size; have := h.lt; omega, (hb.cell (p := ⟨_, _, none⟩) h.lt).trans h.c0, (hb.cell (p := ⟨_, _, none⟩) h.lt).trans h.c1, (hb.frozen (p := ⟨_, _, none⟩) h.lt).trans h.f0, (hb.frozen (p := ⟨_, _, none⟩) h.lt).trans h.f1⟩
theorem Two.set (h : Two wr k a b) (a' b' : Int) : Two ((wr.setCell ⟨k, 0, none⟩ (.int .i64 a')).setCell ⟨k, 1, none⟩ (.int .i64 b')) k a' b' := by
  refine ⟨by simpa [World.setCell] using h.lt, ?_, ?_, ?_, ?_⟩
  · rw [World.cell?_setCell_other _ _ _ _ (by intro e; injection e with _ e; omega)]
    exact World.cell?_setCell_same _ _ _ h.c0
  · exact World.cell?_setCell_same _ _ _ (u := .int .i64 b) (by rw [World.cell?_setCell_other _ _ _ _ (by intro e; injection e with _ e; omega)]; exact h.c1)
  · simpa using h.f0
  · simpa using h.f1
theorem Two.far (h : Two wr k a b) {j i : Nat} (hj : j ≠ k) (v : Value) : Two (wr.setCell ⟨j, i, none⟩ v) k a b := by
  refine ⟨by simpa [World.setCell] using h.lt, ?_, ?_, ?_, ?_⟩
  · rw [World.cell?_setCell_other _ _ _ _ (by intro e; injection e with e; omega)]; exact h.c0
  · rw [World.cell?_setCell_other _ _ _ _ (by intro e; injection e with e; omega)]; exact h.c1
  · simpa using h.f0
  · simpa using h.f1
theorem Two.new {w : World} (a b : Int) (t : TypeId) : Two (w.alloc (.cells #[.int .i64 a, .int .i64 b] t)) w.heap.size a b := by
  refine ⟨by simp, ?_, ?_, ?_, ?_⟩ <;> simp [go_sem]
end

theorem keep4 {B : Nat} {w w' : World} {p1 p2 p3 p4 : Addr} {x y z t : Value} (h : Below B w w') (a1 : p1.block < B) (a2 : p2.block < B) (a3 : p3.block < B) (a4 : p4.block < B)
    (h1 : w.cell? p1 = some x) (h2 : w.cell? p2 = some y) (h3 : w.cell? p3 = some z) (h4 : w.cell? p4 = some t) : w'.cell? p1 = some x ∧ w'.cell? p2 = some y ∧ w'.cell? p3 = some z ∧ w'.cell? p4 = some t ∧ Below B w w' :=
  ⟨(h.cell a1).trans h1, (h.cell a2).trans h2, (h.cell a3).trans h3, (h.cell a4).trans h4, h⟩

def Frc.ok (f : Int × Int) : Prop := 0 ≤ f.1 ∧ f.1 ≤ 268435456 ∧ 1 ≤ f.2 ∧ f.2 ≤ 268435456
theorem Frc.ok_of {f : Int × Int} (h : Frc.ok f) : 0 ≤ f.1 ∧ f.1 ≤ 268435456 ∧ 1 ≤ f.2 ∧ f.2 ≤ 268435456 := h

set_option maxRecDepth 100000 in
set_option maxHeartbeats 2000000 in
theorem min_any (A : Option Addr) (n c : Nat) (fs : List (Int × Int)) (w : World) (hn : n = fs.length) (hm : n ≤ 8192) (h0 : 0 < n) (h : Rds w w.heap.size A (frcs fs)) (hok : ∀ f ∈ fs, Frc.ok f) :
    Calls Try.prog 45 #[.slice A n c, Value.func (Fn.func 46) #[] #[]] w fun e w' => ∃ gn gd : Int, e = .returned (.agg #[.int .i64 gn, .int .i64 gd]) ∧
      (gn, gd) ∈ fs ∧ (∀ f ∈ fs, gn * f.2 ≤ f.1 * gd) ∧ Below w.heap.size w w' := by
  have HN := hide hn
  have HOK := hide hok
  have HR := hide h
  obtain ⟨x0, hx0⟩ : ∃ x, fs[0]? = some x := ⟨_, List.getElem?_eq_getElem (by omega)⟩
  obtain ⟨bb, off, rfl, hbB, c0, c1⟩ := h.frc hx0
  rw [Nat.zero_mul, Nat.add_zero] at c0 c1
  have HX := hide hx0
  obtain ⟨gx, gy⟩ := x0
  simp only at c0 c1
  clear hn hok h hx0
  go_enter Try.func45, Try.ntmps45
  go_wp2_with fail
  go_loopg [6] n (fun gk i wr => ∃ (k : Nat) (gn gd : Int), 1 ≤ k ∧ k ≤ n ∧ i = .int .i64 k ∧ n ≤ gk + k ∧ Hid (Below w.heap.size w wr) ∧ Hid (Two wr w.heap.size 0 0) ∧ Hid (Two wr (w.heap.size + 1) gn gd) ∧ Hid ((gn, gd) ∈ fs ∧ ∀ f ∈ fs.take k, gn * f.2 ≤ f.1 * gd))
  case atStart =>
    refine ⟨1, gx, gy, by omega, by omega, rfl, by omega, hide (by go_grown), hide ?_, hide ?_, hide ⟨List.mem_of_getElem? HX.out, fun f hf => ?_⟩⟩
    · exact (Two.new (w := w) 0 0 87).on ((Below.refl _ _).alloc (Nat.le_refl _) _)
    · have := Two.new (w := w.alloc (.cells #[.int .i64 0, .int .i64 0] 87)) gx gy 87
      simpa using this
    · have e : fs.take 1 = [(gx, gy)] := by rw [List.take_add_one, HX.out]; rfl
      rw [e] at hf
      obtain rfl := List.mem_singleton.1 hf
      exact Int.le_refl _
  case round =>
    obtain ⟨k, gn, gd, hk1, hk, rfl, hgk, HB, H1, H2, HG⟩ := hrel
    by_cases hlt : k < n
    · obtain ⟨x, hx⟩ : ∃ x, fs[k]? = some x := ⟨_, List.getElem?_eq_getElem (by have := HN.out; omega)⟩
      obtain ⟨b2, off2, e2, hb2, d0, d1⟩ := (Rds.on2 HR.out HB.out).frc hx
      simp only [Option.some.injEq, Addr.mk.injEq, and_true] at e2
      obtain ⟨rfl, rfl⟩ := e2
      obtain ⟨o0, o1, o2, o3⟩ := Frc.ok_of (HOK.out x (List.mem_of_getElem? hx))
      obtain ⟨m0, m1, m2, m3⟩ := Frc.ok_of (HOK.out _ HG.out.1)
      simp only at m0 m1 m2 m3
      have HXX := hide hx
      obtain ⟨fx, fy⟩ := x
      simp only at d0 d1 o0 o1 o2 o3
      have g0 := H2.out.c0
      have g1 := H2.out.c1
      have D0 := hide d0
      have D1 := hide d1
      have G0 := hide g0
      have G1 := hide g1
      have j1 : IntKind.i64.wrap (k : Int) = (k : Int) := IntWalk.i64_in _ (by omega)
      have j3 : ((k : Int)).toNat = k := by omega
      have j4 : (0 : Int) ≤ (k : Int) := by omega
      have j5 : (k : Int) < (n : Int) := by omega
      have z1 : w.heap.size + 1 < wr.heap.size := H2.out.lt
      have HCO := hide (fun W => compare_any fx fy gn gd W o0 o1 o2 o3 m0 m1 m2 m3)
      have htake : ∀ f, f ∈ fs.take (k + 1) → f ∈ fs.take k ∨ f = (fx, fy) := by
        intro f hf
        rw [List.take_add_one, hx, Option.toList_some] at hf
        simpa using hf
      have HTK := hide htake
      clear hx htake
      rcases (show fx * gd < gn * fy ∨ gn * fy ≤ fx * gd by omega) with hlt2 | hlt2
      · have hc : cmpF fx fy gn gd = -1 := by unfold cmpF cmpS; rw [if_pos hlt2]
        rw [hc] at HCO
        have HNEW := hide (show (fx, fy) ∈ fs ∧ ∀ f ∈ fs.take (k + 1), fx * f.2 ≤ f.1 * fy from ⟨List.mem_of_getElem? HXX.out, fun f hf => by
          rcases HTK.out f hf with hf | rfl
          · have a1 := HG.out.2 f hf
            have a2 := Frc.ok_of (HOK.out f (List.mem_of_mem_take hf))
            apply cancel_le m2
            have b1 : fx * gd * f.2 ≤ gn * fy * f.2 := Int.mul_le_mul_of_nonneg_right (by omega) (by omega)
            have b2 : gn * f.2 * fy ≤ f.1 * gd * fy := Int.mul_le_mul_of_nonneg_right a1 (by omega)
            have e1 : fx * f.2 * gd = fx * gd * f.2 := Int.mul_right_comm _ _ _
            have e2 : gn * fy * f.2 = gn * f.2 * fy := Int.mul_right_comm _ _ _
            have e3 : f.1 * fy * gd = f.1 * gd * fy := Int.mul_right_comm _ _ _
            omega
          · exact Int.le_refl _⟩)
        clear hc hlt2
        go_upto_region 7 with fail
        go_region_held3 (fun w' => w'.cell? ⟨bb, off + k * 2, none⟩ = some (.int .i64 fx) ∧ w'.cell? ⟨bb, off + k * 2 + 1, none⟩ = some (.int .i64 fy) ∧ w'.cell? ⟨w.heap.size + 1, 0, none⟩ = some (.int .i64 gn) ∧ w'.cell? ⟨w.heap.size + 1, 1, none⟩ = some (.int .i64 gd) ∧ Below wr.heap.size wr w')
          (first | (go_keep; done) | (exact keep4 (Below.drew (Below.refl _ _)) hb2 hb2 z1 z1 D0.out D1.out G0.out G1.out) | (exact keep4 (find1_tr (below5 (by assumption)) (by assumption)) hb2 hb2 z1 z1 D0.out D1.out G0.out G1.out) | (exact keep4 (Below.drew (below5 (by assumption))) hb2 hb2 z1 z1 D0.out D1.out G0.out G1.out))
          (first | (go_at_call 46; refine (HCO.out _).mono ?_; rintro e w' ⟨rfl, hb'⟩))
        have hB7 := below5 (show _ by assumption)
        have HB7 := hide (find1_tr HB.out hB7)
        have H17 := hide (H1.out.on hB7)
        have H27 := hide (H2.out.on hB7)
        have q0 := H27.out.c0
        have q1 := H27.out.c1
        have q2 := H27.out.f0
        have q3 := H27.out.f1
        have q4 := (hB7.cell (p := ⟨bb, off + k * 2, none⟩) hb2).trans D0.out
        have q5 := (hB7.cell (p := ⟨bb, off + k * 2 + 1, none⟩) hb2).trans D1.out
        clear hb' hB7
        go_wp2_with fail
        go_roundg (gk - 1)
        case measure => omega
        case rel =>
          refine ⟨k + 1, fx, fy, by omega, by omega, by go_num, by omega, hide ((HB7.out.setCell (by simp) _).setCell (by simp) _), hide ((H17.out.far (by omega) _).far (by omega) _), hide (H27.out.set fx fy), HNEW⟩
      · have hc : ∃ z, cmpF fx fy gn gd = z ∧ 0 ≤ z := ⟨_, rfl, by unfold cmpF cmpS; rw [if_neg (by omega)]; split <;> omega⟩
        obtain ⟨z, hc, hz⟩ := hc
        rw [hc] at HCO
        have HNEW := hide (show (gn, gd) ∈ fs ∧ ∀ f ∈ fs.take (k + 1), gn * f.2 ≤ f.1 * gd from ⟨HG.out.1, fun f hf => by
          rcases HTK.out f hf with hf | rfl
          · exact HG.out.2 f hf
          · exact hlt2⟩)
        clear hc hlt2
        go_upto_region 7 with fail
        go_region_held3 (fun w' => w'.cell? ⟨bb, off + k * 2, none⟩ = some (.int .i64 fx) ∧ w'.cell? ⟨bb, off + k * 2 + 1, none⟩ = some (.int .i64 fy) ∧ w'.cell? ⟨w.heap.size + 1, 0, none⟩ = some (.int .i64 gn) ∧ w'.cell? ⟨w.heap.size + 1, 1, none⟩ = some (.int .i64 gd) ∧ Below wr.heap.size wr w')
          (first | (go_keep; done) | (exact keep4 (Below.drew (Below.refl _ _)) hb2 hb2 z1 z1 D0.out D1.out G0.out G1.out) | (exact keep4 (find1_tr (below5 (by assumption)) (by assumption)) hb2 hb2 z1 z1 D0.out D1.out G0.out G1.out) | (exact keep4 (Below.drew (below5 (by assumption))) hb2 hb2 z1 z1 D0.out D1.out G0.out G1.out))
          (first | (go_at_call 46; refine (HCO.out _).mono ?_; rintro e w' ⟨rfl, hb'⟩))
        have hB7 := below5 (show _ by assumption)
        have HB7 := hide (find1_tr HB.out hB7)
        have H17 := hide (H1.out.on hB7)
        have H27 := hide (H2.out.on hB7)
        clear hb' hB7
        go_wp2_with fail
        go_roundg (gk - 1)
        case measure => omega
        case rel =>
          refine ⟨k + 1, gn, gd, by omega, by omega, by go_num, by omega, HB7, H17, H27, HNEW⟩
    · have hall : fs.take k = fs := List.take_of_length_le (by have := HN.out; omega)
      have HNEW := hide (show (gn, gd) ∈ fs ∧ ∀ f ∈ fs, gn * f.2 ≤ f.1 * gd from by have := HG.out; rwa [hall] at this)
      have q0 := H2.out.c0
      have q1 := H2.out.c1
      have r0 := H1.out.c0
      have r1 := H1.out.c1
      have r2 := H1.out.f0
      have r3 := H1.out.f1
      clear hall
      go_wp2_with fail
      try simp only [Exit.inBlock, Exit.then]
      have x0 := World.cell?_setCell_same wr ⟨w.heap.size, 0, none⟩ (.int .i64 gn) r0
      have x1 := (H1.out.set gn gd).c1
      refine bodyPost_ret (v := .agg #[.int .i64 gn, .int .i64 gd]) (by simp [results, Try.results45, go_sem, x0, x1]) rfl ?_
      exact ⟨gn, gd, rfl, HNEW.out.1, HNEW.out.2, (HB.out.setCell (by simp) _).setCell (by simp) _⟩

set_option maxHeartbeats 1000000 in
theorem spfits_any (A : Option Addr) (n c : Nat) (l : List Spr) (width : Int) (w : World) (hn : n = l.length) (hm : n ≤ 9223372036854775807) (h : Rds w w.heap.size A (sprs l)) :
    Calls Try.prog 41 #[.slice A n c, .int .i64 width] w fun e w' => e = .returned (.int .i64 (if spErr l ≠ 0 then spErr l else if width < 0 ∨ 67108864 < width then 2 else if width < mins l then 28 else 0)) ∧ Below w.heap.size w w' := by
  have HN := hide hn
  have HR := hide h
  obtain ⟨r, hr⟩ : ∃ r, r = (if spErr l ≠ 0 then spErr l else if width < 0 ∨ 67108864 < width then 2 else if width < mins l then 28 else 0) := ⟨_, rfl⟩
  rw [← hr]
  by_cases he : spErr l = 0
  · obtain ⟨hl, hok⟩ := spErr_all l he
    have HOK := hide hok
    have HE := hide he
    have hn2 : n ≤ 8192 := by omega
    rw [if_neg (by simpa using he)] at hr
    obtain ⟨M, hM⟩ : ∃ M, M = mins l := ⟨_, rfl⟩
    rw [← hM] at hr
    have HM := hide hM
    clear hn h he hl hok hM
    rcases (show width < 0 ∨ (0 ≤ width ∧ 67108864 < width) ∨ (0 ≤ width ∧ width ≤ 67108864 ∧ width < M) ∨ (0 ≤ width ∧ width ≤ 67108864 ∧ M ≤ width) by omega) with h1 | ⟨h1, h2⟩ | ⟨h1, h2, h3⟩ | ⟨h1, h2, h3⟩
    · have HR2 := hide (show r = 2 by rw [hr, if_pos (.inl h1)])
      clear hr
      go_enter Try.func41, Try.ntmps41
      go_wp2_with fail
      refine (spCheck_any A n c l _ HN.out hm HR.out).mono ?_
      rw [HE.out]
      rintro e w1 ⟨rfl, hb1⟩
      go_wp2_with fail
      go_ret
      exact ⟨ret_int HR2.out.symm, hb1⟩
    · have HR2 := hide (show r = 2 by rw [hr, if_pos (.inr h2)])
      clear hr
      go_enter Try.func41, Try.ntmps41
      go_wp2_with fail
      refine (spCheck_any A n c l _ HN.out hm HR.out).mono ?_
      rw [HE.out]
      rintro e w1 ⟨rfl, hb1⟩
      go_wp2_with fail
      go_ret
      exact ⟨ret_int HR2.out.symm, hb1⟩
    · have HR2 := hide (show r = 28 by rw [hr, if_neg (by omega), if_pos h3])
      clear hr
      go_enter Try.func41, Try.ntmps41
      go_wp2_with fail
      refine (spCheck_any A n c l _ HN.out hm HR.out).mono ?_
      rw [HE.out]
      rintro e w1 ⟨rfl, hb1⟩
      go_wp2_with fail
      refine (minimal_any A n c l _ HN.out hn2 (Rds.on2 HR.out hb1) HOK.out).mono ?_
      rw [← HM.out]
      rintro e w2 ⟨rfl, hb2⟩
      have hb3 := find1_tr hb1 hb2
      clear hb1 hb2
      go_wp2_with fail
      go_ret
      exact ⟨ret_int HR2.out.symm, hb3⟩
    · have HR2 := hide (show r = 0 by rw [hr, if_neg (by omega), if_neg (by omega)])
      clear hr
      have h4 : ¬ width < M := by omega
      go_enter Try.func41, Try.ntmps41
      go_wp2_with fail
      refine (spCheck_any A n c l _ HN.out hm HR.out).mono ?_
      rw [HE.out]
      rintro e w1 ⟨rfl, hb1⟩
      go_wp2_with fail
      refine (minimal_any A n c l _ HN.out hn2 (Rds.on2 HR.out hb1) HOK.out).mono ?_
      rw [← HM.out]
      rintro e w2 ⟨rfl, hb2⟩
      have hb3 := find1_tr hb1 hb2
      clear hb1 hb2
      go_wp2_with fail
      go_ret
      exact ⟨ret_int HR2.out.symm, hb3⟩
  · have he2 : (spErr l != 0) = true := by simpa using he
    have HR2 := hide (show r = spErr l by rw [hr, if_pos he])
    clear hn h he hr
    go_enter Try.func41, Try.ntmps41
    go_wp2_with fail
    refine (spCheck_any A n c l _ HN.out hm HR.out).mono ?_
    rintro e w1 ⟨rfl, hb1⟩
    go_wp2_with fail
    go_ret
    exact ⟨ret_int HR2.out.symm, hb1⟩

end Go.Proofs.Ytajkmlejklgbbaa
