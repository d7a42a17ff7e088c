/- The law SpacingLong, walked. -/
import Derived.Test.YtajkmlejklgbbaaKnown
import Derived.Test.YtajkmlejklgbbaaJoinW
import Derived.Laws.MakeOwn
namespace Go.Proofs.Ytajkmlejklgbbaa
open Go.RowKit

def zc (m : Nat) : Array Value := madeCells #[.int .i64 0, .int .i64 0, .int .i64 0] (m * 3)
def z0 : Col := ⟨0, 0, 0⟩
theorem zc_cols (m : Nat) : (zc m).toList = cols (List.replicate m z0) := by
  have e1 : (zc m).toList = List.replicate (m * 3) (.int .i64 0) := by
    rw [List.eq_replicate_iff]
    refine ⟨by simp [zc, size_madeCells], fun v hv => ?_⟩
    simp only [zc, madeCells, Array.toList_map, List.mem_map] at hv
    obtain ⟨j, _, rfl⟩ := hv
    have : j % 3 < 3 := Nat.mod_lt _ (by omega)
    show (#[Value.int .i64 0, .int .i64 0, .int .i64 0])[j % 3]! = _
    rcases (show j % 3 = 0 ∨ j % 3 = 1 ∨ j % 3 = 2 by omega) with h | h | h <;> rw [h] <;> rfl
  have e2 : cols (List.replicate m z0) = List.replicate (m * 3) (.int .i64 0) := by
    rw [List.eq_replicate_iff]
    refine ⟨by rw [cols_length, List.length_replicate], fun v hv => ?_⟩
    simp only [cols, List.mem_flatMap, List.mem_replicate] at hv
    obtain ⟨a, ⟨_, rfl⟩, ha⟩ := hv
    simp only [Col.cells, z0, List.mem_cons, List.not_mem_nil, or_false] at ha
    rcases ha with rfl | rfl | rfl <;> rfl
  rw [e1, e2]
theorem zc_size (m : Nat) : (zc m).size = m * 3 := by simp [zc, size_madeCells]
theorem run_make_cols (x : Int) (m : Nat) (h : x = m) (hm : m ≤ 10000) (W : World) :
    (Instr.makeSlice 29 (.int .i64 x) (.int .i64 x)).run Try.prog W = .ok (.slice (some ⟨W.heap.size, 0, none⟩) m m) (W.alloc (.cells (zc m) 41)) := by
  subst h
  obtain ⟨i, hi, hz, h1, h2⟩ := info_parts (P := Try.prog) (e := 41) (z := .agg #[.int .i64 0, .int .i64 0, .int .i64 0]) (size := 3) (bytes := 24) (by kernel_rfl)
  have hr := run_make (P := Try.prog) W 29 41 i _ Try.underlying29 hi hz .i64 .i64 m m (by omega) (Int.le_refl _) (by rw [h2]; omega) (by omega)
  simp only [Int.toNat_natCast, h1] at hr
  exact hr
theorem colErr_zero (m : Nat) (h : m ≤ 4096) : colErr (List.replicate m z0) = 0 := by
  unfold colErr
  rw [if_neg (by rw [List.length_replicate]; omega), if_pos]
  intro c hc
  rw [List.mem_replicate] at hc
  rw [hc.2]
  decide
theorem joinL_two (a b : Sl Col) (h : a.l ≠ []) : (joinL z0 [a, b]).length = a.l.length + b.l.length := by
  simp only [joinL, List.flatMap_cons, List.flatMap_nil, List.append_nil, List.length_cons, List.length_drop, List.length_append]
  have : 0 < a.l.length := List.length_pos_iff.2 h
  omega
theorem colErr_z0 : colErr [z0] = 0 := by decide

/-- Join of k columns and q -/
theorem join_long (b1 b2 o : Nat) (k m q : Nat) (w : World) (hk1 : 1 ≤ k) (hk2 : k ≤ 10) (hq : q ≤ 4096) (hq1 : 1 ≤ q) (hm1 : q ≤ m) (hm2 : m ≤ 4103)
    (h1 : Rds w w.heap.size (some ⟨b1, 0, none⟩) (cols (List.replicate k z0))) (h2 : Rds w w.heap.size (some ⟨b2, 0, none⟩) (cols (List.replicate m z0)))
    (h : Rds w w.heap.size (some ⟨o, 0, none⟩) [.slice (some ⟨b1, 0, none⟩) k k, .slice (some ⟨b2, 0, none⟩) q m]) :
    Calls Try.prog 22 #[.slice (some ⟨o, 0, none⟩) 2 2, .agg #[.int .i64 0, .int .i64 0, .int .i64 0]] w fun e w' =>
      ∃ (A7 : Option Addr) (n7 c7 : Nat) (er : Int), e = .returned (.tuple #[.slice A7 n7 c7, .int .i64 er]) ∧ (k + q ≤ 4096 → er = 0 ∧ n7 = k + q) ∧ (4096 < k + q → er = 9 ∧ n7 = 0) ∧ Below w.heap.size w w' := by
  have hr2 : Rds w w.heap.size (some ⟨b2, 0, none⟩) (cols (List.replicate q z0)) := by
    rcases h2 with h2 | ⟨b, off, e, hb, hc⟩
    · have := congrArg List.length h2
      rw [cols_length, List.length_replicate] at this
      simp at this
      omega
    · refine .inr ⟨b, off, e, hb, fun j u hu => hc j u ?_⟩
      have hs : List.replicate m z0 = List.replicate q z0 ++ List.replicate (m - q) z0 := by rw [List.replicate_append_replicate]; congr 1; omega
      rw [hs, ← flat_cols_append, List.getElem?_append_left (List.getElem?_eq_some_iff.1 hu).1]
      exact hu
  have wz : ∀ n, ∀ a ∈ List.replicate n z0, Col.wf w a := by
    intro n a ha
    rw [List.mem_replicate] at ha
    rw [ha.2]
    have hz : in64 0 := by show (Lit.int .i64 0).wf = true; decide
    exact ⟨hz, hz, hz⟩
  have g1 : Sl.Good Col.cells Col.wf w ⟨some ⟨b1, 0, none⟩, k, k, List.replicate k z0⟩ := ⟨by simp, Nat.le_refl _, by simp only [maxLen]; omega, (fun h => by cases h), h1, wz k⟩
  have g2 : Sl.Good Col.cells Col.wf w ⟨some ⟨b2, 0, none⟩, q, m, List.replicate q z0⟩ := ⟨by simp, hm1, by simp only [maxLen]; omega, (fun h => by cases h), hr2, wz q⟩
  refine (join_good (some ⟨o, 0, none⟩) 2 2 [⟨some ⟨b1, 0, none⟩, k, k, List.replicate k z0⟩, ⟨some ⟨b2, 0, none⟩, q, m, List.replicate q z0⟩] z0 w rfl (by omega) h ?_ ?_).mono ?_
  · intro s hs
    simp only [List.mem_cons, List.not_mem_nil, or_false] at hs
    rcases hs with rfl | rfl
    · exact g1
    · exact g2
  · intro s hs
    simp only [List.mem_cons, List.not_mem_nil, or_false] at hs
    rcases hs with rfl | rfl
    · exact ⟨by show k ≠ 0; omega, colErr_zero k (by omega)⟩
    · exact ⟨by show q ≠ 0; omega, colErr_zero q (by omega)⟩
  · intro e w' hj
    have hl := joinL_two ⟨some ⟨b1, 0, none⟩, k, k, List.replicate k z0⟩ ⟨some ⟨b2, 0, none⟩, q, m, List.replicate q z0⟩ (by
      intro e
      have := congrArg List.length e
      simp at this
      omega)
    rw [List.length_replicate, List.length_replicate] at hl
    rcases hj with ⟨h, _⟩ | ⟨_, h9, he, hb⟩ | ⟨_, h9, v, he, ho, hb⟩
    · exact absurd colErr_z0 h
    · exact ⟨none, 0, 0, 9, he, fun _ => by omega, fun _ => ⟨rfl, rfl⟩, hb⟩
    · obtain ⟨A7, c7, rfl, -, -, -⟩ := own_form ho
      exact ⟨A7, _, c7, 0, he, fun _ => ⟨rfl, hl⟩, fun _ => by omega, hb⟩

theorem long_facts {W0 : World} {b m k : Nat} {u1 u2 : Value} {t : TypeId} (h : Rds W0 W0.heap.size (some ⟨b, 0, none⟩) (cols (List.replicate m z0))) :
    Rds (((W0.alloc (.cells (zc k) 41)).alloc (.cells #[u1, u2] t)).drew) (((W0.alloc (.cells (zc k) 41)).alloc (.cells #[u1, u2] t)).drew).heap.size (some ⟨W0.heap.size, 0, none⟩) (cols (List.replicate k z0)) ∧
    Rds (((W0.alloc (.cells (zc k) 41)).alloc (.cells #[u1, u2] t)).drew) (((W0.alloc (.cells (zc k) 41)).alloc (.cells #[u1, u2] t)).drew).heap.size (some ⟨b, 0, none⟩) (cols (List.replicate m z0)) ∧
    Rds (((W0.alloc (.cells (zc k) 41)).alloc (.cells #[u1, u2] t)).drew) (((W0.alloc (.cells (zc k) 41)).alloc (.cells #[u1, u2] t)).drew).heap.size (some ⟨W0.heap.size + 1, 0, none⟩) [u1, u2] := by
  have r1 : Rds (W0.alloc (.cells (zc k) 41)) (W0.heap.size + 1) (some ⟨W0.heap.size, 0, none⟩) (cols (List.replicate k z0)) := by
    have := Rds.new W0 (zc k) 41
    rw [zc_cols] at this
    exact this
  have bb : Below (W0.heap.size + 1) (W0.alloc (.cells (zc k) 41)) (((W0.alloc (.cells (zc k) 41)).alloc (.cells #[u1, u2] t)).drew) := Below.drew ((Below.refl _ _).alloc (by simp) _)
  have bb2 : Below W0.heap.size W0 (((W0.alloc (.cells (zc k) 41)).alloc (.cells #[u1, u2] t)).drew) := ((Below.refl _ W0).alloc (Nat.le_refl _) _).trans (bb.mono (by omega))
  have r3 := Rds.at_new_drew (w := W0.alloc (.cells (zc k) 41)) (b := W0.heap.size + 1) (by simp) #[u1, u2] t
  exact ⟨(r1.below bb).more (by have h := bb.size; rw [World.size_alloc] at h; exact h), (h.below bb2).more bb2.size, r3.more (by show _ ≤ ((W0.alloc _).alloc _).heap.size; simp)⟩

theorem long_below {w w1 : World} {o1 o2 o3 : Obj} (h : Below (((w.alloc o1).alloc o2).alloc o3).drew.heap.size (((w.alloc o1).alloc o2).alloc o3).drew w1) : Below w.heap.size w w1 := by
  have e : w.heap.size ≤ (((w.alloc o1).alloc o2).alloc o3).drew.heap.size := by show w.heap.size ≤ (((w.alloc o1).alloc o2).alloc o3).heap.size; simp; omega
  exact ((((((Below.refl _ w).alloc (Nat.le_refl _) o1).alloc (by simp) o2).alloc (by simp; omega) o3).drew).trans (h.mono e))

theorem long_b2 {w w1 : World} {o1 o2 o3 : Obj} (h : Below (((w.alloc o1).alloc o2).alloc o3).drew.heap.size (((w.alloc o1).alloc o2).alloc o3).drew w1) : Below (w.alloc o1).heap.size (w.alloc o1) w1 := by
  have e : (w.alloc o1).heap.size ≤ (((w.alloc o1).alloc o2).alloc o3).drew.heap.size := by show _ ≤ (((w.alloc o1).alloc o2).alloc o3).heap.size; simp
  exact (((((Below.refl _ (w.alloc o1)).alloc (Nat.le_refl _) o2).alloc (by simp) o3).drew).trans (h.mono e))
theorem long_b3 {w w1 : World} {o2 o3 : Obj} (h : Below ((w.alloc o2).alloc o3).drew.heap.size ((w.alloc o2).alloc o3).drew w1) : Below w.heap.size w w1 := by
  have e : w.heap.size ≤ ((w.alloc o2).alloc o3).drew.heap.size := by show w.heap.size ≤ ((w.alloc o2).alloc o3).heap.size; simp; omega
  exact (((((Below.refl _ w).alloc (Nat.le_refl _) o2).alloc (by simp) o3).drew).trans (h.mono e))

set_option maxRecDepth 100000 in
set_option maxHeartbeats 2000000 in
theorem long_law (x : Int) (w : World) (hx0 : 0 ≤ x) (hx1 : x ≤ 255) :
    Calls Try.prog 8 #[.int .u8 x] w fun e w' => e = .returned (.bool true) ∧ Below w.heap.size w w' := by
  obtain ⟨m, hm⟩ : ∃ m : Nat, 4088 + x % 16 = m := ⟨(4088 + x % 16).toNat, by omega⟩
  have hm1 : 4088 ≤ m := by omega
  have hm2 : m ≤ 4103 := by omega
  have mk := fun W => run_make_cols (4088 + x % 16) m hm (by omega) W
  have mk4 := fun W => run_make_cols 4 4 rfl (by omega) W
  have mk10 := fun W => run_make_cols 10 10 rfl (by omega) W
  have HM := hide hm
  clear hm
  go_enter Try.func8, Try.ntmps8
  go_wp2_with fail
  have hz3 : Rds (w.alloc (.cells (zc m) 41)) (w.alloc (.cells (zc m) 41)).heap.size (some ⟨w.heap.size, 0, none⟩) (cols (List.replicate m z0)) := by
    have := Rds.new w (zc m) 41
    rw [zc_cols] at this
    exact this.more (by simp)
  have f1 := fun u1 u2 t => long_facts (k := 4) (u1 := u1) (u2 := u2) (t := t) hz3
  have F1 := hide f1
  have Z3 := hide hz3
  clear hz3 f1
  have i1 : (4088 : Int) ≤ (m : Int) := by omega
  go_region_held3 (fun w' => (0 : Nat) ≤ w'.heap.size)
    (first | go_keep | omega)
    (first | (go_at_call 22; go_loud (refine (join_long _ _ _ 4 m 4088 _ (by omega) (by omega) (by omega) (by omega) hm1 hm2 (by simpa using (F1.out _ _ _).1) (by simpa using (F1.out _ _ _).2.1) (by simpa using (F1.out _ _ _).2.2)).mono ?_); rintro e w1 ⟨A7, n7, c7, er, rfl, hj1, hj2, hb1⟩))
  obtain ⟨rfl, rfl⟩ := hj1 (by omega)
  have hb1' : Below w.heap.size w w1 := long_below hb1
  have hr1 : Rds w1 w1.heap.size (some ⟨w.heap.size, 0, none⟩) (cols (List.replicate m z0)) := by
    exact (Z3.out.below (long_b2 hb1)).more (long_b2 hb1).size
  have f2 := fun u1 u2 t => long_facts (k := 10) (u1 := u1) (u2 := u2) (t := t) hr1
  have F2 := hide f2
  have R1 := hide hr1
  have B1 := hide hb1'
  clear f2 hr1 hb1 hb1' hj1 hj2 F1
  go_wp2_with fail
  go_region_held3 (fun w' => (0 : Nat) ≤ w'.heap.size)
    (first | go_keep | omega)
    (first | (go_at_call 22; go_loud (refine (join_long _ _ _ 10 m 4088 _ (by omega) (by omega) (by omega) (by omega) hm1 hm2 (by simpa using (F2.out _ _ _).1) (by simpa using (F2.out _ _ _).2.1) (by simpa using (F2.out _ _ _).2.2)).mono ?_); rintro e w2 ⟨A8, n8, c8, er, rfl, hj1, hj2, hb2⟩))
  obtain ⟨rfl, rfl⟩ := hj2 (by omega)
  have b3 := long_b3 hb2
  have B2 := hide (B1.out.trans (b3.mono B1.out.size))
  have R2 := hide ((R1.out.below b3).more b3.size)
  clear hb2 b3 hj1 hj2 F2 R1 B1
  go_wp2_with fail
  refine (known_any _).mono ?_
  rintro e w3 ⟨rfl, hb3⟩
  have B3 := hide (B2.out.trans (hb3.mono B2.out.size))
  have R3 := hide ((R2.out.below hb3).more hb3.size)
  clear hb3
  go_wp2_with fail
  refine (check_any _ m m (List.replicate m z0) _ List.length_replicate.symm (by omega) R3.out).mono ?_
  rintro e w4 ⟨rfl, hb4⟩
  have B4 := hide (B3.out.trans (hb4.mono B3.out.size))
  have R4 := hide ((R3.out.below hb4).more hb4.size)
  clear hb4
  go_wp2_with fail
  refine (lcheck_any _ m m (List.replicate m z0) _ List.length_replicate.symm (by omega) R4.out).mono ?_
  rintro e w5 ⟨rfl, rfl⟩
  generalize colErr (List.replicate m z0) = ce
  go_wp2_with fail
  go_ret
  exact ⟨rfl, B4.out⟩

theorem spacingLong_walk {w : World} (x : Int) (w0 : (Lit.int .u8 x).wf = true) :
    Calls Try.prog 8 #[.int .u8 x] w fun e w' => e = .returned (.bool true) ∧ Below w.heap.size w w' := by
  have hx := bounds_u8 w0
  exact long_law x w hx.1 hx.2

end Go.Proofs.Ytajkmlejklgbbaa
