/- spacing.Join, walked. -/
import Derived.Test.YtajkmlejklgbbaaJoin
namespace Go.Proofs.Ytajkmlejklgbbaa
open Go.RowKit

theorem flat_cols_append (l l' : List Col) : cols l ++ cols l' = cols (l ++ l') := by simp [cols]
theorem Rds.dropc {w : World} {B b off : Nat} {l : List Col} (h : Rds w B (some ⟨b, off, none⟩) (cols l)) : Rds w B (some ⟨b, off + 3, none⟩) (cols (l.drop 1)) := by
  cases l with
  | nil => exact .inl rfl
  | cons a l =>
    rcases h with h | ⟨b', off', e, hb, hc⟩
    · simp [cols, Col.cells] at h
    · injection e with e
      injection e with e1 e2
      subst e1 e2
      refine .inr ⟨b, off + 3, rfl, hb, fun j u hu => ?_⟩
      have := hc (3 + j) u (by
        rw [cols, List.flatMap_cons, List.getElem?_append_right (by simp [Col.cells])]
        simpa [cols, Col.cells] using hu)
      rw [← Nat.add_assoc] at this
      exact this

set_option maxRecDepth 100000 in
set_option maxHeartbeats 4000000 in
theorem join_bad (A : Option Addr) (n c : Nat) (M : List (Sl Col)) (p : Col) (w : World) (hn : n = M.length) (hm : n ≤ 100) (h : Rds w w.heap.size A (vals M)) (hg : ∀ s ∈ M, Sl.Good Col.cells Col.wf w s)
    (hbad : ¬ ∀ s ∈ M, SlOk s) :
    Calls Try.prog 22 #[.slice A n c, .agg #[.int .i64 p.l, .int .i64 p.r, .int .i64 p.t]] w (JoinErrPost w (measErr M)) := by
  have HN := hide hn
  have HG := hide hg
  have HB := hide hbad
  clear hn hg hbad
  go_enter Try.func22, Try.ntmps22
  go_wp2_with fail
  go_loopg [15] n (fun gk i wr => ∃ k : Nat, k ≤ n ∧ i = .int .i64 k ∧ n ≤ gk + k ∧ (∀ (j : Nat) (s : Sl Col), j < k → M[j]? = some s → SlOk s) ∧ Below w.heap.size w wr)
  case atStart => exact ⟨0, Nat.zero_le _, rfl, by omega, fun j s hj => absurd hj (by omega), by go_grown⟩
  case round =>
    obtain ⟨k, hk, rfl, hgk, hok, hb⟩ := hrel
    by_cases hlt : k < n
    · obtain ⟨s, hs⟩ : ∃ s, M[k]? = some s := ⟨_, List.getElem?_eq_getElem (by have := HN.out; omega)⟩
      obtain ⟨b, off, rfl, hbB, c0⟩ := (h.below hb).sl hs
      have hgs := HG.out s (List.mem_of_getElem? hs)
      have hl1 := hgs.len
      have hl2 := hgs.cap
      have hl3 := len63 hgs.max
      have hrd := (hgs.rds.below hb).more hb.size
      have HL := hide hl1
      have HOK := hide hok
      have HBw := hide hb
      have HS := hide hs
      have hat := measErr_at hok hs
      clear hl1 hgs hok hb hs
      by_cases h0 : s.n = 0
      · rw [if_pos h0] at hat
        have HAT := hide hat
        clear hat
        have h01 : ((s.n : Int) == 0) = true := by simp [h0]
        clear h0
        go_wp2_with fail
        go_ret2
        exact ⟨by rw [HAT.out]; rfl, HBw.out⟩
      · rw [if_neg h0] at hat
        have h01 : ((s.n : Int) == 0) = false := by simpa using h0
        by_cases he : colErr s.l = 0
        · have HE := hide he
          clear hat he
          go_wp2_with fail
          refine (check_any s.A s.n s.c s.l _ HL.out (by omega) hrd).mono ?_
          rw [HE.out]
          rintro e w2 ⟨rfl, hb2⟩
          clear hrd
          go_wp2_with fail
          go_roundg (gk - 1)
          case measure => omega
          case rel =>
            refine ⟨k + 1, by omega, by go_num, by omega, fun j s' hj hs' => ?_, HBw.out.trans (hb2.mono HBw.out.size)⟩
            by_cases hjk : j = k
            · subst hjk; rw [HS.out] at hs'; cases hs'; exact ⟨h0, HE.out⟩
            · exact HOK.out j s' (by omega) hs'
        · rw [if_pos he] at hat
          have HAT := hide hat
          have he2 : (colErr s.l != 0) = true := by simpa using he
          clear hat he
          go_wp2_with fail
          refine (check_any s.A s.n s.c s.l _ HL.out (by omega) hrd).mono ?_
          rintro e w2 ⟨rfl, hb2⟩
          clear hrd
          go_wp2_with fail
          go_ret2
          exact ⟨by rw [HAT.out]; rfl, HBw.out.trans (hb2.mono HBw.out.size)⟩
    · exfalso
      refine HB.out fun s hs => ?_
      obtain ⟨j, hj⟩ := List.getElem?_of_mem hs
      exact hok j s (by have := (List.getElem?_eq_some_iff.1 hj).1; have := HN.out; omega) hj

def JoinAny (w : World) (p : Col) (M : List (Sl Col)) (e : Ending) (w' : World) : Prop :=
  (colErr [p] ≠ 0 ∧ JoinErrPost w (colErr [p]) e w') ∨ (colErr [p] = 0 ∧ 4096 < (joinL p M).length ∧ JoinErrPost w 9 e w') ∨ (colErr [p] = 0 ∧ (joinL p M).length ≤ 4096 ∧ JoinPost w (joinL p M) e w')

/-- what the second loop's round does -/
theorem rel_join {w0 wr w1 : World} {p : Col} {M : List (Sl Col)} {k : Nat} {s : Sl Col} {v v' : Value} {news : List Col} (hk : M[k]? = some s) (hok : ∀ (j : Nat) (s : Sl Col), M[j]? = some s → s.l ≠ [])
    (hn : news = if k = 0 then s.l.drop 1 else s.l) (hb : Below w0.heap.size w0 wr)
    (ho : wr.ownsRow w0.heap.size 41 3 v (joinL p (M.take k)).length (cols (joinL p (M.take k))))
    (h2 : w1.ownsRow w0.heap.size 41 3 v' ((joinL p (M.take k)).length + news.length) (cols (joinL p (M.take k)) ++ cols news)) (hg : wr.grownBy w1 v.ownBlock) :
    w1.ownsRow w0.heap.size 41 3 v' (joinL p (M.take (k + 1))).length (cols (joinL p (M.take (k + 1)))) ∧ Below w0.heap.size w0 w1 := by
  have e := joinL_take p M k s hk fun j s _ hs => hok j s hs
  rw [← hn] at e
  rw [e, List.length_append, ← flat_cols_append]
  exact ⟨h2, hb.grown hg hb.size fun k hk => (ho.lt k hk).1⟩

theorem joinL_len (p : Col) (M : List (Sl Col)) (h : ∀ (j : Nat) (s : Sl Col), M[j]? = some s → s.l.length ≤ 4096) : (joinL p M).length ≤ 1 + 4096 * M.length := by
  have : (M.flatMap fun s => s.l).length ≤ 4096 * M.length := by
    induction M with
    | nil => simp
    | cons m M ih =>
      have h0 := h 0 m rfl
      have := ih fun j s hj => h (j + 1) s hj
      simp only [List.flatMap_cons, List.length_append, List.length_cons]
      omega
  simp only [joinL, List.length_cons, List.length_drop]
  omega

set_option maxRecDepth 100000 in
set_option maxHeartbeats 4000000 in
theorem join_good (A : Option Addr) (n c : Nat) (M : List (Sl Col)) (p : Col) (w : World) (hn : n = M.length) (hm : n ≤ 100) (h : Rds w w.heap.size A (vals M)) (hg : ∀ s ∈ M, Sl.Good Col.cells Col.wf w s)
    (hgood : ∀ s ∈ M, SlOk s) :
    Calls Try.prog 22 #[.slice A n c, .agg #[.int .i64 p.l, .int .i64 p.r, .int .i64 p.t]] w (JoinAny w p M) := by
  have HN := hide hn
  have HG := hide hg
  have HB := hide hgood
  have H := hide h
  have hb0 : w.heap.size < w.heap.size + 1 := by omega
  clear hn hg hgood h
  go_enter Try.func22, Try.ntmps22
  go_wp2_with fail
  go_loopg [15] n (fun gk i wr => ∃ k : Nat, k ≤ n ∧ i = .int .i64 k ∧ n ≤ gk + k ∧ Below (w.heap.size + 1) (w.alloc (.cells #[.int .i64 p.l, .int .i64 p.r, .int .i64 p.t] 41)) wr)
  case atStart => exact ⟨0, Nat.zero_le _, rfl, by omega, Below.refl _ _⟩
  case round =>
    obtain ⟨k, hk, rfl, hgk, hb1⟩ := hrel
    have hb : Below w.heap.size w wr := ((Below.refl _ w).alloc (Nat.le_refl _) _).trans (hb1.mono (by omega))
    by_cases hlt : k < n
    · obtain ⟨s, hs⟩ : ∃ s, M[k]? = some s := ⟨_, List.getElem?_eq_getElem (by have := HN.out; omega)⟩
      obtain ⟨b, off, rfl, hbB, c0⟩ := (H.out.below hb).sl hs
      have hgs := HG.out s (List.mem_of_getElem? hs)
      obtain ⟨h0, he⟩ := HB.out s (List.mem_of_getElem? hs)
      have hl2 := hgs.cap
      have hl3 := len63 hgs.max
      have hrd := (hgs.rds.below hb).more hb.size
      have HL := hide hgs.len
      have HB1 := hide hb1
      have HE := hide he
      have hsz := hb1.size
      simp only [World.size_alloc] at hsz
      have h01 : ((s.n : Int) == 0) = false := by simpa using h0
      clear hgs hb hb1 hs he h0
      go_wp2_with fail
      refine (check_any s.A s.n s.c s.l _ HL.out (by omega) hrd).mono ?_
      rw [HE.out]
      rintro e w2 ⟨rfl, hb2⟩
      clear hrd
      go_wp2_with fail
      go_roundg (gk - 1)
      case measure => omega
      case rel => exact ⟨k + 1, by omega, by go_num, by omega, HB1.out.trans (hb2.mono hsz)⟩
    · have hsz := hb1.size
      simp only [World.size_alloc] at hsz
      have p0 : wr.cell? ⟨w.heap.size, 0, none⟩ = some (.int .i64 p.l) := (hb1.cell (p := ⟨w.heap.size, 0, none⟩) (Nat.lt_succ_self _)).trans ((cell_of_row _ _ 0 _ _ _ (heap_alloc_new w _)).trans rfl)
      have p1 : wr.cell? ⟨w.heap.size, 1, none⟩ = some (.int .i64 p.r) := (hb1.cell (p := ⟨w.heap.size, 1, none⟩) (Nat.lt_succ_self _)).trans ((cell_of_row _ _ 1 _ _ _ (heap_alloc_new w _)).trans rfl)
      have p2 : wr.cell? ⟨w.heap.size, 2, none⟩ = some (.int .i64 p.t) := (hb1.cell (p := ⟨w.heap.size, 2, none⟩) (Nat.lt_succ_self _)).trans ((cell_of_row _ _ 2 _ _ _ (heap_alloc_new w _)).trans rfl)
      have hpw : w.heap.size < wr.heap.size := by omega
      have HBA := hide hb
      have hr : Rds (wr.alloc (.cells #[.int .i64 p.l, .int .i64 p.r, .int .i64 p.t] 41)) (wr.heap.size + 1) (some ⟨wr.heap.size, 0, none⟩) (cols [p]) := Rds.new wr #[.int .i64 p.l, .int .i64 p.r, .int .i64 p.t] 41
      clear hb1 hb
      go_wp2_with fail
      refine (check_any _ 1 1 [p] _ rfl (by omega) (hr.more (by simp))).mono ?_
      clear hr
      by_cases he : colErr [p] = 0
      · rw [he]
        have HE := hide he
        clear he
        rintro e w2 ⟨rfl, hb2⟩
        have hbB := (HBA.out.alloc HBA.out.size _).trans (hb2.mono (by simp; omega))
        have hw2 : wr.heap.size + 1 ≤ w2.heap.size := by have := hb2.size; simpa using this
        have q0 := (hb2.cell (p := ⟨w.heap.size, 0, none⟩) (by simp; omega)).trans ((World.cell?_alloc_lt _ _ _ hpw).trans p0)
        have q1 := (hb2.cell (p := ⟨w.heap.size, 1, none⟩) (by simp; omega)).trans ((World.cell?_alloc_lt _ _ _ hpw).trans p1)
        have q2 := (hb2.cell (p := ⟨w.heap.size, 2, none⟩) (by simp; omega)).trans ((World.cell?_alloc_lt _ _ _ hpw).trans p2)
        have hpw2 : w.heap.size < w2.heap.size := by omega
        have HBB := hide hbB
        clear p0 p1 p2 hb2 hbB
        go_wp2_with fail
        have hone : (w2.alloc (.cells #[.int .i64 p.l, .int .i64 p.r, .int .i64 p.t] 41)).ownsRow w.heap.size 41 3 (.slice (some ⟨w2.heap.size, 0, none⟩) 1 1) 1 (cols [p]) :=
          ⟨rfl, .inr ⟨w2.heap.size, 1, _, rfl, by omega, heap_alloc_new w2 _, Nat.le_refl _, by simp only [maxLen]; omega, rfl, rfl⟩⟩
        have HONE := hide hone
        clear hone q0 q1 q2
        go_loopg [10, 38] n (fun gk v i wr => ∃ k : Nat, k ≤ n ∧ i = .int .i64 k ∧ n ≤ gk + k ∧ wr.ownsRow w.heap.size 41 3 v (joinL p (M.take k)).length (cols (joinL p (M.take k))) ∧ Below w.heap.size w wr)
        case atStart => exact ⟨0, Nat.zero_le _, rfl, by omega, by simpa [joinL] using HONE.out, HBB.out.alloc HBB.out.size _⟩
        case round =>
          obtain ⟨k, hk, rfl, hgk, hown, hb⟩ := hrel
          by_cases hlt : k < n
          · obtain ⟨s, hs⟩ : ∃ s, M[k]? = some s := ⟨_, List.getElem?_eq_getElem (by have := HN.out; omega)⟩
            obtain ⟨b, off, rfl, hbB, c0⟩ := (H.out.below hb).sl hs
            have hgs := HG.out s (List.mem_of_getElem? hs)
            obtain ⟨h0, he⟩ := HB.out s (List.mem_of_getElem? hs)
            have h4 := (colErr_all2 _ he).1
            have hall : ∀ (j : Nat) (s : Sl Col), M[j]? = some s → s.l ≠ [] := fun j s hj e =>
              (HB.out s (List.mem_of_getElem? hj)).1 (by rw [(HG.out s (List.mem_of_getElem? hj)).len, e]; rfl)
            have HALL := hide hall
            have hcnt := joinL_len p (M.take k) fun j s hj => (colErr_all2 _ (HB.out s (List.mem_of_mem_take (List.mem_of_getElem? hj))).2).1
            rw [List.length_take] at hcnt
            have hcnt2 : (joinL p (M.take k)).length ≤ 1 + 4096 * k := by have := HN.out; omega
            obtain ⟨cnt, hC⟩ : ∃ cnt, cnt = (joinL p (M.take k)).length := ⟨_, rfl⟩
            rw [← hC] at hcnt2
            have HC := hide hC
            obtain ⟨sA, sn, sc, sl⟩ := s
            dsimp only at c0 h0 he h4
            have hl2 : sn ≤ sc := hgs.cap
            have hl3 : sc ≤ 9223372036854775807 := len63 hgs.max
            have hlen : sn = sl.length := hgs.len
            have hrd : Rds wr wr.heap.size sA (cols sl) := (hgs.rds.below hb).more hb.size
            obtain ⟨b2, off2, hA2, hb2, -⟩ := hrd.get (k := 0) (by rw [cols_length]; omega)
            subst hA2
            have hsn1 : 1 ≤ sn := by omega
            have hsn4 : sn ≤ 4096 := by omega
            have HL := hide hlen
            have HO := hide hown
            have HBw := hide hb
            have HS := hide hs
            have HRD := hide hrd
            clear hgs hb hs hown hrd hlen he hall hcnt hC
            by_cases hk0 : k = 0
            · subst hk0
              rw [Nat.add_zero] at c0
              by_cases hc1 : sc = 1
              · have hsn : sn = 1 := by omega
                subst hc1 hsn
                have hnil : sl.drop 1 = [] := List.drop_eq_nil_of_le (by have := HL.out; omega)
                have HNIL := hide hnil
                clear hnil
                go_wp2_with (at_builtin; go_must (refine wpList_app rfl (.tmp 47) (.tmp 48) 29 rfl w.heap.size cols_ty _ _ _ rfl HO.out 0 _ 0 _ [] rfl rfl .nil (fun u hu => by cases hu) (by rw [← HC.out]; simp only [maxLen]; omega) (by rw [← HC.out]; omega) HBw.out.size ?_); intro v' w3 o3 g3 b3)
                have R := rel_join HS.out HALL.out (news := []) (by rw [if_pos rfl]; exact HNIL.out.symm) HBw.out HO.out (by simpa [cols] using o3) g3
                go_wp2_with fail
                go_roundg (gk - 1)
                case measure => omega
                case rel => exact ⟨0 + 1, by omega, by go_num, by omega, R.1, R.2⟩
              · have hc2 : ¬ 1 = sc := fun h => hc1 h.symm
                have hdl : sn - 1 = (sl.drop 1).length := by rw [List.length_drop, HL.out]
                have HDL := hide hdl
                clear hdl
                go_wp2_with (at_builtin; go_must (refine wpList_app rfl (.tmp 47) (.tmp 48) 29 rfl w.heap.size cols_ty _ _ _ rfl HO.out wr.heap.size (some ⟨b2, off2 + 3, none⟩) (sn - 1) (sc - 1) (cols (sl.drop 1)) rfl (by rw [cols_length, HDL.out]) HRD.out.dropc (cols_one _) (by rw [← HC.out]; simp only [maxLen]; omega) (by rw [← HC.out]; omega) HBw.out.size ?_); intro v' w3 o3 g3 b3)
                have R := rel_join HS.out HALL.out (news := sl.drop 1) (by rw [if_pos rfl]) HBw.out HO.out (by rw [← HDL.out]; exact o3) g3
                go_wp2_with fail
                go_roundg (gk - 1)
                case measure => omega
                case rel => exact ⟨0 + 1, by omega, by go_num, by omega, R.1, R.2⟩
            · have hk1 : ((k : Int) == 0) = false := by simpa using hk0
              go_wp2_with (at_builtin; go_must (refine wpList_app rfl (.tmp 47) (.tmp 48) 29 rfl w.heap.size cols_ty _ _ _ rfl HO.out wr.heap.size (some ⟨b2, off2, none⟩) sn sc (cols sl) rfl (by rw [cols_length, HL.out]) HRD.out (cols_one _) (by rw [← HC.out]; simp only [maxLen]; omega) (by rw [← HC.out]; omega) HBw.out.size ?_); intro v' w3 o3 g3 b3)
              have R := rel_join HS.out HALL.out (news := sl) (by rw [if_neg hk0]) HBw.out HO.out (by rw [← HL.out]; exact o3) g3
              go_wp2_with fail
              go_roundg (gk - 1)
              case measure => omega
              case rel => exact ⟨k + 1, by omega, by go_num, by omega, R.1, R.2⟩
          · have hkn : M.take k = M := List.take_of_length_le (by have := HN.out; omega)
            rw [hkn] at hown
            have hcnt := joinL_len p M fun j s hj => (colErr_all2 _ (HB.out s (List.mem_of_getElem? hj)).2).1
            obtain ⟨A3, c3, rfl, -, -, -⟩ := own_form hown
            obtain ⟨cnt, hC⟩ : ∃ cnt, cnt = (joinL p M).length := ⟨_, rfl⟩
            rw [← hC] at hcnt
            have HC := hide hC
            have HO := hide hown
            have hcnt2 : cnt ≤ 1 + 4096 * 100 := by have := HN.out; omega
            rw [← hC]
            clear hkn hcnt hC hown
            by_cases hbig : 4096 < cnt
            · go_wp2_with fail
              go_ret2
              exact .inr (.inl ⟨HE.out, by rw [← HC.out]; exact hbig, rfl, hb⟩)
            · go_wp2_with fail
              go_ret2
              exact .inr (.inr ⟨HE.out, by rw [← HC.out]; omega, _, by rw [HC.out]; rfl, HO.out, hb⟩)
      · have he2 : (colErr [p] != 0) = true := by simpa using he
        have HE := hide he
        clear he
        rintro e w2 ⟨rfl, hb2⟩
        have hbB := (HBA.out.alloc HBA.out.size _).trans (hb2.mono (by simp; omega))
        clear hb2
        go_wp2_with fail
        go_ret2
        exact .inl ⟨HE.out, rfl, hbB⟩

end Go.Proofs.Ytajkmlejklgbbaa
