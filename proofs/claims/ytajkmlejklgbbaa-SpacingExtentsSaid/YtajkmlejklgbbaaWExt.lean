/- The law SpacingExtents, walked. -/
import Derived.Test.YtajkmlejklgbbaaExt
import Derived.Test.YtajkmlejklgbbaaSame
import Derived.Test.YtajkmlejklgbbaaKnown
import Derived.Test.YtajkmlejklgbbaaLongW
import Derived.Test.YtajkmlejklgbbaaTake
import Derived.Test.YtajkmlejklgbbaaHand
namespace Go.Proofs.Ytajkmlejklgbbaa
open Go.RowKit

theorem flatMap_one (l : List Int) : (l.flatMap fun x => [Value.int .i64 x]) = l.map (Value.int .i64) := by
  induction l with
  | nil => rfl
  | cons a l ih => rw [List.flatMap_cons, ih]; rfl
theorem in64_r {x : Int} (h : in64 x) : -9223372036854775808 ≤ x ∧ x ≤ 9223372036854775807 := by
  unfold in64 at h
  have h2 : IntKind.i64.min ≤ x ∧ x ≤ 9223372036854775807 := by simpa [Lit.wf, IntKind.wrap_i64] using h
  exact h2
/-- the first columns have their ticks -/
def mix (ts : List Int) (i : Nat) : List Col := tcols (ts.take i) ++ List.replicate (ts.length - i) z0
theorem mix_get {ts : List Int} {i : Nat} (h : i < ts.length) : (mix ts i)[i]? = some z0 := by
  rw [mix, List.getElem?_append_right (by rw [tcols_length, List.length_take]; omega), tcols_length, List.length_take, show i - min i ts.length = 0 by omega, List.getElem?_replicate, if_pos (by omega)]
theorem mix_set {ts : List Int} {i : Nat} {t : Int} (h : ts[i]? = some t) : (mix ts i).set i ⟨z0.l, z0.r, t⟩ = mix ts (i + 1) := by
  have hl : i < ts.length := (List.getElem?_eq_some_iff.1 h).1
  rw [mix, mix, tcols_snoc ts i t h, List.set_append, if_neg (by rw [tcols_length, List.length_take]; omega), tcols_length, List.length_take, show i - min i ts.length = 0 by omega,
    show ts.length - i = (ts.length - (i + 1)) + 1 by omega, List.replicate_succ, List.set_cons_zero, List.append_assoc]
  rfl
theorem mix_zero (ts : List Int) : mix ts 0 = List.replicate ts.length z0 := by simp [mix, tcols]
theorem mix_all {ts : List Int} {i : Nat} (h : ts.length ≤ i) : mix ts i = tcols ts := by
  rw [mix, List.take_of_length_le h, show ts.length - i = 0 by omega, List.replicate_zero, List.append_nil]
def Wt (wt : Int) (P : Prop) : Prop := (wt = 0 ∧ P) ∨ (wt = 2 ∧ ¬ P)
def XR (wt : Int) (i : Nat) (X Y : List Col) : Prop := X.length = i ∧ (wt = 0 → X = Y)
def okT (ts : List Int) (i : Nat) : Prop := ∀ j t, j < i → ts[j]? = some t → ¬ tbad t
def okM (n : Nat) (M : List Mk) (q : Nat) : Prop := ∀ j m, j < q → M[j]? = some m → ¬ m.bad n
theorem okT_succ {ts : List Int} {i : Nat} {t : Int} (h : ts[i]? = some t) : okT ts (i + 1) ↔ okT ts i ∧ ¬ tbad t :=
  ⟨fun k => ⟨fun j u hj hu => k j u (by omega) hu, k i t (by omega) h⟩, fun k j u hj hu => by
    by_cases e : j = i
    · subst e; rw [h] at hu; cases hu; exact k.2
    · exact k.1 j u (by omega) hu⟩
theorem okM_succ {n : Nat} {M : List Mk} {i : Nat} {t : Mk} (h : M[i]? = some t) : okM n M (i + 1) ↔ okM n M i ∧ ¬ t.bad n :=
  ⟨fun k => ⟨fun j u hj hu => k j u (by omega) hu, k i t (by omega) h⟩, fun k j u hj hu => by
    by_cases e : j = i
    · subst e; rw [h] at hu; cases hu; exact k.2
    · exact k.1 j u (by omega) hu⟩
theorem ok_all {ts : List Int} {M : List Mk} {i q : Nat} (hi : ts.length ≤ i) (hq : M.length ≤ q) : (okT ts i ∧ okM ts.length M q) ↔ extOk ts M :=
  ⟨fun k => ⟨fun t ht => by
      obtain ⟨j, hj⟩ := List.getElem?_of_mem ht
      exact k.1 j t (by have := (List.getElem?_eq_some_iff.1 hj).1; omega) hj, fun m hm => by
      obtain ⟨j, hj⟩ := List.getElem?_of_mem hm
      exact k.2 j m (by have := (List.getElem?_eq_some_iff.1 hj).1; omega) hj⟩,
   fun k => ⟨fun j t _ hj => k.1 t (List.mem_of_getElem? hj), fun j m _ hj => k.2 m (List.mem_of_getElem? hj)⟩⟩

set_option maxRecDepth 100000 in
set_option maxHeartbeats 8000000 in
theorem extents_law (A A' : Option Addr) (n c n' c' : Nat) (ts0 : List Int) (M0 : List Mk) (w : World) (hn : n = ts0.length) (hc : n ≤ c) (h : Rds w w.heap.size A (ts0.flatMap fun x => [Value.int .i64 x]))
    (hn' : n' = M0.length) (hc' : n' ≤ c') (h' : Rds w w.heap.size A' (mks M0)) (hw0 : ∀ m ∈ M0, Mk.wf w m) :
    Calls Try.prog 9 #[.slice A n c, .slice A' n' c'] w fun e w' => e = .returned (.bool true) ∧ Below w.heap.size w w' := by
  have HN := hide hn
  have HN' := hide hn'
  clear hn hn'
  go_enter Try.func9, Try.ntmps9
  go_upto_region 2 with fail
  go_cut [0, 1] (fun v0 v1 wx => ∃ n1 n2 : Nat, v0 = .slice A n1 c ∧ v1 = .slice A' n2 c' ∧ n1 ≤ n ∧ n1 ≤ 40 ∧ n2 ≤ n' ∧ n2 ≤ 40 ∧ ∃ q, wx = w.drewN q)
  case first =>
    obtain ⟨n1, hn1⟩ : ∃ n1 : Nat, n1 = min n 40 := ⟨_, rfl⟩
    obtain ⟨n2, hn2⟩ : ∃ n2 : Nat, n2 = min n' 40 := ⟨_, rfl⟩
    have m1 : min (n : Int) 40 = (n1 : Int) := by omega
    have m2 : min (n' : Int) 40 = (n2 : Int) := by omega
    have m3 : (n1 : Int) ≤ (c : Int) := by omega
    have m4 : (n2 : Int) ≤ (c' : Int) := by omega
    have m5 : n1 ≤ c := by omega
    have m6 : n2 ≤ c' := by omega
    have m7 : n1 ≤ n ∧ n1 ≤ 40 ∧ n2 ≤ n' ∧ n2 ≤ 40 := by omega
    clear hn1 hn2
    go_wp2_with fail
    go_quiet (fail)
    go_wp2_with fail
    go_meet
    exact ⟨n1, n2, rfl, rfl, m7.1, m7.2.1, m7.2.2.1, m7.2.2.2, _, rfl⟩
  case rest =>
    obtain ⟨n1, n2, rfl, rfl, g1, g2, g3, g4, q, rfl⟩ := hcut
    obtain ⟨ts, hts⟩ : ∃ ts, ts = ts0.take n1 := ⟨_, rfl⟩
    obtain ⟨M, hM⟩ : ∃ M, M = M0.take n2 := ⟨_, rfl⟩
    have HN1 := hide (show n1 = ts.length by rw [hts, List.length_take, ← HN.out]; omega)
    have HN2 := hide (show n2 = M.length by rw [hM, List.length_take, ← HN'.out]; omega)
    have HB0 := hide (show Below w.heap.size w (w.drewN q) from below_drewN (Below.refl _ _) _)
    have R1 := hide (show Rds w w.heap.size A (ts.map (Value.int .i64)) by rw [hts, ← flatMap_one]; exact Rds.tk h n1)
    have R2 := hide (show Rds w w.heap.size A' (mks M) by rw [hM]; exact Rds.tk h' n2)
    have HW := hide (show ∀ m ∈ M, (-9223372036854775808 ≤ m.lf ∧ m.lf ≤ 9223372036854775807) ∧ (-9223372036854775808 ≤ m.rt ∧ m.rt ≤ 9223372036854775807) from fun m hm => by
      obtain ⟨_, _, h3, h4⟩ := hw0 m (by rw [hM] at hm; exact List.mem_of_mem_take hm)
      exact ⟨in64_r h3, in64_r h4⟩)
    clear hts hM h h' HN HN' g1 g3 hc hc' hw0
    go_wp2_with fail
    refine (Extents_any A A' n1 c n2 c' ts M _ HN1.out (by omega) ((R1.out.below HB0.out).more HB0.out.size) HN2.out (by omega) ((R2.out.below HB0.out).more HB0.out.size) (fun m hm => (HW.out m hm).1.2)).mono ?_
    rintro e w1 hex
    obtain ⟨v, E, rfl, hv, hb⟩ : ∃ (v : Value) (E : Int), e = .returned (.tuple #[v, .int .i64 E]) ∧ ((¬ extOk ts M ∧ E = 2 ∧ v = .slice none 0 0) ∨ (extOk ts M ∧ E = 0 ∧ ∃ (A5 : Option Addr) (c5 : Nat), v = .slice A5 n1 c5 ∧ Rds w1 w1.heap.size A5 (cols (wids M (tcols ts))))) ∧ Below w.heap.size w w1 := by
      rcases hex with ⟨hbad, rfl, hb⟩ | ⟨hok, v, rfl, ho, hb⟩
      · exact ⟨_, 2, rfl, .inl ⟨hbad, rfl, rfl⟩, HB0.out.trans hb⟩
      · obtain ⟨A5, c5, rfl, -, -, -⟩ := own_form ho
        exact ⟨_, 0, rfl, .inr ⟨hok, rfl, A5, c5, by rw [HN1.out], Rds.own ho⟩, HB0.out.trans hb⟩
    have HV := hide hv
    have HB1 := hide hb
    have R11 := hide ((R1.out.below hb).more hb.size)
    have R21 := hide ((R2.out.below hb).more hb.size)
    clear hv hb R1 R2 HB0 hex
    go_wp2_with fail
    refine (known_any _).mono ?_
    rintro e w2 ⟨rfl, hb⟩
    have HC2 := hide (hb.alloc hb.size (.cells (zc n1) 41))
    have hgw := hb.size
    have hmk := run_make_cols (n1 : Int) n1 rfl (by omega)
    have HO2 := hide (show (w2.alloc (.cells (zc n1) 41)).ownsRow w1.heap.size 41 3 (.slice (some ⟨w2.heap.size, 0, none⟩) n1 n1) n1 (cols (mix ts 0)) by
      have := World.ownsRow_lit (base := w1.heap.size) (e := 41) (size := 3) w2 (zc n1) n1 hb.size (by simp only [maxLen]; omega) (zc_size n1)
      rw [zc_cols, HN1.out, ← mix_zero] at this
      rw [HN1.out]
      exact this)
    clear hb
    go_wp2_with fail
    generalize w2.alloc (.cells (zc n1) 41) = w3 at HC2 HO2 ⊢
    generalize w2.heap.size = g at HO2 hgw ⊢
    clear hmk
    go_loopg [7, 9] n1 (fun gl s7 s9 wr => ∃ (i : Nat) (wt : Int), s9 = .int .i64 i ∧ s7 = .int .i64 wt ∧ i ≤ n1 ∧ n1 ≤ gl + i ∧ Wt wt (okT ts i) ∧ Hid (wr.ownsRow w1.heap.size 41 3 (.slice (some ⟨g, 0, none⟩) n1 n1) n1 (cols (mix ts i))) ∧ Hid (Below w1.heap.size w1 wr))
    case atStart => exact ⟨0, 0, rfl, rfl, Nat.zero_le _, by omega, (.inl ⟨rfl, fun j t hj => absurd hj (by omega)⟩), HO2, HC2⟩
    case round =>
      obtain ⟨i, wt, rfl, rfl, hi, hgi, HOK, HO, HC⟩ := hrel
      by_cases hlt : i < n1
      · obtain ⟨t, ht⟩ : ∃ t, ts[i]? = some t := ⟨_, List.getElem?_eq_getElem (by have := HN1.out; omega)⟩
        obtain ⟨b, off, rfl, hbB, c0⟩ := ((R11.out.below HC.out).more HC.out.size).int ht
        obtain ⟨b', off', e1, hgl, -, -, c1⟩ := (Rds.own HO.out).col (mix_get (ts := ts) (i := i) (by have := HN1.out; omega))
        simp only [Option.some.injEq, Addr.mk.injEq, and_true] at e1
        obtain ⟨rfl, rfl⟩ := e1
        rw [Nat.zero_add] at c1
        have f1 := World.ownsRow.frozenAt HO.out (i * 3 + 2)
        have HO' := hide (show (wr.setCell ⟨g, i * 3 + 2, none⟩ (.int .i64 t)).ownsRow w1.heap.size 41 3 (.slice (some ⟨g, 0, none⟩) n1 n1) n1 (cols (mix ts (i + 1))) by
          obtain ⟨h1, -⟩ := HO.out.stored (i * 3 + 2) (.int .i64 t)
          rw [cols_set2 _ i z0 t (mix_get (by have := HN1.out; omega)), mix_set ht] at h1
          exact h1)
        have HC' := hide (HC.out.setCell (p := ⟨g, i * 3 + 2, none⟩) hgw (.int .i64 t))
        have HTS := hide (okT_succ ht)
        have i2 : ((i : Int)).toNat = i := by omega
        have i3 : (0 : Int) ≤ (i : Int) := by omega
        have i4 : (i : Int) < (n1 : Int) := by omega
        have i5 : IntKind.i64.wrap ((i : Int) + 1) = (i : Int) + 1 := IntWalk.i64_in _ (by omega)
        clear ht
        by_cases htb : tbad t
        · have hcs : t < 0 ∨ (¬ t < 0 ∧ 15482880 < t) := by unfold tbad at htb; omega
          have HN2' := hide (show Wt 2 (okT ts (i + 1)) from .inr ⟨rfl, fun k => (HTS.out.1 k).2 htb⟩)
          clear htb
          rcases hcs with h1 | ⟨h1, h2⟩
          all_goals
            go_wp2_with fail
            go_roundg (gk - 1)
            case measure => omega
            case rel => exact ⟨i + 1, 2, by go_num, rfl, by omega, by omega, HN2'.out, HO', HC'⟩
        · have h1 : ¬ t < 0 := by unfold tbad at htb; omega
          have h2 : ¬ 15482880 < t := by unfold tbad at htb; omega
          have HN2' := hide (show Wt wt (okT ts (i + 1)) from by
            rcases HOK with ⟨k1, k2⟩ | ⟨k1, k2⟩
            · exact .inl ⟨k1, HTS.out.2 ⟨k2, htb⟩⟩
            · exact .inr ⟨k1, fun k => k2 (HTS.out.1 k).1⟩)
          clear htb
          go_wp2_with fail
          go_roundg (gk - 1)
          case measure => omega
          case rel => exact ⟨i + 1, wt, by go_num, rfl, by omega, by omega, HN2'.out, HO', HC'⟩
      · have hin : i = n1 := by omega
        subst hin
        rw [mix_all (by have := HN1.out; omega)] at HO
        clear HO2 HC2 hgi
        go_wp2_with fail
        go_loopg [7, 12, 62] n2 (fun gl s7 s12 s62 wr => ∃ (q : Nat) (wt : Int) (X : List Col), s62 = .int .i64 q ∧ s7 = .int .i64 wt ∧ q ≤ n2 ∧ n2 ≤ gl + q ∧ Wt wt (okT ts i ∧ okM i M q) ∧ Hid (XR wt i X (wids (M.take q) (tcols ts))) ∧ Hid (wr.ownsRow w1.heap.size 41 3 (.slice (some ⟨g, 0, none⟩) i i) i (cols X)) ∧ Hid (Below w1.heap.size w1 wr))
        case atStart =>
          refine ⟨0, wt, tcols ts, rfl, rfl, Nat.zero_le _, by omega, ?_, hide ⟨by rw [tcols_length]; exact HN1.out.symm, fun _ => rfl⟩, HO, HC⟩
          have h0 : okM i M 0 := fun j m hj => absurd hj (by omega)
          rcases HOK with ⟨k1, k2⟩ | ⟨k1, k2⟩
          · exact .inl ⟨k1, k2, h0⟩
          · exact .inr ⟨k1, fun k => k2 k.1⟩
        case round =>
          clear HO HC HOK
          obtain ⟨q, wt, X, rfl, rfl, hq, hgq, HOK, HX, HO, HC⟩ := hrel
          by_cases hlt2 : q < n2
          · obtain ⟨m, hm0⟩ : ∃ m, M[q]? = some m := ⟨_, List.getElem?_eq_getElem (by have := HN2.out; omega)⟩
            obtain ⟨b, off, rfl, hbB, hcs⟩ := Rds.mk ((R21.out.below HC.out).more HC.out.size) hm0
            have c0 := hcs 0 _ rfl
            have c1 := hcs 1 _ rfl
            have c2 := hcs 2 _ rfl
            have c3 := hcs 3 _ rfl
            have c4 := hcs 4 _ rfl
            have c5 := hcs 5 _ rfl
            have c6 := hcs 6 _ rfl
            have c7 := hcs 7 _ rfl
            have c8 := hcs 8 _ rfl
            have c9 := hcs 9 _ rfl
            have c10 := hcs 10 _ rfl
            have c11 := hcs 11 _ rfl
            rw [Nat.add_zero] at c0
            have i2 : ((q : Int)).toNat = q := by omega
            have i3 : (0 : Int) ≤ (q : Int) := by omega
            have i4 : (q : Int) < (n2 : Int) := by omega
            have HM := hide hm0
            have HMS := hide (okM_succ (n := i) hm0)
            have hmw := HW.out m (List.mem_of_getElem? hm0)
            have htk : M.take (q + 1) = M.take q ++ [m] := by rw [List.take_add_one, hm0]; rfl
            have HTK := hide (show wids (M.take (q + 1)) (tcols ts) = wid (wids (M.take q) (tcols ts)) m from wids_snoc M _ q m hm0)
            clear hm0 hcs htk
            by_cases hbad : m.bad i
            · have hcs : m.f < 0 ∨ (¬ m.f < 0 ∧ m.l < m.f) ∨ (¬ m.f < 0 ∧ ¬ m.l < m.f ∧ (i : Int) ≤ m.l) ∨ (¬ m.f < 0 ∧ ¬ m.l < m.f ∧ ¬ (i : Int) ≤ m.l ∧ (m.f == m.l) = true ∧ m.lf < -65536) ∨ (¬ m.f < 0 ∧ ¬ m.l < m.f ∧ ¬ (i : Int) ≤ m.l ∧ (m.f == m.l) = true ∧ ¬ m.lf < -65536 ∧ 65536 < m.rt) := by
                unfold Mk.bad at hbad
                rw [beq_iff_eq]
                omega
              have HOK2 := hide (show Wt 2 (okT ts i ∧ okM i M (q + 1)) from .inr ⟨rfl, fun k => (HMS.out.1 k.2).2 hbad⟩)
              have HOa := hide (HO.out.alloc (.cells #[.int .i64 m.c, .int .i64 m.i, .int .i64 m.s, .int .i64 m.f, .int .i64 m.l, .int .i64 m.g, .int .i64 m.a, .int .i64 m.b, .int .i64 m.lf, .int .i64 m.bt, .int .i64 m.rt, .int .i64 m.tp] 59))
              have HCa := hide (HC.out.alloc HC.out.size (.cells #[.int .i64 m.c, .int .i64 m.i, .int .i64 m.s, .int .i64 m.f, .int .i64 m.l, .int .i64 m.g, .int .i64 m.a, .int .i64 m.b, .int .i64 m.lf, .int .i64 m.bt, .int .i64 m.rt, .int .i64 m.tp] 59))
              clear hbad
              rcases hcs with h1 | ⟨h1, h2⟩ | ⟨h1, h2, h3⟩ | ⟨h1, h2, h3, h4, h5⟩ | ⟨h1, h2, h3, h4, h5, h6⟩
              all_goals
                go_wp2_with fail
                go_roundg (gk - 1)
                case measure => omega
                case rel => exact ⟨q + 1, 2, X, by go_num, rfl, by omega, by omega, HOK2.out, hide ⟨HX.out.1, fun h => by omega⟩, HOa, HCa⟩
            · have hgood : ¬ m.f < 0 ∧ ¬ m.l < m.f ∧ ¬ (i : Int) ≤ m.l ∧ (m.f < m.l ∨ (m.f = m.l ∧ ¬ m.lf < -65536 ∧ ¬ 65536 < m.rt)) := by
                unfold Mk.bad at hbad
                omega
              obtain ⟨h1, h2, h3, h4⟩ := hgood
              have HOK2 := hide (show Wt wt (okT ts i ∧ okM i M (q + 1)) from by
                rcases HOK with ⟨k1, k2⟩ | ⟨k1, k2⟩
                · exact .inl ⟨k1, k2.1, HMS.out.2 ⟨k2.2, hbad⟩⟩
                · exact .inr ⟨k1, fun k => k2 ⟨k.1, (HMS.out.1 k.2).1⟩⟩)
              have hwt : wt = 0 ∨ wt = 2 := by
                rcases HOK with ⟨k1, -⟩ | ⟨k1, -⟩
                · exact .inl k1
                · exact .inr k1
              clear hbad HOK
              rcases h4 with h4 | ⟨h4, h5, h6⟩
              · have e1 : (m.f == m.l) = false := by rw [beq_eq_false_iff_ne]; omega
                have HOa := hide (HO.out.alloc (.cells #[.int .i64 m.c, .int .i64 m.i, .int .i64 m.s, .int .i64 m.f, .int .i64 m.l, .int .i64 m.g, .int .i64 m.a, .int .i64 m.b, .int .i64 m.lf, .int .i64 m.bt, .int .i64 m.rt, .int .i64 m.tp] 59))
                have HCa := hide (HC.out.alloc HC.out.size (.cells #[.int .i64 m.c, .int .i64 m.i, .int .i64 m.s, .int .i64 m.f, .int .i64 m.l, .int .i64 m.g, .int .i64 m.a, .int .i64 m.b, .int .i64 m.lf, .int .i64 m.bt, .int .i64 m.rt, .int .i64 m.tp] 59))
                have HX2 := hide (show XR wt i X (wids (M.take (q + 1)) (tcols ts)) from ⟨HX.out.1, fun h => by rw [HTK.out, wid_two (by omega)]; exact HX.out.2 h⟩)
                rcases hwt with rfl | rfl
                all_goals
                  go_wp2_with fail
                  go_roundg (gk - 1)
                  case measure => omega
                  case rel => exact ⟨q + 1, _, X, by go_num, rfl, by omega, by omega, HOK2.out, HX2, HOa, HCa⟩
              · obtain ⟨k, hk⟩ : ∃ k : Nat, m.f = k := ⟨m.f.toNat, by omega⟩
                have hl : m.l = k := by omega
                have hki : k < i := by omega
                rw [hk] at c3 h1 h2
                rw [hl] at c4 h2 h3
                have HOa := hide (HO.out.alloc (.cells #[.int .i64 m.c, .int .i64 m.i, .int .i64 m.s, .int .i64 (k : Int), .int .i64 (k : Int), .int .i64 m.g, .int .i64 m.a, .int .i64 m.b, .int .i64 m.lf, .int .i64 m.bt, .int .i64 m.rt, .int .i64 m.tp] 59))
                have HCa := hide (HC.out.alloc HC.out.size (.cells #[.int .i64 m.c, .int .i64 m.i, .int .i64 m.s, .int .i64 (k : Int), .int .i64 (k : Int), .int .i64 m.g, .int .i64 m.a, .int .i64 m.b, .int .i64 m.lf, .int .i64 m.bt, .int .i64 m.rt, .int .i64 m.tp] 59))
                rcases hwt with rfl | rfl
                · obtain ⟨cc, hcc⟩ : ∃ cc, X[k]? = some cc := ⟨_, List.getElem?_eq_getElem (by have := HX.out.1; omega)⟩
                  obtain ⟨b2, off2, e1, hgl, d0, d1, -⟩ := (Rds.own HO.out).col hcc
                  simp only [Option.some.injEq, Addr.mk.injEq, and_true] at e1
                  obtain ⟨rfl, rfl⟩ := e1
                  rw [Nat.zero_add] at d0 d1
                  obtain ⟨x, hx⟩ : ∃ x, x = max cc.l (-m.lf) := ⟨_, rfl⟩
                  obtain ⟨y, hy⟩ : ∃ y, y = max cc.r m.rt := ⟨_, rfl⟩
                  have HX2 := hide (show XR 0 i (X.set k ⟨x, y, cc.t⟩) (wids (M.take (q + 1)) (tcols ts)) from ⟨by rw [List.length_set]; exact HX.out.1, fun _ => by
                    rw [HTK.out, ← HX.out.2 rfl, wid_one (c := cc) h4 (by rw [hk]; simpa using hcc), hk, hx, hy]; rfl⟩)
                  have ba := (Below.refl wr.heap.size wr).alloc (Nat.le_refl _) (.cells #[.int .i64 m.c, .int .i64 m.i, .int .i64 m.s, .int .i64 (k : Int), .int .i64 (k : Int), .int .i64 m.g, .int .i64 m.a, .int .i64 m.b, .int .i64 m.lf, .int .i64 m.bt, .int .i64 m.rt, .int .i64 m.tp] 59)
                  have HA3 := hide (show (wr.alloc (.cells #[.int .i64 m.c, .int .i64 m.i, .int .i64 m.s, .int .i64 (k : Int), .int .i64 (k : Int), .int .i64 m.g, .int .i64 m.a, .int .i64 m.b, .int .i64 m.lf, .int .i64 m.bt, .int .i64 m.rt, .int .i64 m.tp] 59)).cell? ⟨wr.heap.size, 3, none⟩ = some (.int .i64 (k : Int)) by simp [go_sem])
                  have HA8 := hide (show (wr.alloc (.cells #[.int .i64 m.c, .int .i64 m.i, .int .i64 m.s, .int .i64 (k : Int), .int .i64 (k : Int), .int .i64 m.g, .int .i64 m.a, .int .i64 m.b, .int .i64 m.lf, .int .i64 m.bt, .int .i64 m.rt, .int .i64 m.tp] 59)).cell? ⟨wr.heap.size, 8, none⟩ = some (.int .i64 m.lf) by simp [go_sem])
                  have HA10 := hide (show (wr.alloc (.cells #[.int .i64 m.c, .int .i64 m.i, .int .i64 m.s, .int .i64 (k : Int), .int .i64 (k : Int), .int .i64 m.g, .int .i64 m.a, .int .i64 m.b, .int .i64 m.lf, .int .i64 m.bt, .int .i64 m.rt, .int .i64 m.tp] 59)).cell? ⟨wr.heap.size, 10, none⟩ = some (.int .i64 m.rt) by simp [go_sem])
                  have HD0 := hide ((ba.cell (p := ⟨g, k * 3, none⟩) hgl).trans d0)
                  have HD1 := hide ((ba.cell (p := ⟨g, k * 3 + 1, none⟩) hgl).trans d1)
                  have HF0 := hide ((ba.frozen (p := ⟨g, k * 3, none⟩) hgl).trans (World.ownsRow.frozenAt HO.out (k * 3)))
                  have HF1 := hide ((ba.frozen (p := ⟨g, k * 3 + 1, none⟩) hgl).trans (World.ownsRow.frozenAt HO.out (k * 3 + 1)))
                  have HO3 := hide (own_wide HOa.out hcc x y)
                  have HC3 := hide (Below.drew ((HCa.out.setCell (p := ⟨g, k * 3, none⟩) hgw (.int .i64 x)).setCell (p := ⟨g, k * 3 + 1, none⟩) hgw (.int .i64 y)))
                  clear ba d0 d1
                  have hx' := hx.symm
                  have hy' := hy.symm
                  have j1 : IntKind.i64.wrap (-m.lf) = -m.lf := IntWalk.i64_in _ (by omega)
                  have j2 : ((k : Int)).toNat = k := by omega
                  have j3 : (0 : Int) ≤ (k : Int) := by omega
                  have j4 : (k : Int) < (i : Int) := by omega
                  clear hx hy hcc HOa HCa h4 hk hl
                  go_upto_region 20 with fail
                  clear c0 c1 c2 c3 c4 c5 c6 c7 c8 c9 c10 c11
                  have hgp : g ≠ wr.heap.size := by omega
                  have hpg : wr.heap.size ≠ g := by omega
                  generalize wr.alloc (.cells #[.int .i64 m.c, .int .i64 m.i, .int .i64 m.s, .int .i64 (k : Int), .int .i64 (k : Int), .int .i64 m.g, .int .i64 m.a, .int .i64 m.b, .int .i64 m.lf, .int .i64 m.bt, .int .i64 m.rt, .int .i64 m.tp] 59) = wa at HA3 HA8 HA10 HD0 HD1 HF0 HF1 HO3 HC3 ⊢
                  generalize wr.heap.size = pm at HA3 HA8 HA10 hgp hpg hgl hbB ⊢
                  have HO4 := hide (show ((wa.drew.setCell ⟨g, k * 3, none⟩ (.int .i64 x)).setCell ⟨g, k * 3 + 1, none⟩ (.int .i64 y)).ownsRow w1.heap.size 41 3 (.slice (some ⟨g, 0, none⟩) i i) i (cols (X.set k ⟨x, y, cc.t⟩)) from HO3.out)
                  have HC4 := hide (show Below w1.heap.size w1 ((wa.drew.setCell ⟨g, k * 3, none⟩ (.int .i64 x)).setCell ⟨g, k * 3 + 1, none⟩ (.int .i64 y)) from HC3.out)
                  have HSd := hide (show wa.drew.cell? ⟨pm, 3, none⟩ = some (.int .i64 (k : Int)) ∧ wa.drew.cell? ⟨pm, 8, none⟩ = some (.int .i64 m.lf) ∧ wa.drew.cell? ⟨pm, 10, none⟩ = some (.int .i64 m.rt) from ⟨HA3.out, HA8.out, HA10.out⟩)
                  have HD0d := hide (show wa.drew.cell? ⟨g, k * 3, none⟩ = some (.int .i64 cc.l) from HD0.out)
                  have HD1d := hide (show wa.drew.cell? ⟨g, k * 3 + 1, none⟩ = some (.int .i64 cc.r) from HD1.out)
                  have HF0d := hide (show wa.drew.frozen? ⟨g, k * 3, none⟩ = false from HF0.out)
                  have HF1d := hide (show wa.drew.frozen? ⟨g, k * 3 + 1, none⟩ = false from HF1.out)
                  clear HA3 HA8 HA10 HD0 HD1 HF0 HF1 HO3 HC3
                  refine wp_region_noPanic ?_
                  refine wp_region_held_drew (S := fun w' => w'.cell? ⟨pm, 3, none⟩ = some (.int .i64 (k : Int)) ∧ w'.cell? ⟨pm, 8, none⟩ = some (.int .i64 m.lf) ∧ w'.cell? ⟨pm, 10, none⟩ = some (.int .i64 m.rt)) (by kernel_rfl) HSd.out (fun hHeld => ?_)
                  generalize wa.drew = wd at HO4 HC4 HSd HD0d HD1d HF0d HF1d hHeld ⊢
                  have d0 := HD0d.out
                  have d1 := HD1d.out
                  have f0 := HF0d.out
                  have f1 := HF1d.out
                  refine hand_yes (i := 0) (v := ?_) rfl (by kernel_rfl) (by kernel_rfl) (by kernel_rfl) (fun _ _ _ h => h) (by rfl) ?_ (by assumption) ?_
                  rotate_left
                  · intro w hSw
                    (try dsimp only at hSw)
                    go_simp
                    all_goals with_reducible rfl
                  try simp only [Act.put, List.setIfInBounds_toArray, List.set_cons_zero, List.set_cons_succ]
                  refine hand_yes (i := 1) (v := ?_) rfl (by kernel_rfl) (by kernel_rfl) (by kernel_rfl) (fun _ _ _ h => h) (by rfl) ?_ (by assumption) ?_
                  rotate_left
                  · intro w hSw
                    (try dsimp only at hSw)
                    go_simp
                    all_goals with_reducible rfl
                  try simp only [Act.put, List.setIfInBounds_toArray, List.set_cons_zero, List.set_cons_succ]
                  refine hand_yes (i := 2) (v := ?_) rfl (by kernel_rfl) (by kernel_rfl) (by kernel_rfl) (fun _ _ _ h => h) (by rfl) ?_ (by assumption) ?_
                  rotate_left
                  · intro w hSw
                    (try dsimp only at hSw)
                    go_simp
                    all_goals with_reducible rfl
                  try simp only [Act.put, List.setIfInBounds_toArray, List.set_cons_zero, List.set_cons_succ]
                  refine hand_yes (i := 3) (v := ?_) rfl (by kernel_rfl) (by kernel_rfl) (by kernel_rfl) (fun _ _ _ h => h) (by rfl) ?_ (by assumption) ?_
                  rotate_left
                  · intro w hSw
                    (try dsimp only at hSw)
                    go_simp
                    all_goals with_reducible rfl
                  try simp only [Act.put, List.setIfInBounds_toArray, List.set_cons_zero, List.set_cons_succ]
                  refine hand_yes (i := 4) (v := ?_) rfl (by kernel_rfl) (by kernel_rfl) (by kernel_rfl) (fun _ _ _ h => h) (by rfl) ?_ (by assumption) ?_
                  rotate_left
                  · intro w hSw
                    (try dsimp only at hSw)
                    go_simp
                    all_goals with_reducible rfl
                  try simp only [Act.put, List.setIfInBounds_toArray, List.set_cons_zero, List.set_cons_succ]
                  refine hand_yes (i := 5) (v := ?_) rfl (by kernel_rfl) (by kernel_rfl) (by kernel_rfl) (fun _ _ _ h => h) (by rfl) ?_ (by assumption) ?_
                  rotate_left
                  · intro w hSw
                    (try dsimp only at hSw)
                    go_simp
                    all_goals with_reducible rfl
                  try simp only [Act.put, List.setIfInBounds_toArray, List.set_cons_zero, List.set_cons_succ]
                  refine hand_yes (i := 6) (v := ?_) rfl (by kernel_rfl) (by kernel_rfl) (by kernel_rfl) (fun _ _ _ h => h) (by rfl) ?_ (by assumption) ?_
                  rotate_left
                  · intro w hSw
                    (try dsimp only at hSw)
                    go_simp
                    all_goals with_reducible rfl
                  try simp only [Act.put, List.setIfInBounds_toArray, List.set_cons_zero, List.set_cons_succ]
                  refine hand_yes (i := 7) (v := ?_) rfl (by kernel_rfl) (by kernel_rfl) (by kernel_rfl) (fun _ _ _ h => h) (by rfl) ?_ (by assumption) ?_
                  rotate_left
                  · intro w hSw
                    (try dsimp only at hSw)
                    go_simp
                    all_goals with_reducible rfl
                  try simp only [Act.put, List.setIfInBounds_toArray, List.set_cons_zero, List.set_cons_succ]
                  refine hand_yes (i := 8) (v := ?_) rfl (by kernel_rfl) (by kernel_rfl) (by kernel_rfl) (fun _ _ _ h => h) (by rfl) ?_ (by assumption) ?_
                  rotate_left
                  · intro w hSw
                    (try dsimp only at hSw)
                    go_simp
                    all_goals with_reducible rfl
                  try simp only [Act.put, List.setIfInBounds_toArray, List.set_cons_zero, List.set_cons_succ]
                  refine hand_yes (i := 9) (v := ?_) rfl (by kernel_rfl) (by kernel_rfl) (by kernel_rfl) (fun _ _ _ h => h) (by rfl) ?_ (by assumption) ?_
                  rotate_left
                  · intro w hSw
                    (try dsimp only at hSw)
                    go_simp
                    all_goals with_reducible rfl
                  try simp only [Act.put, List.setIfInBounds_toArray, List.set_cons_zero, List.set_cons_succ]
                  refine hand_yes (i := 10) (v := ?_) rfl (by kernel_rfl) (by kernel_rfl) (by kernel_rfl) (fun _ _ _ h => h) (by rfl) ?_ (by assumption) ?_
                  rotate_left
                  · intro w hSw
                    (try dsimp only at hSw)
                    go_simp
                    all_goals with_reducible rfl
                  try simp only [Act.put, List.setIfInBounds_toArray, List.set_cons_zero, List.set_cons_succ]
                  refine hand_yes (i := 12) (v := ?_) rfl (by kernel_rfl) (by kernel_rfl) (by kernel_rfl) (fun _ _ _ h => h) (by rfl) ?_ (by assumption) ?_
                  rotate_left
                  · intro w hSw
                    (try dsimp only at hSw)
                    go_simp
                    all_goals with_reducible rfl
                  try simp only [Act.put, List.setIfInBounds_toArray, List.set_cons_zero, List.set_cons_succ]
                  refine hand_yes (i := 13) (v := ?_) rfl (by kernel_rfl) (by kernel_rfl) (by kernel_rfl) (fun _ _ _ h => h) (by rfl) ?_ (by assumption) ?_
                  rotate_left
                  · intro w hSw
                    (try dsimp only at hSw)
                    go_simp
                    all_goals with_reducible rfl
                  try simp only [Act.put, List.setIfInBounds_toArray, List.set_cons_zero, List.set_cons_succ]
                  refine hand_yes (i := 14) (v := ?_) rfl (by kernel_rfl) (by kernel_rfl) (by kernel_rfl) (fun _ _ _ h => h) (by rfl) ?_ (by assumption) ?_
                  rotate_left
                  · intro w hSw
                    (try dsimp only at hSw)
                    go_simp
                    all_goals with_reducible rfl
                  try simp only [Act.put, List.setIfInBounds_toArray, List.set_cons_zero, List.set_cons_succ]
                  refine hand_yes (i := 15) (v := ?_) rfl (by kernel_rfl) (by kernel_rfl) (by kernel_rfl) (fun _ _ _ h => h) (by rfl) ?_ (by assumption) ?_
                  rotate_left
                  · intro w hSw
                    (try dsimp only at hSw)
                    go_simp
                    all_goals with_reducible rfl
                  try simp only [Act.put, List.setIfInBounds_toArray, List.set_cons_zero, List.set_cons_succ]
                  refine hand_yes (i := 17) (v := ?_) rfl (by kernel_rfl) (by kernel_rfl) (by kernel_rfl) (fun _ _ _ h => h) (by rfl) ?_ (by assumption) ?_
                  rotate_left
                  · intro w hSw
                    (try dsimp only at hSw)
                    go_simp
                    all_goals with_reducible rfl
                  try simp only [Act.put, List.setIfInBounds_toArray, List.set_cons_zero, List.set_cons_succ]
                  refine hand_yes (i := 18) (v := ?_) rfl (by kernel_rfl) (by kernel_rfl) (by kernel_rfl) (fun _ _ _ h => h) (by rfl) ?_ (by assumption) ?_
                  rotate_left
                  · intro w hSw
                    (try dsimp only at hSw)
                    go_simp
                    all_goals with_reducible rfl
                  try simp only [Act.put, List.setIfInBounds_toArray, List.set_cons_zero, List.set_cons_succ]
                  refine hand_yes (i := 19) (v := ?_) rfl (by kernel_rfl) (by kernel_rfl) (by kernel_rfl) (fun _ _ _ h => h) (by rfl) ?_ (by assumption) ?_
                  rotate_left
                  · intro w hSw
                    (try dsimp only at hSw)
                    go_simp
                    all_goals with_reducible rfl
                  try simp only [Act.put, List.setIfInBounds_toArray, List.set_cons_zero, List.set_cons_succ]
                  refine hand_yes (i := 20) (v := ?_) rfl (by kernel_rfl) (by kernel_rfl) (by kernel_rfl) (fun _ _ _ h => h) (by rfl) ?_ (by assumption) ?_
                  rotate_left
                  · intro w hSw
                    (try dsimp only at hSw)
                    go_simp
                    all_goals with_reducible rfl
                  try simp only [Act.put, List.setIfInBounds_toArray, List.set_cons_zero, List.set_cons_succ]
                  refine hand_yes (i := 21) (v := ?_) rfl (by kernel_rfl) (by kernel_rfl) (by kernel_rfl) (fun _ _ _ h => h) (by rfl) ?_ (by assumption) ?_
                  rotate_left
                  · intro w hSw
                    (try dsimp only at hSw)
                    go_simp
                    all_goals with_reducible rfl
                  try simp only [Act.put, List.setIfInBounds_toArray, List.set_cons_zero, List.set_cons_succ]
                  refine hand_yes (i := 23) (v := ?_) rfl (by kernel_rfl) (by kernel_rfl) (by kernel_rfl) (fun _ _ _ h => h) (by rfl) ?_ (by assumption) ?_
                  rotate_left
                  · intro w hSw
                    (try dsimp only at hSw)
                    go_simp
                    all_goals with_reducible rfl
                  try simp only [Act.put, List.setIfInBounds_toArray, List.set_cons_zero, List.set_cons_succ]
                  refine hand_yes (i := 24) (v := ?_) rfl (by kernel_rfl) (by kernel_rfl) (by kernel_rfl) (fun _ _ _ h => h) (by rfl) ?_ (by assumption) ?_
                  rotate_left
                  · intro w hSw
                    (try dsimp only at hSw)
                    go_simp
                    all_goals with_reducible rfl
                  try simp only [Act.put, List.setIfInBounds_toArray, List.set_cons_zero, List.set_cons_succ]
                  refine hand_yes (i := 25) (v := ?_) rfl (by kernel_rfl) (by kernel_rfl) (by kernel_rfl) (fun _ _ _ h => h) (by rfl) ?_ (by assumption) ?_
                  rotate_left
                  · intro w hSw
                    (try dsimp only at hSw)
                    go_simp
                    all_goals with_reducible rfl
                  try simp only [Act.put, List.setIfInBounds_toArray, List.set_cons_zero, List.set_cons_succ]
                  refine hand_two (i := 11) (i' := 22) rfl rfl (by kernel_rfl) (fun K hK => ?_) (fun K hK => ?_)
                  · go_simp
                    refine hK.out _ _ hHeld (fun hHeld2 => ?_)
                    clear hK K hHeld
                    have hHeld := hHeld2
                    clear hHeld2
                    try simp only [Act.put, List.setIfInBounds_toArray, List.set_cons_zero, List.set_cons_succ]
                    refine hand_yes (i := 16) (v := ?_) rfl (by kernel_rfl) (by kernel_rfl) (by kernel_rfl) (fun _ _ _ h => h) (by rfl) ?_ (by assumption) ?_
                    rotate_left
                    · intro w hSw
                      (try dsimp only at hSw)
                      go_simp
                      all_goals with_reducible rfl
                    try simp only [Act.put, List.setIfInBounds_toArray, List.set_cons_zero, List.set_cons_succ]
                    refine hand_call (i := 22) rfl (by kernel_rfl) (fun K hK => ?_)
                    go_simp
                    refine hK.out _ _ ?_ (fun hHeld2 => ?_)
                    · exact hHeld
                    clear hK K hHeld
                    have hHeld := hHeld2
                    clear hHeld2
                    try simp only [Act.put, List.setIfInBounds_toArray, List.set_cons_zero, List.set_cons_succ]
                    refine hand_yes (i := 26) (v := ?_) rfl (by kernel_rfl) (by kernel_rfl) (by kernel_rfl) (fun _ _ _ h => h) (by rfl) ?_ (by assumption) ?_
                    rotate_left
                    · intro w hSw
                      (try dsimp only at hSw)
                      go_simp
                      all_goals with_reducible rfl
                    try simp only [Act.put, List.setIfInBounds_toArray, List.set_cons_zero, List.set_cons_succ]
                    refine hand_yes (i := 27) (v := ?_) rfl (by kernel_rfl) (by kernel_rfl) (by kernel_rfl) (fun _ _ _ h => h) (by rfl) ?_ (by assumption) ?_
                    rotate_left
                    · intro w hSw
                      (try dsimp only at hSw)
                      go_simp
                      all_goals with_reducible rfl
                    try simp only [Act.put, List.setIfInBounds_toArray, List.set_cons_zero, List.set_cons_succ]
                    refine hand_yes (i := 28) (v := ?_) rfl (by kernel_rfl) (by kernel_rfl) (by kernel_rfl) (fun _ _ _ h => h) (by rfl) ?_ (by assumption) ?_
                    rotate_left
                    · intro w hSw
                      (try dsimp only at hSw)
                      go_simp
                      all_goals with_reducible rfl
                    try simp only [Act.put, List.setIfInBounds_toArray, List.set_cons_zero, List.set_cons_succ]
                    refine hand_call (i := 29) rfl (by kernel_rfl) (fun K hK => ?_)
                    go_simp
                    refine hK.out _ _ ?_ (fun hHeld2 => ?_)
                    · exact (by obtain ⟨s1, s2, s3⟩ := hHeld; exact ⟨by rw [World.cell?_setCell_other _ _ _ _ (by intro e; injection e with e; omega)]; exact s1, by rw [World.cell?_setCell_other _ _ _ _ (by intro e; injection e with e; omega)]; exact s2, by rw [World.cell?_setCell_other _ _ _ _ (by intro e; injection e with e; omega)]; exact s3⟩)
                    clear hK K hHeld
                    have hHeld := hHeld2
                    clear hHeld2
                    try simp only [Act.put, List.setIfInBounds_toArray, List.set_cons_zero, List.set_cons_succ]
                    refine hand_yes (i := 30) (v := ?_) rfl (by kernel_rfl) (by kernel_rfl) (by kernel_rfl) (fun _ _ _ h => h) (by rfl) ?_ (by assumption) ?_
                    rotate_left
                    · intro w hSw
                      (try dsimp only at hSw)
                      go_simp
                      all_goals with_reducible rfl
                    try simp only [Act.put, List.setIfInBounds_toArray, List.set_cons_zero, List.set_cons_succ]
                    refine hand_yes (i := 31) (v := ?_) rfl (by kernel_rfl) (by kernel_rfl) (by kernel_rfl) (fun _ _ _ h => h) (by rfl) ?_ (by assumption) ?_
                    rotate_left
                    · intro w hSw
                      (try dsimp only at hSw)
                      go_simp
                      all_goals with_reducible rfl
                    try simp only [Act.put, List.setIfInBounds_toArray, List.set_cons_zero, List.set_cons_succ]
                    refine hand_call (i := 32) rfl (by kernel_rfl) (fun K hK => ?_)
                    go_simp
                    refine hK.out _ _ ?_ (fun hHeld2 => ?_)
                    · exact (by obtain ⟨s1, s2, s3⟩ := hHeld; exact ⟨by rw [World.cell?_setCell_other _ _ _ _ (by intro e; injection e with e; omega)]; exact s1, by rw [World.cell?_setCell_other _ _ _ _ (by intro e; injection e with e; omega)]; exact s2, by rw [World.cell?_setCell_other _ _ _ _ (by intro e; injection e with e; omega)]; exact s3⟩)
                    clear hK K hHeld
                    have hHeld := hHeld2
                    clear hHeld2
                    try simp only [Act.put, List.setIfInBounds_toArray, List.set_cons_zero, List.set_cons_succ]
                    refine wpAnyH_done (by kernel_rfl) ?_ _
                    refine NoPanic.normal ?_
                    go_wp2_with fail
                    go_roundg (gk - 1)
                    case measure => omega
                    case rel => exact ⟨q + 1, 0, X.set k ⟨x, y, cc.t⟩, by go_num, rfl, by omega, by omega, HOK2.out, HX2, HO4, HC4⟩
                  · go_simp
                    refine hK.out _ _ hHeld (fun hHeld2 => ?_)
                    clear hK K hHeld
                    have hHeld := hHeld2
                    clear hHeld2
                    try simp only [Act.put, List.setIfInBounds_toArray, List.set_cons_zero, List.set_cons_succ]
                    refine hand_yes (i := 26) (v := ?_) rfl (by kernel_rfl) (by kernel_rfl) (by kernel_rfl) (fun _ _ _ h => h) (by rfl) ?_ (by assumption) ?_
                    rotate_left
                    · intro w hSw
                      (try dsimp only at hSw)
                      go_simp
                      all_goals with_reducible rfl
                    try simp only [Act.put, List.setIfInBounds_toArray, List.set_cons_zero, List.set_cons_succ]
                    refine hand_call (i := 11) rfl (by kernel_rfl) (fun K hK => ?_)
                    go_simp
                    refine hK.out _ _ ?_ (fun hHeld2 => ?_)
                    · exact hHeld
                    clear hK K hHeld
                    have hHeld := hHeld2
                    clear hHeld2
                    try simp only [Act.put, List.setIfInBounds_toArray, List.set_cons_zero, List.set_cons_succ]
                    refine hand_yes (i := 16) (v := ?_) rfl (by kernel_rfl) (by kernel_rfl) (by kernel_rfl) (fun _ _ _ h => h) (by rfl) ?_ (by assumption) ?_
                    rotate_left
                    · intro w hSw
                      (try dsimp only at hSw)
                      go_simp
                      all_goals with_reducible rfl
                    try simp only [Act.put, List.setIfInBounds_toArray, List.set_cons_zero, List.set_cons_succ]
                    refine hand_yes (i := 27) (v := ?_) rfl (by kernel_rfl) (by kernel_rfl) (by kernel_rfl) (fun _ _ _ h => h) (by rfl) ?_ (by assumption) ?_
                    rotate_left
                    · intro w hSw
                      (try dsimp only at hSw)
                      go_simp
                      all_goals with_reducible rfl
                    try simp only [Act.put, List.setIfInBounds_toArray, List.set_cons_zero, List.set_cons_succ]
                    refine hand_yes (i := 28) (v := ?_) rfl (by kernel_rfl) (by kernel_rfl) (by kernel_rfl) (fun _ _ _ h => h) (by rfl) ?_ (by assumption) ?_
                    rotate_left
                    · intro w hSw
                      (try dsimp only at hSw)
                      go_simp
                      all_goals with_reducible rfl
                    try simp only [Act.put, List.setIfInBounds_toArray, List.set_cons_zero, List.set_cons_succ]
                    refine hand_call (i := 29) rfl (by kernel_rfl) (fun K hK => ?_)
                    go_simp
                    refine hK.out _ _ ?_ (fun hHeld2 => ?_)
                    · exact (by obtain ⟨s1, s2, s3⟩ := hHeld; exact ⟨by rw [World.cell?_setCell_other _ _ _ _ (by intro e; injection e with e; omega)]; exact s1, by rw [World.cell?_setCell_other _ _ _ _ (by intro e; injection e with e; omega)]; exact s2, by rw [World.cell?_setCell_other _ _ _ _ (by intro e; injection e with e; omega)]; exact s3⟩)
                    clear hK K hHeld
                    have hHeld := hHeld2
                    clear hHeld2
                    try simp only [Act.put, List.setIfInBounds_toArray, List.set_cons_zero, List.set_cons_succ]
                    refine hand_yes (i := 30) (v := ?_) rfl (by kernel_rfl) (by kernel_rfl) (by kernel_rfl) (fun _ _ _ h => h) (by rfl) ?_ (by assumption) ?_
                    rotate_left
                    · intro w hSw
                      (try dsimp only at hSw)
                      go_simp
                      all_goals with_reducible rfl
                    try simp only [Act.put, List.setIfInBounds_toArray, List.set_cons_zero, List.set_cons_succ]
                    refine hand_yes (i := 31) (v := ?_) rfl (by kernel_rfl) (by kernel_rfl) (by kernel_rfl) (fun _ _ _ h => h) (by rfl) ?_ (by assumption) ?_
                    rotate_left
                    · intro w hSw
                      (try dsimp only at hSw)
                      go_simp
                      all_goals with_reducible rfl
                    try simp only [Act.put, List.setIfInBounds_toArray, List.set_cons_zero, List.set_cons_succ]
                    refine hand_call (i := 32) rfl (by kernel_rfl) (fun K hK => ?_)
                    go_simp
                    refine hK.out _ _ ?_ (fun hHeld2 => ?_)
                    · exact (by obtain ⟨s1, s2, s3⟩ := hHeld; exact ⟨by rw [World.cell?_setCell_other _ _ _ _ (by intro e; injection e with e; omega)]; exact s1, by rw [World.cell?_setCell_other _ _ _ _ (by intro e; injection e with e; omega)]; exact s2, by rw [World.cell?_setCell_other _ _ _ _ (by intro e; injection e with e; omega)]; exact s3⟩)
                    clear hK K hHeld
                    have hHeld := hHeld2
                    clear hHeld2
                    try simp only [Act.put, List.setIfInBounds_toArray, List.set_cons_zero, List.set_cons_succ]
                    refine wpAnyH_done (by kernel_rfl) ?_ _
                    refine NoPanic.normal ?_
                    go_wp2_with fail
                    go_roundg (gk - 1)
                    case measure => omega
                    case rel => exact ⟨q + 1, 0, X.set k ⟨x, y, cc.t⟩, by go_num, rfl, by omega, by omega, HOK2.out, HX2, HO4, HC4⟩
                · clear h4 hk hl
                  go_wp2_with fail
                  go_roundg (gk - 1)
                  case measure => omega
                  case rel => exact ⟨q + 1, 2, X, by go_num, rfl, by omega, by omega, HOK2.out, hide ⟨HX.out.1, fun h => by omega⟩, HOa, HCa⟩
          · have hqn : q = n2 := by omega
            subst hqn
            have hall : M.take q = M := List.take_of_length_le (by have := HN2.out; omega)
            rw [hall] at HX
            have hok := ok_all (ts := ts) (M := M) (i := i) (q := q) (by have := HN1.out; omega) (by have := HN2.out; omega)
            rw [← HN1.out] at hok
            rcases HOK with ⟨rfl, k2⟩ | ⟨rfl, k2⟩
            · rcases HV.out with ⟨h, -⟩ | ⟨-, rfl, A5, c5, rfl, hr5⟩
              · exact absurd (hok.1 k2) h
              · have R5 := hide ((hr5.below HC.out).more HC.out.size)
                have RX := hide (Rds.own HO.out)
                rw [HX.out.2 rfl] at RX
                clear hok k2 hr5 HV hall hgq
                go_wp2_with fail
                refine (same_true A5 (some ⟨g, 0, none⟩) i c5 i _ _ (by rw [wids_length, tcols_length]; exact HN1.out) (by omega) R5.out RX.out).mono ?_
                rintro e w5 ⟨rfl, hb⟩
                have HC5 := hide (HC.out.trans (hb.mono HC.out.size))
                clear hb
                go_wp2_with fail
                go_ret
                exact ⟨rfl, HB1.out.trans (HC5.out.mono HB1.out.size)⟩
            · rcases HV.out with ⟨-, rfl, rfl⟩ | ⟨h, -⟩
              · clear hok k2 HV hall hgq
                go_wp2_with fail
                go_ret
                exact ⟨by first | rfl | simp, HB1.out.trans (HC.out.mono HB1.out.size)⟩
              · exact absurd (hok.2 h) k2

end Go.Proofs.Ytajkmlejklgbbaa
