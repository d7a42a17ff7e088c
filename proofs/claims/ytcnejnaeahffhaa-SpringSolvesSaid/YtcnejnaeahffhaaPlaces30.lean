/- spring.Places; the law SpringPlaces, walked. -/
import Derived.Test.YtcnejnaeahffhaaRef30
import Derived.Test.YtcnejnaeahffhaaDec30
namespace Go.Proofs.Ytcnejnaeahffhaa
open Go.RowKit

def badL (x : Int) : Prop := x < 0 ∨ 67108864 < x
instance (x : Int) : Decidable (badL x) := by unfold badL; exact inferInstance
def badP (l : List Int) (from_ : Int) : Prop := (from_ < -67108864 ∨ 67108864 < from_) ∨ ∃ x ∈ l, badL x

theorem psum_bnd {l : List Int} (h : ∀ x ∈ l, ¬ badL x) : 0 ≤ l.sum ∧ l.sum ≤ 67108864 * l.length := by
  induction l with
  | nil => simp
  | cons a l ih =>
    have h1 := h a (by simp)
    unfold badL at h1
    have h2 := ih fun x hx => h x (by simp [hx])
    rw [List.sum_cons, List.length_cons]
    omega
theorem Rds.int {w : World} {B : Nat} {A : Option Addr} {l : List Int} (h : Rds w B A (l.map (Value.int .i64))) {k : Nat} {x : Int} (hk : l[k]? = some x) :
    ∃ b off, A = some ⟨b, off, none⟩ ∧ b < B ∧ w.cell? ⟨b, off + k, none⟩ = some (.int .i64 x) := by
  obtain ⟨b, off, e, hb, hc⟩ := h.get (k := k) (by rw [List.length_map]; exact (List.getElem?_eq_some_iff.1 hk).1)
  exact ⟨b, off, e, hb, hc k _ (by rw [List.getElem?_map, hk]; rfl)⟩

theorem own_one (w : World) (x : Int) : (w.alloc (.cells #[.int .i64 x] 3)).ownsRow w.heap.size 3 1 (.slice (some ⟨w.heap.size, 0, none⟩) 1 1) 1 ([x].map (Value.int .i64)) :=
  ⟨rfl, .inr ⟨w.heap.size, 1, _, rfl, Nat.le_refl _, heap_alloc_new w _, Nat.le_refl _, by simp only [maxLen]; omega, rfl, rfl⟩⟩

set_option maxRecDepth 100000 in
set_option maxHeartbeats 2000000 in
theorem Places_any (A : Option Addr) (n c : Nat) (l : List Int) (fr : Int) (w : World) (hn : n = l.length) (hm : n ≤ 8192) (h : Rds w w.heap.size A (l.map (Value.int .i64))) :
    Calls Try.prog 30 #[.slice A n c, .int .i64 fr] w fun e w' => ((badP l fr ∧ e = .returned (.tuple #[.slice none 0 0, .int .i64 2])) ∨
      (¬ badP l fr ∧ ∃ (A' : Option Addr) (c' : Nat) (xs : List Int), e = .returned (.tuple #[.slice A' (n + 1) c', .int .i64 0]) ∧ Rds w' w'.heap.size A' (xs.map (Value.int .i64)) ∧ xs.length = n + 1 ∧ ∀ k, k ≤ n → xs[k]? = some (fr + (l.take k).sum))) ∧ Below w.heap.size w w' := by
  have HN := hide hn
  have HR := hide h
  clear hn h
  rcases (show fr < -67108864 ∨ (-67108864 ≤ fr ∧ 67108864 < fr) ∨ (-67108864 ≤ fr ∧ fr ≤ 67108864) by omega) with h1 | ⟨h1, h2⟩ | ⟨h1, h2⟩
  · have HBAD := hide (show badP l fr from .inl (.inl h1))
    go_enter Try.func30, Try.ntmps30
    go_wp2_with fail
    go_ret2
    exact ⟨.inl ⟨HBAD.out, rfl⟩, Below.refl _ _⟩
  · have HBAD := hide (show badP l fr from .inl (.inr h2))
    go_enter Try.func30, Try.ntmps30
    go_wp2_with fail
    go_ret2
    exact ⟨.inl ⟨HBAD.out, rfl⟩, Below.refl _ _⟩
  · go_enter Try.func30, Try.ntmps30
    go_wp2_with fail
    go_loopg [1, 6, 22] n (fun gk s1 v i wr => ∃ (k : Nat) (xs : List Int), k ≤ n ∧ i = .int .i64 k ∧ n ≤ gk + k ∧ s1 = .int .i64 (fr + (l.take k).sum) ∧ Hid (∀ x ∈ l.take k, ¬ badL x) ∧ xs.length = k + 1 ∧ Hid (wr.ownsRow w.heap.size 3 1 v (k + 1) (xs.map (Value.int .i64))) ∧
      Hid (∀ j, j ≤ k → xs[j]? = some (fr + (l.take j).sum)) ∧ Hid (Below w.heap.size w wr))
    case atStart =>
      refine ⟨0, [fr], Nat.zero_le _, rfl, by omega, by simp, hide (fun x hx => by simp at hx), rfl, hide (own_one w fr), hide (fun j hj => ?_), hide ((Below.refl _ w).alloc (Nat.le_refl _) _)⟩
      obtain rfl : j = 0 := by omega
      simp
    case round =>
      obtain ⟨k, xs, hk, rfl, hgk, rfl, HG, hxl, HO, HX, HB⟩ := hrel
      obtain ⟨A1, cc1, rfl, hA1, hcc1, hcc1m⟩ := own_form HO.out
      have hps := psum_bnd HG.out
      have hlk : (l.take k).length ≤ k := List.length_take_le _ _
      have hsz := HB.out.size
      by_cases hlt : k < n
      · obtain ⟨x, hx⟩ : ∃ x, l[k]? = some x := ⟨_, List.getElem?_eq_getElem (by have := HN.out; omega)⟩
        obtain ⟨b, off, rfl, hbB, c0⟩ := (Rds.on2 HR.out HB.out).int hx
        have HSS := hide (show fr + (l.take (k + 1)).sum = fr + (l.take k).sum + x by rw [List.take_add_one, hx, Option.toList_some, List.sum_append]; simp; omega)
        have HXM := hide (List.mem_of_getElem? hx)
        have HTK := hide (show ∀ y, y ∈ l.take (k + 1) → y ∈ l.take k ∨ y = x from fun y hy => by
          rw [List.take_add_one, hx, Option.toList_some] at hy
          simpa using hy)
        obtain ⟨m, hm2⟩ : ∃ m, m = fr + (l.take k).sum := ⟨_, rfl⟩
        rw [← hm2] at HSS
        rw [← hm2]
        have m0 : -67108864 ≤ m := by omega
        have m1 : m ≤ 67108864 * 8193 := by omega
        clear hx hm2 hps hlk
        rcases (show x < 0 ∨ (0 ≤ x ∧ 67108864 < x) ∨ (0 ≤ x ∧ x ≤ 67108864) by omega) with hb | ⟨hb, hb2⟩ | ⟨hb, hb2⟩
        · have HBAD := hide (show badP l fr from .inr ⟨x, HXM.out, .inl hb⟩)
          go_wp2_with fail
          go_ret2
          exact ⟨.inl ⟨HBAD.out, rfl⟩, HB.out⟩
        · have HBAD := hide (show badP l fr from .inr ⟨x, HXM.out, .inr hb2⟩)
          go_wp2_with fail
          go_ret2
          exact ⟨.inl ⟨HBAD.out, rfl⟩, HB.out⟩
        · have i1 : IntKind.i64.wrap (m + x) = m + x := IntWalk.i64_in _ (by omega)
          have HG2 := hide (show ∀ y ∈ l.take (k + 1), ¬ badL y from fun y hy => by
            rcases HTK.out y hy with hy | rfl
            · exact HG.out y hy
            · unfold badL; omega)
          have HX2 := hide (show ∀ j, j ≤ k + 1 → (xs ++ [m + x])[j]? = some (fr + (l.take j).sum) from fun j hj => by
            by_cases e : j = k + 1
            · subst e
              rw [List.getElem?_append_right (by omega), hxl, Nat.sub_self, HSS.out]; rfl
            · rw [List.getElem?_append_left (by omega)]; exact HX.out j (by omega))
          go_wp2_with (at_builtin; go_must (refine wpList_app rfl (.tmp 35) (.tmp 37) 36 rfl w.heap.size int_ty _ (k + 1) (xs.map (Value.int .i64)) rfl (HO.out.alloc _) (wr.heap.size + 1) (some ⟨wr.heap.size, 0, none⟩) 1 1 [.int .i64 (m + x)] rfl rfl ?_ (by simp; rfl) (by simp only [maxLen]; omega) (by omega) (by simp; omega) ?_); exact Rds.at_new (by simp) _ _; intro v' w3 o3 g3 b3)
          go_roundg (gk - 1)
          case measure => omega
          case rel =>
            refine ⟨k + 1, xs ++ [m + x], by omega, by go_num, by omega, by rw [HSS.out], HG2, by simp [hxl], hide (by rw [List.map_append]; exact o3), HX2, hide (grown_below (v := Value.slice A1 (k + 1) cc1) (HB.out.alloc hsz _) (HO.out.alloc _) g3 (by simp; omega))⟩
      · have hkn : k = n := by omega
        subst hkn
        have hall : l.take k = l := List.take_of_length_le (by have := HN.out; omega)
        have HNB := hide (show ¬ badP l fr from fun hb => by
          rcases hb with hb | ⟨x, hx, hb⟩
          · omega
          · exact HG.out x (by rw [hall]; exact hx) hb)
        clear hall hps
        go_wp2_with fail
        go_ret2
        exact ⟨.inr ⟨HNB.out, A1, cc1, xs, rfl, Rds.own HO.out, hxl, HX.out⟩, HB.out⟩

set_option maxRecDepth 100000 in
set_option maxHeartbeats 2000000 in
theorem places_law (A : Option Addr) (n c : Nat) (l : List Int) (fr : Int) (w : World) (hn : n = l.length) (h : Rds w w.heap.size A (l.map (Value.int .i64))) :
    Calls Try.prog 11 #[.slice A n c, .int .i64 fr] w fun e w' => e = .returned (.bool true) ∧ Below w.heap.size w w' := by
  have HN := hide hn
  have HR := hide h
  clear hn h
  rcases (show 30 < n ∨ n ≤ 30 by omega) with h30 | h30
  · go_enter Try.func11, Try.ntmps11
    go_wp2_with fail
    refine (known_any _).mono ?_
    rintro e w1 ⟨rfl, hb1⟩
    go_wp2_with fail
    refine (known_any _).mono ?_
    rintro e w2 ⟨rfl, hb2⟩
    have hb := find1_tr hb1 hb2
    clear hb1 hb2
    go_wp2_with fail
    go_ret
    exact ⟨rfl, hb⟩
  · go_enter Try.func11, Try.ntmps11
    go_wp2_with fail
    refine (known_any _).mono ?_
    rintro e w1 ⟨rfl, hb1⟩
    have HB1 := hide hb1
    clear hb1
    go_wp2_with fail
    refine (Places_any A n c l fr _ HN.out (by omega) (Rds.on2 HR.out HB1.out)).mono ?_
    rintro e w2 ⟨hres, hb2⟩
    have HB2 := hide (find1_tr HB1.out hb2)
    clear hb2 HB1
    rcases hres with ⟨hbad, rfl⟩ | ⟨hbad, A', c', xs, rfl, hr2, hxl, hxs⟩
    · have HBAD := hide hbad
      clear hbad
      rcases (show fr < -67108864 ∨ (-67108864 ≤ fr ∧ 67108864 < fr) ∨ (-67108864 ≤ fr ∧ fr ≤ 67108864) by omega) with h1 | ⟨h1, h2⟩ | ⟨h1, h2⟩
      all_goals
        go_wp2_with fail
        go_loopg [7, 8] n (fun gk s7 i wr => ∃ (k : Nat) (b : Bool), k ≤ n ∧ i = .int .i64 k ∧ n ≤ gk + k ∧ s7 = .bool b ∧ Hid (b = true ↔ badP (l.take k) fr) ∧ w2 = wr)
        case atStart =>
          refine ⟨0, _, Nat.zero_le _, rfl, by omega, rfl, hide ?_, rfl⟩
          simp [badP]
          try omega
        case round =>
          obtain ⟨k, b, hk, rfl, hgk, rfl, HG, rfl⟩ := hrel
          by_cases hlt : k < n
          · obtain ⟨x, hx⟩ : ∃ x, l[k]? = some x := ⟨_, List.getElem?_eq_getElem (by have := HN.out; omega)⟩
            obtain ⟨bb, off, rfl, hbB, c0⟩ := (Rds.on2 HR.out HB2.out).int hx
            have HTK := hide (show badP (l.take (k + 1)) fr ↔ badP (l.take k) fr ∨ badL x by
              rw [List.take_add_one, hx, Option.toList_some]
              unfold badP
              simp only [List.mem_append, List.mem_singleton]
              constructor
              · rintro (h | ⟨y, hy | rfl, hb⟩)
                · exact .inl (.inl h)
                · exact .inl (.inr ⟨y, hy, hb⟩)
                · exact .inr hb
              · rintro ((h | ⟨y, hy, hb⟩) | hb)
                · exact .inl h
                · exact .inr ⟨y, .inl hy, hb⟩
                · exact .inr ⟨x, .inr rfl, hb⟩)
            clear hx
            cases b with
            | true =>
              have HB1 := hide (HG.out.1 rfl)
              go_wp2_with fail
              go_roundg (gk - 1)
              case measure => omega
              case rel => exact ⟨k + 1, true, by omega, by go_num, by omega, rfl, hide (by rw [HTK.out]; simp [HB1.out]), rfl⟩
            | false =>
              have hnb : ¬ badP (l.take k) fr := fun hb => by have := HG.out.2 hb; cases this
              have HNB := hide hnb
              clear hnb
              rcases (show x < 0 ∨ (0 ≤ x ∧ 67108864 < x) ∨ (0 ≤ x ∧ x ≤ 67108864) by omega) with hb | ⟨hb, hb2⟩ | ⟨hb, hb2⟩
              · go_wp2_with fail
                go_roundg (gk - 1)
                case measure => omega
                case rel => exact ⟨k + 1, _, by omega, by go_num, by omega, rfl, hide (by rw [HTK.out]; simp [badL, HNB.out]; try omega), rfl⟩
              · go_wp2_with fail
                go_roundg (gk - 1)
                case measure => omega
                case rel => exact ⟨k + 1, _, by omega, by go_num, by omega, rfl, hide (by rw [HTK.out]; simp [badL, HNB.out]; try omega), rfl⟩
              · go_wp2_with fail
                go_roundg (gk - 1)
                case measure => omega
                case rel => exact ⟨k + 1, _, by omega, by go_num, by omega, rfl, hide (by rw [HTK.out]; simp [badL, HNB.out]; try omega), rfl⟩
          · have hall : l.take k = l := List.take_of_length_le (by have := HN.out; omega)
            have hbt : b = true := HG.out.2 (by rw [hall]; exact HBAD.out)
            subst hbt
            clear hall
            go_wp2_with fail
            go_ret
            exact ⟨rfl, HB2.out⟩
    · have HNB := hide (show ¬ ((fr < -67108864 ∨ 67108864 < fr) ∨ ∃ x ∈ l, badL x) from hbad)
      have hfr : ¬ (fr < -67108864 ∨ 67108864 < fr) := fun hh => HNB.out (.inl hh)
      have h1 : -67108864 ≤ fr := by omega
      have h2 : fr ≤ 67108864 := by omega
      have HR2 := hide hr2
      have HXS := hide hxs
      have HXL := hide hxl
      have hx0 := hxs 0 (by omega)
      rw [List.take_zero, List.sum_nil, Int.add_zero] at hx0
      have HX0 := hide hx0
      clear hbad hfr hr2 hxs hxl hx0
      go_wp2_with fail
      go_loopg [7, 8] n (fun gk s7 i wr => ∃ (k : Nat), k ≤ n ∧ i = .int .i64 k ∧ n ≤ gk + k ∧ s7 = .bool false ∧ w2 = wr)
      case atStart => exact ⟨0, Nat.zero_le _, rfl, by omega, by simp; omega, rfl⟩
      case round =>
        obtain ⟨k, hk, rfl, hgk, rfl, rfl⟩ := hrel
        by_cases hlt : k < n
        · obtain ⟨x, hx⟩ : ∃ x, l[k]? = some x := ⟨_, List.getElem?_eq_getElem (by have := HN.out; omega)⟩
          obtain ⟨bb, off, rfl, hbB, c0⟩ := (Rds.on2 HR.out HB2.out).int hx
          have hxb : ¬ badL x := fun hh => HNB.out (.inr ⟨x, List.mem_of_getElem? hx, hh⟩)
          unfold badL at hxb
          have hx1 : 0 ≤ x := by omega
          have hx2 : x ≤ 67108864 := by omega
          clear hx hxb
          go_wp2_with fail
          go_roundg (gk - 1)
          case measure => omega
          case rel => exact ⟨k + 1, by omega, by go_num, by omega, by simp; omega, rfl⟩
        · have hkn : k = n := by omega
          subst hkn
          obtain ⟨bx, ox, rfl, hbx, d0⟩ := HR2.out.int HX0.out
          rw [Nat.add_zero] at d0
          have n1 : IntKind.i64.wrap ((k : Int) + 1) = (k : Int) + 1 := IntWalk.i64_in _ (by omega)
          go_wp2_with fail
          go_loopg [9] k (fun gk i wr => ∃ (j : Nat), j ≤ k ∧ i = .int .i64 j ∧ k ≤ gk + j ∧ Hid (Below w2.heap.size w2 wr))
          case atStart => exact ⟨0, Nat.zero_le _, rfl, by omega, Below.refl _ _⟩
          case round =>
            obtain ⟨j, hj, rfl, hgj, HJ⟩ := hrel
            by_cases hlt2 : j < k
            · obtain ⟨x, hx⟩ : ∃ x, l[j]? = some x := ⟨_, List.getElem?_eq_getElem (by have := HN.out; omega)⟩
              obtain ⟨bb, off, rfl, hbB, c0⟩ := (Rds.on2 HR.out (find1_tr HB2.out HJ.out)).int hx
              obtain ⟨bx1, ox1, e1, -, d1⟩ := (Rds.on2 HR2.out HJ.out).int (HXS.out j (by omega))
              obtain ⟨bx2, ox2, e2, -, d2⟩ := (Rds.on2 HR2.out HJ.out).int (HXS.out (j + 1) (by omega))
              simp only [Option.some.injEq, Addr.mk.injEq, and_true] at e1 e2
              obtain ⟨rfl, rfl⟩ := e1
              obtain ⟨rfl, rfl⟩ := e2
              have hsum : fr + (l.take (j + 1)).sum = fr + (l.take j).sum + x := by rw [List.take_add_one, hx, Option.toList_some, List.sum_append]; simp; omega
              rw [hsum] at d2
              have hps := psum_bnd (l := l.take j) fun y hy hb => HNB.out (.inr ⟨y, List.mem_of_mem_take hy, hb⟩)
              have hxb : ¬ badL x := fun hh => HNB.out (.inr ⟨x, List.mem_of_getElem? hx, hh⟩)
              unfold badL at hxb
              have hlk : (l.take j).length ≤ j := List.length_take_le _ _
              obtain ⟨m, hm2⟩ : ∃ m, m = fr + (l.take j).sum := ⟨_, rfl⟩
              rw [← hm2] at d1 d2
              have i1 : IntKind.i64.wrap (m + x) = m + x := IntWalk.i64_in _ (by omega)
              have j1 : IntKind.i64.wrap (j : Int) = (j : Int) := IntWalk.i64_in _ (by omega)
              have j3 : ((j : Int)).toNat = j := by omega
              have j4 : (0 : Int) ≤ (j : Int) := by omega
              have j5 : (j : Int) < (k : Int) := by omega
              have j6 : IntKind.i64.wrap ((j : Int) + 1) = (j : Int) + 1 := IntWalk.i64_in _ (by omega)
              have j7 : ((j : Int) + 1).toNat = j + 1 := by omega
              have j8 : (0 : Int) ≤ (j : Int) + 1 := by omega
              have j9 : (j : Int) + 1 < (k : Int) + 1 := by omega
              have j10 : (j : Int) < (k : Int) + 1 := by omega
              have j11 : j < k + 1 := by omega
              have j12 : j + 1 < k + 1 := by omega
              clear hx hsum hps hxb hlk hm2
              go_wp2_with fail
              go_quiet (fail)
              go_wp2_with fail
              go_roundg (gk - 1)
              case measure => omega
              case rel => exact ⟨j + 1, by omega, by go_num, by omega, hide (below_drewN HJ.out _)⟩
            · go_wp2_with fail
              go_ret
              exact ⟨rfl, find1_tr HB2.out HJ.out⟩

theorem springPlaces_walk {w : World} (a : Sl Int) (ha : Sl.Good (fun x : Int => [.int .i64 x]) (fun _ x => (Lit.int .i64 x).wf = true) w a) (x : Int) (_ : (Lit.int .i64 x).wf = true) :
    Calls Try.prog 11 #[.slice a.A a.n a.c, .int .i64 x] w fun e w' => e = .returned (.bool true) ∧ Below w.heap.size w w' :=
  places_law a.A a.n a.c a.l x w ha.len (by rw [← flat_ints]; exact ha.rds)

end Go.Proofs.Ytcnejnaeahffhaa
