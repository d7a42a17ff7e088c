/- The law's own springs: the same list as the program's. -/
import Derived.Test.YtajkmlejklgbbaaSprB
import Derived.Test.YtajkmlejklgbbaaSortLaw
namespace Go.Proofs.Ytajkmlejklgbbaa
open Go.RowKit

theorem bk_succ (L : List Lst) (k : Nat) : bk L (k + 1) = bk L k ++ bkL L k k := by simp [bk, List.range_succ]
theorem bkL_succ (L : List Lst) (k j : Nat) : bkL L k (j + 1) = bkL L k j ++ bkF L k ((k : Int) - 1 - (j : Int)) := by simp [bkL, List.range_succ]
/-- those of one First and one Last among the first i -/
def bkT (L : List Lst) (last first : Int) (i : Nat) : List Lst := (L.take i).filter fun y => y.f == first && y.l == last
theorem bkT_zero (L : List Lst) (last first : Int) : bkT L last first 0 = [] := rfl
theorem bkT_all (L : List Lst) (last first : Int) (i : Nat) (h : L.length ≤ i) : bkT L last first i = bkF L last first := by rw [bkT, List.take_of_length_le h]; rfl
theorem bkT_no (L : List Lst) (last first : Int) (i : Nat) (y : Lst) (hy : L[i]? = some y) (h : ¬ (y.f = first ∧ y.l = last)) : bkT L last first (i + 1) = bkT L last first i := by
  rw [bkT, List.take_add_one, hy, Option.toList_some, List.filter_append]
  simp [bkT, List.filter_cons]
  intro h1 h2
  exact h ⟨h1, h2⟩
theorem bkT_yes (L : List Lst) (last first : Int) (i : Nat) (y : Lst) (hy : L[i]? = some y) (h1 : y.f = first) (h2 : y.l = last) : bkT L last first (i + 1) = bkT L last first i ++ [y] := by
  rw [bkT, List.take_add_one, hy, Option.toList_some, List.filter_append]
  simp [bkT, h1, h2]
theorem bkT_mem {L : List Lst} {last first : Int} {i : Nat} {y : Lst} (h : y ∈ bkT L last first i) : y ∈ L := List.mem_of_mem_take (List.mem_filter.1 h).1
theorem bk_mem {L : List Lst} {k : Nat} {y : Lst} (h : y ∈ bk L k) : y ∈ L := by
  simp only [bk, List.mem_flatMap, List.mem_range] at h
  obtain ⟨i, _, hy⟩ := h
  exact (bkL_mem hy).1

theorem spr_new_drew {w : World} {b : Nat} {a m : Int} (hb : w.heap.size = b) (c : Spr) (ha : c.n = a) (hm : c.m = m) :
    Rds (w.alloc (.cells #[.int .i64 a, .int .i64 m] 38)).drew (b + 1) (some ⟨b, 0, none⟩) c.cells := spr_new hb c ha hm
theorem rel_lspr {s g : Int} {l : List Col} {q : Nat} {x y : Col} {w0 w w2 w' : World} {v v' : Value} (hx : l[q]? = some x) (hy : l[q + 1]? = some y)
    (hb : Below w0.heap.size w0 w) (ho : w.ownsRow w0.heap.size 38 2 v q (sprs ((baseS s g l).take q)))
    (h2 : w'.ownsRow w0.heap.size 38 2 v' (q + 1) (sprs ((baseS s g l).take q) ++ (sprOf s g x y).cells)) (hg : w2.grownBy w' v.ownBlock)
    (hB : w0.heap.size ≤ w2.heap.size) (hw : Below w.heap.size w w2) :
    w'.ownsRow w0.heap.size 38 2 v' (q + 1) (sprs ((baseS s g l).take (q + 1))) ∧ Below w0.heap.size w0 w' := by
  have e : sprs ((baseS s g l).take q) ++ (sprOf s g x y).cells = sprs ((baseS s g l).take (q + 1)) := baseS_take s g l (q + 1) x y hx hy (by omega)
  rw [e] at h2
  exact ⟨h2, (hb.trans (hw.mono hb.size)).grown hg hB fun k hk => (ho.lt k hk).1⟩

theorem rel_ladj {Ms Mt Mt' : List Lst} {F k g1 cap n : Nat} {d S m : Int} {out base : List Spr} {y : Spr} {w0 wo ws : World} {o : Obj}
    (hT : Mt' = Mt ++ [⟨F, k, d⟩]) (hO : out = adjs (Ms ++ Mt) base) (hy : out[k - 1]? = some y) (hS : S = sumM ((out.drop F).take (k - F))) (hm : m = y.m + max 0 (d - S))
    (o5 : ws.ownsRow w0.heap.size 38 2 (.slice (some ⟨g1, 0, none⟩) n cap) n ((out.set (k - 1) ⟨y.n, m⟩).flatMap Spr.cells)) (e5 : wo.grownBy ws (some g1))
    (hb : Below w0.heap.size w0 wo) (hg : w0.heap.size ≤ g1) :
    (ws.alloc o).drew.ownsRow w0.heap.size 38 2 (.slice (some ⟨g1, 0, none⟩) n cap) n (sprs (adjs (Ms ++ Mt') base)) ∧ Below w0.heap.size w0 (ws.alloc o).drew := by
  have e1 : adjs (Ms ++ Mt') base = out.set (k - 1) ⟨y.n, m⟩ := by
    rw [hT, ← List.append_assoc, adjs_append, ← hO]
    exact adj_eq hy hS hm
  rw [e1]
  have hb5 := hb.grown e5 hb.size fun k hk => by cases hk; exact hg
  exact ⟨(o5.alloc o).drew, Below.drew (hb5.alloc hb5.size o)⟩
theorem rel_ladj0 {Ms Mt Mt' : List Lst} {F k g1 cap n : Nat} {d S : Int} {out base : List Spr} {y : Spr} {w0 wo : World} {o : Obj}
    (hT : Mt' = Mt ++ [⟨F, k, d⟩]) (hO : out = adjs (Ms ++ Mt) base) (hy : out[k - 1]? = some y) (hS : S = sumM ((out.drop F).take (k - F))) (hm : ¬ S < d)
    (o5 : (wo.alloc o).ownsRow w0.heap.size 38 2 (.slice (some ⟨g1, 0, none⟩) n cap) n (sprs out)) (hb : Below w0.heap.size w0 wo) :
    (wo.alloc o).ownsRow w0.heap.size 38 2 (.slice (some ⟨g1, 0, none⟩) n cap) n (sprs (adjs (Ms ++ Mt') base)) ∧ Below w0.heap.size w0 (wo.alloc o) := by
  have e1 : adjs (Ms ++ Mt') base = out := by
    rw [hT, ← List.append_assoc, adjs_append, ← hO]
    exact adj_same (x := ⟨F, k, d⟩) (by simpa using hy) (by simp only [Int.toNat_natCast]; rw [← hS]; omega)
  rw [e1]
  exact ⟨o5, hb.alloc hb.size o⟩

def LsprPost (w : World) (n : Nat) (L : List Spr) (e : Ending) (w' : World) : Prop :=
  ∃ v, e = .returned v ∧ w'.ownsRow w.heap.size 38 2 v n (sprs L) ∧ Below w.heap.size w w'

set_option maxRecDepth 100000 in
set_option maxHeartbeats 4000000 in
theorem lsprings_any (A A' : Option Addr) (n c n' c' : Nat) (l : List Col) (s g : Int) (L : List Lst) (w : World) (hn : n = l.length) (hm : n ≤ 9223372036854775807)
    (h : Rds w w.heap.size A (cols l)) (he : colErr l = 0) (hs : 1 ≤ s ∧ s ≤ 15482880 ∧ 0 ≤ g ∧ g ≤ 1024)
    (hn' : n' = L.length) (hm' : n' ≤ 20) (h' : Rds w w.heap.size A' (lsts L)) (hL : ∀ x ∈ L, x.ok n) :
    Calls Try.prog 19 #[.slice A n c, .int .i64 s, .int .i64 g, .slice A' n' c'] w (LsprPost w (n - 1) (adjs (srt L) (baseS s g l))) := by
  have HN := hide hn
  have HN' := hide hn'
  have HL := hide hL
  have HA := hide (colErr_all l he).2
  have hn4 : n ≤ 4096 := by rw [hn]; exact (colErr_all l he).1
  obtain ⟨hs1, hs2, hs3, hs4⟩ := hs
  clear hn hn' hL he
  go_enter Try.func19, Try.ntmps19
  go_wp2_with fail
  go_loopg [9, 10] n (fun gk v i wr => ∃ q : Nat, (q + 1 ≤ n ∨ q = 0) ∧ i = .int .i64 q ∧ n ≤ gk + q ∧ wr.ownsRow w.heap.size 38 2 v q (sprs ((baseS s g l).take q)) ∧ Below w.heap.size w wr)
  case atStart => exact ⟨0, by omega, rfl, by omega, World.ownsRow_nil _ _ _ _, Below.refl _ _⟩
  case round =>
    obtain ⟨q, hq2, rfl, hgk, hown, hb2⟩ := hrel
    by_cases hqn : q + 1 < n
    --<
    · obtain ⟨x, hx⟩ : ∃ x, l[q]? = some x := ⟨_, List.getElem?_eq_getElem (by have := HN.out; omega)⟩
      obtain ⟨y, hy⟩ : ∃ y, l[q + 1]? = some y := ⟨_, List.getElem?_eq_getElem (by have := HN.out; omega)⟩
      obtain ⟨x0, x1, x2, x3, x4, x5⟩ := Col.ok_of (HA.out x (List.mem_of_getElem? hx))
      obtain ⟨y0, y1, y2, y3, y4, y5⟩ := Col.ok_of (HA.out y (List.mem_of_getElem? hy))
      obtain ⟨b, off, hA, hbB, cy0, cy1, cy2⟩ := (h.below hb2).col hy
      obtain ⟨b', off', hA', hbB', cx0, cx1, cx2⟩ := (h.below hb2).col hx
      subst hA
      simp only [Option.some.injEq, Addr.mk.injEq, and_true] at hA'
      obtain ⟨rfl, rfl⟩ := hA'
      have HX := hide hx
      have HY := hide hy
      have HB := hide hb2
      have HO := hide hown
      have hsz := hb2.size
      clear hx hy hb2 h h' hbB' hown
      obtain ⟨wo, rfl⟩ : ∃ wo : World, wo = wr := ⟨_, rfl⟩
      have i1 : (q : Int) < (n : Int) := by omega
      have i3 : (0 : Int) ≤ (q : Int) := by omega
      have i4 : (q : Int) + 1 < (n : Int) := by omega
      have i7 : (0 : Int) ≤ (q : Int) + 1 := by omega
      have i5 : ((q : Int) + 1).toNat = q + 1 := by omega
      have i6 : IntKind.i64.wrap ((q : Int) + 1) = (q : Int) + 1 := IntWalk.i64_in _ (by omega)
      have i8 : IntKind.i64.wrap (x.r + y.l) = x.r + y.l := IntWalk.i64_in _ (by omega)
      have hbw : b < wo.heap.size := by omega
      have hbne : ¬ b = wo.heap.size := by omega
      go_wp2_with fail
      go_region
      have hne := run_neq_col
      have hz : (x.nz = false ∨ (x.nz = true ∧ y.nz = false)) ∨ (x.nz = true ∧ y.nz = true) := by
        rcases x.nz <;> rcases y.nz <;> simp
      by_cases hxt : 0 < x.t
      all_goals
        rcases hz with (hxz | ⟨hxz, hyz⟩) | ⟨hxz, hyz⟩
      all_goals
        go_wp2_with (first
          | (go_at_call 15; refine (lnatural_any _ _ _ (by omega) (by omega) (by omega) (by omega)).mono ?_; rintro e w' ⟨rfl, rfl⟩)
          | (at_builtin; go_must (refine wpList_app rfl (.tmp 72) (.tmp 74) 31 rfl w.heap.size spr_ty _ q (sprs ((baseS s g l).take q)) rfl (((HO.out.alloc _).alloc _).drew) (wo.heap.size + 1 + 1) _ 1 1 (sprOf s g x y).cells rfl rfl ?_ (spr_one _) (by simp only [maxLen]; omega) (by omega) (by simp; omega) ?_); exact spr_new_drew (by simp) _ (by simp [sprOf, *]) (by simp [sprOf, *]); intro v' w3 o3 g3 b3))
        have R := rel_lspr HX.out HY.out HB.out HO.out o3 g3 (by simp; omega) (by go_grown)
        go_wp2_with fail
        go_roundg (gk - 1)
        case measure => omega
        case rel => exact ⟨q + 1, by omega, by go_num, by omega, R.1, R.2⟩
    -->    · sorry
    · have hq3 : q = n - 1 := by omega
      rw [List.take_of_length_le (by rw [baseS_length]; have := HN.out; omega)] at hown
      subst hq3
      go_wp2_with fail
      have hBn := baseS_bnd (s := s) HA.out hs3 hs4
      have hbl : (baseS s g l).length = n - 1 := by rw [baseS_length, ← HN.out]
      obtain ⟨base, hbase⟩ : ∃ base, base = baseS s g l := ⟨_, rfl⟩
      rw [← hbase] at hown hBn hbl
      obtain ⟨A1, cc1, hv, -, hcc1, -⟩ := own_form hown
      subst hv
      have HBn := hide hBn
      have HBl := hide hbl
      have HBase := hide hbase
      have HO := hide hown
      have HB := hide hb2
      have hout : ∀ M : List Lst, (∀ x ∈ M, x ∈ L) → (adjs M base).length = n - 1 ∧ Bnd (adjs M base) := fun M hM =>
        ⟨by rw [adjs_length, HBl.out], adjs_bnd HBn.out fun x hx => HL.out x (hM x hx)⟩
      have HOut := hide hout
      clear hBn hbl hbase hown hb2 hq2 hqn h hout hgk
      go_loopg [12] n (fun gk lv wr => ∃ k : Nat, 1 ≤ k ∧ (k ≤ n ∨ k = 1) ∧ lv = .int .i64 k ∧ n ≤ gk + k ∧ wr.ownsRow w.heap.size 38 2 (.slice A1 (n - 1) cc1) (n - 1) (sprs (adjs (bk L k) base)) ∧ Below w.heap.size w wr)
      case atStart => exact ⟨1, by omega, by omega, rfl, by omega, HO.out, HB.out⟩
      case round =>
        clear HO HB
        obtain ⟨k, hk1, hk2, rfl, hgk, hown, hb⟩ := hrel
        by_cases hkn : k < n
        · have HO := hide hown
          have HB := hide hb
          clear hown hb
          obtain ⟨gm, rfl⟩ : ∃ gm : Nat, gm = gk := ⟨_, rfl⟩
          go_wp2_with fail
          go_loopg [13] k (fun gk fv wr => ∃ (j : Nat) (p : Int), j ≤ k ∧ fv = .int .i64 p ∧ p + 1 + (j : Int) ≤ (k : Int) ∧ (k : Int) ≤ p + 1 + (j : Int) ∧ k ≤ gk + j ∧ wr.ownsRow w.heap.size 38 2 (.slice A1 (n - 1) cc1) (n - 1) (sprs (adjs (bk L k ++ bkL L k j) base)) ∧ Below w.heap.size w wr)
          case atStart => exact ⟨0, (k : Int) - 1, by omega, rfl, by omega, by omega, by omega, by simpa [bkL] using HO.out, HB.out⟩
          case round =>
            clear HO HB
            obtain ⟨j, p, hj, rfl, hp1, hp2, hgj, hown, hb⟩ := hrel
            by_cases hjk : j < k
            · have HO := hide hown
              have HB := hide hb
              clear hown hb
              obtain ⟨gj, rfl⟩ : ∃ gj : Nat, gj = gk := ⟨_, rfl⟩
              have hp0 : 0 ≤ p := by omega
              go_wp2_with fail
              go_loopg [90] n' (fun gk iv wr => ∃ i : Nat, i ≤ n' ∧ iv = .int .i64 i ∧ n' ≤ gk + i ∧
                wr.ownsRow w.heap.size 38 2 (.slice A1 (n - 1) cc1) (n - 1) (sprs (adjs (bk L k ++ bkL L k j ++ bkT L k p i) base)) ∧ Below w.heap.size w wr)
              case atStart => exact ⟨0, by omega, rfl, by omega, by simpa [bkT_zero] using HO.out, HB.out⟩
              case round =>
                clear HO HB
                obtain ⟨i, hi, rfl, hgi, hown, hb⟩ := hrel
                by_cases hil : i < n'
                · obtain ⟨x, hx⟩ : ∃ x, L[i]? = some x := ⟨_, List.getElem?_eq_getElem (by have := HN'.out; omega)⟩
                  obtain ⟨x0, x1, x2, x3, x4⟩ := Lst.ok_of (HL.out x (List.mem_of_getElem? hx))
                  obtain ⟨xf, xl, xd⟩ := x
                  dsimp only at x0 x1 x2 x3 x4
                  obtain ⟨F, rfl⟩ := Int.eq_ofNat_of_zero_le x0
                  obtain ⟨G, rfl⟩ := Int.eq_ofNat_of_zero_le (show 0 ≤ xl by omega)
                  obtain ⟨b, off, hA, hbB, k0, k1, k2⟩ := (h'.below hb).lst hx
                  subst hA
                  have HX := hide hx
                  have HO := hide hown
                  have HB := hide hb
                  have hsz := hb.size
                  clear hx hown hb h'
                  obtain ⟨gi, rfl⟩ : ∃ gi : Nat, gi = gk := ⟨_, rfl⟩
                  obtain ⟨wo, rfl⟩ : ∃ wo : World, wo = wr := ⟨_, rfl⟩
                  by_cases hm : (F : Int) = p ∧ (G : Int) = (k : Int)
                  · obtain ⟨hmF, hmG⟩ := hm
                    obtain rfl : k = G := by omega
                    subst hmF
                    clear hmG
                    have HT := hide (bkT_yes L k (F : Int) i _ HX.out rfl rfl)
                    obtain ⟨hout, hbnd⟩ := HOut.out (bk L k ++ bkL L k j ++ bkT L k (F : Int) i) (by
                      intro x hx
                      rcases List.mem_append.1 hx with hx | hx
                      · rcases List.mem_append.1 hx with hx | hx
                        · exact bk_mem hx
                        · exact (bkL_mem hx).1
                      · exact bkT_mem hx)
                    obtain ⟨out, hO⟩ : ∃ out, out = adjs (bk L k ++ bkL L k j ++ bkT L k (F : Int) i) base := ⟨_, rfl⟩
                    rw [← hO] at hout hbnd HO
                    obtain ⟨g1, cap, hv, hg1, hg1w⟩ := HO.out.form (by omega)
                    injection hv with hv1 hv2 hv3
                    subst hv1 hv3
                    have HOL := hide hout
                    have HOB := hide hbnd
                    have HOE := hide hO
                    have HOX := hide (HO.out.alloc (.cells #[.int .i64 (F : Int), .int .i64 (k : Int), .int .i64 xd] 73))
                    clear hout hbnd hO hv2
                    go_wp2_with fail
                    go_loopg [16, 17] (k - F) (fun gk sm tv w4 => ∃ t : Nat, t ≤ k - F ∧ tv = .int .i64 ((F + t : Nat) : Int) ∧ k - F ≤ gk + t ∧ sm = .int .i64 (sumM ((out.drop F).take t)) ∧
                      w4 = wo.alloc (.cells #[.int .i64 (F : Int), .int .i64 (k : Int), .int .i64 xd] 73))
                    case atStart => exact ⟨0, by omega, by go_num, by omega, rfl, rfl⟩
                    case round =>
                      obtain ⟨t, ht, rfl, hgt, rfl, rfl⟩ := hrel
                      by_cases htl : t < k - F
                      · obtain ⟨y, hy⟩ : ∃ y, out[F + t]? = some y := ⟨_, List.getElem?_eq_getElem (by have := HOL.out; omega)⟩
                        have hyb := HOB.out y (List.mem_of_getElem? hy)
                        have hsb := sumM_bnd _ ((HOB.out.drop F).take t)
                        have hsl : ((out.drop F).take t).length ≤ t := List.length_take_le _ _
                        have hss : sumM ((out.drop F).take (t + 1)) = sumM ((out.drop F).take t) + y.m := by
                          rw [List.take_add_one, List.getElem?_drop, hy, sumM_append, Option.toList_some, sumM_cons, sumM_nil]; omega
                        have HSS := hide hss
                        have gy := fun i hi => flat_get Spr.cells 2 (fun _ => rfl) out (F + t) i y hy hi
                        have cy1 := (HOX.out.cellAt ((F + t) * 2 + 1) (by omega)).trans (gy 1 (by omega))
                        simp only [Spr.cells, List.getElem?_cons_zero, List.getElem?_cons_succ] at cy1
                        clear gy hy hss k0 k1 k2
                        go_wp2_with fail
                        go_roundg (gk - 1)
                        case measure => omega
                        case rel => exact ⟨t + 1, by omega, by go_num, by omega, by rw [HSS.out], rfl⟩
                      · have htt : t = k - F := by omega
                        subst htt
                        obtain ⟨y, hy⟩ : ∃ y, out[k - 1]? = some y := ⟨_, List.getElem?_eq_getElem (by have := HOL.out; omega)⟩
                        have hyb := HOB.out y (List.mem_of_getElem? hy)
                        have hsb := sumM_bnd _ ((HOB.out.drop F).take (k - F))
                        have hsl : ((out.drop F).take (k - F)).length ≤ k - F := List.length_take_le _ _
                        have gy := fun i hi => flat_get Spr.cells 2 (fun _ => rfl) out (k - 1) i y hy hi
                        have cy1 := (HOX.out.cellAt ((k - 1) * 2 + 1) (by omega)).trans (gy 1 (by omega))
                        simp only [Spr.cells, List.getElem?_cons_zero, List.getElem?_cons_succ] at cy1
                        have fr : ∀ i, (wo.alloc (.cells #[.int .i64 (F : Int), .int .i64 (k : Int), .int .i64 xd] 73)).frozen? ⟨g1, i, none⟩ = false := fun i => HOX.out.frozenAt i
                        have HY := hide hy
                        obtain ⟨S, hS⟩ : ∃ S, S = sumM ((out.drop F).take (k - F)) := ⟨_, rfl⟩
                        rw [← hS] at hsb
                        have HS := hide hS
                        clear gy hy k0 k1 k2
                        rw [← HS.out]
                        clear hS
                        have i1 : (1 : Int) ≤ (k : Int) := by omega
                        have i4 : (k : Int) - 1 < ((n - 1 : Nat) : Int) := by omega
                        have i5 : ((k : Int) - 1).toNat = k - 1 := by omega
                        have i6 : IntKind.i64.wrap ((k : Int) - 1) = (k : Int) - 1 := IntWalk.i64_in _ (by omega)
                        by_cases hSd : S < xd
                        · have i7 : IntKind.i64.wrap (y.m + xd) = y.m + xd := IntWalk.i64_in _ (by omega)
                          have i8 : IntKind.i64.wrap (y.m + xd - S) = y.m + xd - S := IntWalk.i64_in _ (by omega)
                          go_wp2_with fail
                          go_region
                          go_wp2_with fail
                          obtain ⟨o5, e5⟩ := own_set2_1 (fun _ => rfl) HO.out (k - 1) ⟨y.n, y.m + xd - S⟩ y HY.out _ _ _ rfl rfl
                          have R := rel_ladj (o := .cells #[.int .i64 (F : Int), .int .i64 (k : Int), .int .i64 xd] 73) HT.out HOE.out HY.out HS.out (show y.m + xd - S = y.m + max 0 (xd - S) by omega) o5 e5 HB.out hg1
                          go_roundg (gi - 1)
                          case measure => omega
                          case rel => exact ⟨i + 1, by omega, by go_num, by omega, R.1, R.2⟩
                        · have R := rel_ladj0 HT.out HOE.out HY.out HS.out hSd HOX.out HB.out
                          go_wp2_with fail
                          go_roundg (gi - 1)
                          case measure => omega
                          case rel => exact ⟨i + 1, by omega, by go_num, by omega, R.1, R.2⟩
                  · have HT := hide (bkT_no L k p i _ HX.out hm)
                    rcases (show ¬ (F : Int) = p ∨ ((F : Int) ≤ p ∧ p ≤ (F : Int) ∧ ¬ (G : Int) = (k : Int)) by omega) with hq | ⟨hq1, hq2, hq3⟩
                    all_goals
                      clear hm
                      go_wp2_with fail
                      go_roundg (gi - 1)
                      case measure => omega
                      case rel => exact ⟨i + 1, by omega, by go_num, by omega, by rw [HT.out]; exact HO.out.alloc _, HB.out.alloc hsz _⟩
                · have hii : i = n' := by omega
                  subst hii
                  rw [bkT_all _ _ _ _ (by rw [← HN'.out]; exact Nat.le_refl _), List.append_assoc, show p = (k : Int) - 1 - (j : Int) by omega, ← bkL_succ] at hown
                  go_wp2_with fail
                  go_roundg (gj - 1)
                  case measure => omega
                  case rel => exact ⟨j + 1, p - 1, by omega, by go_num, by omega, by omega, by omega, hown, hb⟩
            · have hjj : j = k := by omega
              subst hjj
              rw [← bk_succ] at hown
              go_wp2_with fail
              go_roundg (gm - 1)
              case measure => omega
              case rel => exact ⟨j + 1, by omega, by omega, by go_num, by omega, hown, hb⟩
        · have hbk : bk L k = srt L := by
            by_cases h1 : k = n
            · subst h1
              exact (srt_bk L k fun x hx => (by have := Lst.ok_of (HL.out x hx); omega)).symm
            · have : L = [] := by
                cases hLL : L with
                | nil => rfl
                | cons x L' =>
                  have := Lst.ok_of (HL.out x (by rw [hLL]; simp))
                  omega
              subst this
              simp [bk, bkL, bkF, srt, srtN]
          rw [hbk, HBase.out] at hown
          clear hbk
          go_wp2_with fail
          go_ret
          exact ⟨_, rfl, hown, hb⟩

end Go.Proofs.Ytajkmlejklgbbaa
