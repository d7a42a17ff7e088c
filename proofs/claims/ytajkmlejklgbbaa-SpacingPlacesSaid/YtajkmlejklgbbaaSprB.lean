/- spacing.Springs where it returns the springs. -/
import Derived.Test.YtajkmlejklgbbaaAdj
import Derived.BigRegion
namespace Go.Proofs.Ytajkmlejklgbbaa
open Go.RowKit

def sprOf (s g : Int) (a b : Col) : Spr := ⟨if 0 < a.t then nat a.t s else 0, a.r + b.l + if a.nz && b.nz then g else 0⟩
def baseS (s g : Int) (l : List Col) : List Spr := List.zipWith (sprOf s g) l (l.drop 1)
theorem baseS_length (s g : Int) (l : List Col) : (baseS s g l).length = l.length - 1 := by simp [baseS]
theorem baseS_get (s g : Int) (l : List Col) (k : Nat) (a b : Col) (ha : l[k]? = some a) (hb : l[k + 1]? = some b) : (baseS s g l)[k]? = some (sprOf s g a b) := by
  simp [baseS, List.getElem?_zipWith, ha, hb]
theorem colErr_all (l : List Col) (h : colErr l = 0) : l.length ≤ 4096 ∧ ∀ c ∈ l, c.ok := by
  unfold colErr at h
  by_cases h1 : l.length > 4096
  · rw [if_pos h1] at h; omega
  · rw [if_neg h1] at h
    by_cases h2 : ∀ c ∈ l, c.ok
    · exact ⟨by omega, h2⟩
    · rw [if_neg h2] at h; omega

theorem baseS_bnd {s g : Int} {l : List Col} (h : ∀ c ∈ l, c.ok) (g0 : 0 ≤ g) (g1 : g ≤ 1024) : Bnd (baseS s g l) := by
  intro x hx
  obtain ⟨i, hi⟩ := List.getElem?_of_mem hx
  simp only [baseS, List.getElem?_zipWith] at hi
  split at hi
  · rename_i a b ha hb
    cases hi
    obtain ⟨a0, a1, a2, a3, a4, a5⟩ := Col.ok_of (h a (List.mem_of_getElem? ha))
    obtain ⟨b0, b1, b2, b3, b4, b5⟩ := Col.ok_of (h b (List.mem_of_mem_drop (List.mem_of_getElem? hb)))
    simp only [sprOf]
    split <;> omega
  · cases hi
theorem baseS_take (s g : Int) (l : List Col) (q : Nat) (x y : Col) (hx : l[q - 1]? = some x) (hy : l[q]? = some y) (h1 : 1 ≤ q) :
    sprs ((baseS s g l).take (q - 1)) ++ (sprOf s g x y).cells = sprs ((baseS s g l).take q) := by
  obtain ⟨k, rfl⟩ : ∃ k, q = k + 1 := ⟨q - 1, by omega⟩
  have hb := baseS_get s g l k x y hx hy
  rw [List.take_add_one, hb]
  simp [sprs]
theorem rel_spr {s g : Int} {l : List Col} {q : Nat} {x y : Col} {w0 w w2 w' : World} {v v' : Value} (hx : l[q - 1]? = some x) (hy : l[q]? = some y) (h1 : 1 ≤ q)
    (hb : Below w0.heap.size w0 w) (ho : w.ownsRow w0.heap.size 38 2 v (q - 1) (sprs ((baseS s g l).take (q - 1))))
    (h2 : w'.ownsRow w0.heap.size 38 2 v' (q - 1 + 1) (sprs ((baseS s g l).take (q - 1)) ++ (sprOf s g x y).cells)) (hg : w2.grownBy w' v.ownBlock)
    (hB : w0.heap.size ≤ w2.heap.size) (hw : Below w.heap.size w w2) :
    w'.ownsRow w0.heap.size 38 2 v' (q + 1 - 1) (sprs ((baseS s g l).take (q + 1 - 1))) ∧ Below w0.heap.size w0 w' := by
  rw [baseS_take s g l q x y hx hy h1, Nat.sub_add_cancel h1] at h2
  exact ⟨h2, (hb.trans (hw.mono hb.size)).grown hg hB fun k hk => (ho.lt k hk).1⟩

theorem rel_adj {M : List Lst} {k F G g1 cap n n' c2 b off : Nat} {d S m : Int} {out base : List Spr} {y : Spr} {w0 wo wr ws : World} {o : Obj} {B2 : Nat}
    (hx : M[k]? = some ⟨F, G, d⟩) (hO : out = adjs (M.take k) base) (hy : out[G - 1]? = some y) (hS : S = sumM ((out.drop F).take (G - F))) (hm : m = y.m + max 0 (d - S))
    (h3 : wo.ownsRow B2 73 3 (.slice (some ⟨b, off, none⟩) n' c2) n' (lsts M)) (h4 : Below (wo.heap.size + 1) (wo.alloc o) wr)
    (o5 : ws.ownsRow w0.heap.size 38 2 (.slice (some ⟨g1, 0, none⟩) n cap) n ((out.set (G - 1) ⟨y.n, m⟩).flatMap Spr.cells)) (e5 : wr.grownBy ws (some g1))
    (hb : Below w0.heap.size w0 wo) (hne : b ≠ g1) (hg : w0.heap.size ≤ g1) :
    ws.drew.ownsRow w0.heap.size 38 2 (.slice (some ⟨g1, 0, none⟩) n cap) n (sprs (adjs (M.take (k + 1)) base)) ∧
      ws.drew.ownsRow B2 73 3 (.slice (some ⟨b, off, none⟩) n' c2) n' (lsts M) ∧ Below w0.heap.size w0 ws.drew := by
  have e1 : adjs (M.take (k + 1)) base = out.set (G - 1) ⟨y.n, m⟩ := by rw [adjs_snoc M base k _ hx, ← hO]; exact adj_eq hy hS hm
  have hs4 : wo.heap.size + 1 ≤ wr.heap.size := by have := h4.size; simpa using this
  rw [e1]
  refine ⟨o5.drew, (((own_below (h3.alloc o) h4 (by simp)).kept e5 (.inr (by simp [Value.ownBlock, hne])))).drew, Below.drew ?_⟩
  exact ((((Below.refl _ _).alloc (Nat.le_refl _) o).trans (h4.mono (by omega))).mono hb.size |> hb.trans).grown e5 (by have := hb.size; omega) fun k hk => by cases hk; exact hg

def SprPost (w : World) (n : Nat) (L : List Spr) (e : Ending) (w' : World) : Prop :=
  ∃ v, e = .returned (.tuple #[v, .int .i64 0]) ∧ w'.ownsRow w.heap.size 38 2 v n (sprs L) ∧ Below w.heap.size w w'

set_option maxRecDepth 100000 in
set_option maxHeartbeats 4000000 in
theorem Springs_ok (A A' : Option Addr) (n c n' c' : Nat) (l : List Col) (s g : Int) (L : List Lst) (w : World) (hn : n = l.length) (hm : n ≤ 9223372036854775807)
    (h : Rds w w.heap.size A (cols l)) (he : colErr l = 0) (hs : 1 ≤ s ∧ s ≤ 15482880 ∧ 0 ≤ g ∧ g ≤ 1024)
    (hn' : n' = L.length) (hm' : n' ≤ 20) (h' : Rds w w.heap.size A' (lsts L)) (hL : ∀ x ∈ L, x.ok n) :
    Calls Try.prog 16 #[.slice A n c, .int .i64 s, .int .i64 g, .slice A' n' c'] w (SprPost w (n - 1) (adjs (srt L) (baseS s g l))) := by
  have HN := hide hn
  have HN' := hide hn'
  have he' : (colErr l != 0) = false := by simpa using he
  have HL := hide hL
  have HE := hide he
  have HA := hide (colErr_all l he).2
  have hn4 : n ≤ 4096 := by rw [hn]; exact (colErr_all l he).1
  obtain ⟨hs1, hs2, hs3, hs4⟩ := hs
  clear hn hn' hL he
  go_enter Try.func16, Try.ntmps16
  go_wp2_with fail
  refine (check_any A n c l _ HN.out hm h).mono ?_
  rintro e w1 ⟨rfl, hb1⟩
  go_wp2_with (go_at_call 31; go_in)
  go_loopw [42] (fun i wr => ∃ k : Nat, k ≤ n' ∧ i = .int .i64 k ∧ Below w.heap.size w wr) (fun i _ => n' - (intOf i).toNat)
  case atStart => exact ⟨0, Nat.zero_le _, rfl, hb1⟩
  case round =>
    obtain ⟨k, hk, rfl, hb⟩ := hrel
    by_cases hlt : k < n'
    · obtain ⟨x, hx⟩ : ∃ x, L[k]? = some x := ⟨_, List.getElem?_eq_getElem (by have := HN'.out; omega)⟩
      obtain ⟨b, off, rfl, hbB, c0, c1, c2⟩ := (h'.below hb).lst hx
      obtain ⟨g0, g1, g2, g3, g4⟩ := Lst.ok_of (HL.out x (List.mem_of_getElem? hx))
      have HB := hide hb
      clear hx h' hb h hb1
      go_wp2_with (go_at_call 31; go_in)
      go_roundw
      case rel => exact ⟨k + 1, by omega, by go_num, HB.out.alloc HB.out.size _⟩
      case measure => simp [intOf]; omega
    · clear hb1
      go_wp2_with fail
      go_loopg [13, 14] n (fun gk v i wr => ∃ q : Nat, 1 ≤ q ∧ (q ≤ n ∨ q = 1) ∧ i = .int .i64 q ∧ n ≤ gk + q ∧ wr.ownsRow w.heap.size 38 2 v (q - 1) (sprs ((baseS s g l).take (q - 1))) ∧ Below w.heap.size w wr)
      case atStart => exact ⟨1, by omega, by omega, rfl, by omega, World.ownsRow_nil _ _ _ _, hb⟩
      case round =>
        obtain ⟨q, hq1, hq2, rfl, hgk, hown, hb2⟩ := hrel
        by_cases hqn : q < n
        --<
        · obtain ⟨x, hx⟩ : ∃ x, l[q - 1]? = some x := ⟨_, List.getElem?_eq_getElem (by have := HN.out; omega)⟩
          obtain ⟨y, hy⟩ : ∃ y, l[q]? = some y := ⟨_, List.getElem?_eq_getElem (by have := HN.out; omega)⟩
          obtain ⟨x0, x1, x2, x3, x4, x5⟩ := Col.ok_of (HA.out x (List.mem_of_getElem? hx))
          obtain ⟨y0, y1, y2, y3, y4, y5⟩ := Col.ok_of (HA.out y (List.mem_of_getElem? hy))
          obtain ⟨b, off, hA, hbB, cy0, cy1, cy2⟩ := (h.below hb2).col hy
          obtain ⟨b', off', hA', hbB', cx0, cx1, cx2⟩ := (h.below hb2).col hx
          subst hA
          simp only [Option.some.injEq, Addr.mk.injEq, and_true] at hA'
          obtain ⟨rfl, rfl⟩ := hA'
          have HX := hide hx
          have HY := hide hy
          have HB := hide hb2
          have HO := hide hown
          have hsz := hb2.size
          clear hx hy hb2 hb h h' hbB' hown
          obtain ⟨wo, rfl⟩ : ∃ wo : World, wo = wr := ⟨_, rfl⟩
          go_upto_region 16 with fail
          go_cut [15, 16] (fun p1 p2 wx => ∃ g1 g2 : Nat, p1 = .pointer (some ⟨g1, 0, none⟩) ∧ p2 = .pointer (some ⟨g2, 0, none⟩) ∧ g1 < wx.heap.size ∧ g2 < wx.heap.size ∧ Below wo.heap.size wo wx ∧
            wx.cell? ⟨g1, 0, none⟩ = some (.int .i64 x.l) ∧ wx.cell? ⟨g1, 1, none⟩ = some (.int .i64 x.r) ∧ wx.cell? ⟨g1, 2, none⟩ = some (.int .i64 x.t) ∧
            wx.cell? ⟨g2, 0, none⟩ = some (.int .i64 y.l) ∧ wx.cell? ⟨g2, 1, none⟩ = some (.int .i64 y.r) ∧ wx.cell? ⟨g2, 2, none⟩ = some (.int .i64 y.t))
          case first =>
            have i1 : (q : Int) < (n : Int) := by omega
            have i2 : (1 : Int) ≤ (q : Int) := by omega
            have i3 : (0 : Int) ≤ (q : Int) := by omega
            have i4 : (q : Int) - 1 < (n : Int) := by omega
            have i5 : ((q : Int) - 1).toNat = q - 1 := by omega
            have i6 : IntKind.i64.wrap ((q : Int) - 1) = (q : Int) - 1 := IntWalk.i64_in _ (by omega)
            have hbw : b < wo.heap.size := by omega
            go_region
            · go_wp2_with fail
              go_meet
              exact ⟨wo.heap.size, wo.heap.size + 1, rfl, rfl, by go_size, by go_size, by go_grown, by simp [go_sem], by simp [go_sem], by simp [go_sem], by simp [go_sem], by simp [go_sem], by simp [go_sem]⟩
            · go_wp2_with fail
              go_meet
              exact ⟨wo.heap.size + 1, wo.heap.size, rfl, rfl, by go_size, by go_size, by go_grown, by simp [go_sem], by simp [go_sem], by simp [go_sem], by simp [go_sem], by simp [go_sem], by simp [go_sem]⟩
          case rest =>
            obtain ⟨g1, g2, rfl, rfl, hg1, hg2, hbx, d0, d1, d2, e0, e1, e2⟩ := hcut
            have hne := run_neq_col
            have hown := own_below HO.out hbx (Nat.le_refl _)
            have hz1 := HB.out.trans (hbx.mono hsz)
            have HO2 := hide hown
            have HZ := hide hz1
            have hsz2 := hz1.size
            clear hown hz1 hbx
            have hz : (x.nz = false ∨ (x.nz = true ∧ y.nz = false)) ∨ (x.nz = true ∧ y.nz = true) := by
              rcases x.nz <;> rcases y.nz <;> simp
            by_cases hxt : 0 < x.t
            all_goals
              rcases hz with (hxz | ⟨hxz, hyz⟩) | ⟨hxz, hyz⟩
            all_goals
              go_wp2_with (first
                | (go_at_call 32; refine (natural_any _ _ _ (by omega) (by omega) (by omega) (by omega)).mono ?_; rintro e w' ⟨rfl, rfl⟩)
                | (at_builtin; go_must (refine wpList_app rfl (.tmp 112) (.tmp 114) 31 rfl w.heap.size spr_ty _ (q - 1) (sprs ((baseS s g l).take (q - 1))) rfl ((HO2.out.alloc _).alloc _) (wc.heap.size + 1 + 1) _ 1 1 (sprOf s g x y).cells rfl rfl ?_ (spr_one _) (by simp only [maxLen]; omega) (by omega) (by simp; omega) ?_); exact spr_new (by simp) _ (by simp [sprOf, *]) (by simp [sprOf, *]); intro v' w3 o3 g3 b3))
              have R := rel_spr HX.out HY.out hq1 HZ.out HO2.out o3 g3 (by simp; omega) (by go_grown)
              go_wp2_with fail
              go_roundg (gk - 1)
              case measure => omega
              case rel => exact ⟨q + 1, by omega, by omega, by go_num, by omega, R.1, R.2⟩
        -->        · sorry
        · have hq3 : q - 1 = n - 1 := by omega
          have hAn : A' = none → n' = 0 := by
            intro hA0
            have h3 := lsts_length L
            rcases h' with h' | ⟨b, off, h', _⟩
            · rw [h', ← HN'.out] at h3
              simp at h3
              omega
            · rw [hA0] at h'; cases h'
          rw [hq3, List.take_of_length_le (by rw [baseS_length]; have := HN.out; omega)] at hown
          have hsz := hb2.size
          have hRd := (h'.below hb2).more hsz
          clear hgk hq3 h hb h'
          go_wp2_with fail
          refine (clone_any A' n' c' L _ HN'.out (by omega) hAn hRd).mono ?_
          clear hAn hRd
          rintro e w2 ⟨vs, rfl, os, hbs⟩
          obtain ⟨A2, c2, rfl, hA2, hc2, hc2m⟩ := own_form os
          go_wp2_with fail
          refine (SortStable_any A2 n' c2 wr.heap.size L _ HN'.out (by omega) hbs.size os).mono ?_
          rintro e w3 ⟨rfl, o3, g3⟩
          go_wp2_with fail
          have hBn := baseS_bnd (s := s) HA.out hs3 hs4
          obtain ⟨M, hM⟩ : ∃ M, M = srt L := ⟨_, rfl⟩
          have hMl : M.length = n' := by rw [hM, srt_length, HN'.out]
          have hMok : ∀ x ∈ M, x.ok n := fun x hx => HL.out x (srt_mem L x (by rw [← hM]; exact hx))
          rw [← hM] at o3
          have hb3 : Below w.heap.size w w3 := (hb2.trans (hbs.mono hsz)).grown g3 (Nat.le_trans hsz hbs.size) fun k hk => Nat.le_trans hsz (os.lt k hk).1
          have hown3 := (own_below hown hbs (Nat.le_refl _)).kept g3 (own_apart hown os)
          have hap := fun k => (os.lt k)
          have hap1 := hown.lt
          obtain ⟨B2, hB2⟩ : ∃ B2, B2 = wr.heap.size := ⟨_, rfl⟩
          rw [← hB2] at o3 hap hap1
          obtain ⟨A1, cc1, hv, hA1, hcc1, hcc1m⟩ := own_form hown
          subst hv
          have HM := hide hM
          have HMl := hide hMl
          have HMok := hide hMok
          have HBn := hide hBn
          have HO3 := hide hown3
          have HO := hide o3
          have HB3 := hide hb3
          have HAP := hide hap
          have HAP1 := hide hap1
          have HB2 := hide hB2
          clear hM hMl hMok hBn hown3 o3 hb3 hap hap1 hB2 g3 os hown hbs hb2 hA2 hA1
          go_loopg [122] n' (fun gk i wr3 => ∃ k : Nat, k ≤ n' ∧ i = .int .i64 k ∧ n' ≤ gk + k ∧ wr3.ownsRow w.heap.size 38 2 (.slice A1 (n - 1) cc1) (n - 1) (sprs (adjs (M.take k) (baseS s g l))) ∧
              wr3.ownsRow B2 73 3 (.slice A2 n' c2) n' (lsts M) ∧ Below w.heap.size w wr3)
          case atStart => exact ⟨0, by omega, rfl, by omega, HO3.out, HO.out, HB3.out⟩
          case round =>
            clear HO3 HO HB3
            obtain ⟨k, hk, rfl, hgk, hown, o3, hb⟩ := hrel
            by_cases hlt : k < n'
            · obtain ⟨x, hx⟩ : ∃ x, M[k]? = some x := ⟨_, List.getElem?_eq_getElem (by have := HMl.out; omega)⟩
              obtain ⟨x0, x1, x2, x3, x4⟩ := Lst.ok_of (HMok.out x (List.mem_of_getElem? hx))
              obtain ⟨xf, xl, xd⟩ := x
              dsimp only at x0 x1 x2 x3 x4
              obtain ⟨F, rfl⟩ := Int.eq_ofNat_of_zero_le x0
              obtain ⟨G, rfl⟩ := Int.eq_ofNat_of_zero_le (show 0 ≤ xl by omega)
              obtain ⟨b, off, hA, hbB, k0, k1, k2⟩ := (Rds.own o3).lst hx
              obtain ⟨g1, cap, hv, hg1, hg1w⟩ := hown.form (by omega)
              injection hv with hv1 hv2 hv3
              subst hA hv1 hv3
              have HX := hide hx
              have HO := hide hown
              have HO3 := hide o3
              have HB := hide hb
              have hout : (adjs (M.take k) (baseS s g l)).length = n - 1 := by rw [adjs_length, baseS_length, ← HN.out]
              have hbnd := adjs_bnd (M := M.take k) HBn.out (fun y hy => HMok.out y (List.mem_of_mem_take hy))
              obtain ⟨out, hO⟩ : ∃ out, out = adjs (M.take k) (baseS s g l) := ⟨_, rfl⟩
              rw [← hO] at hout hbnd HO
              have HOL := hide hout
              have HOB := hide hbnd
              have HOE := hide hO
              have hFc : ¬ cc1 = F := by omega
              have hnFc : ¬ F = cc1 := by omega
              clear hx hown o3 hb hout hbnd hO hv2
              obtain ⟨gm, rfl⟩ : ∃ gm : Nat, gm = gk := ⟨_, rfl⟩
              obtain ⟨wo, rfl⟩ : ∃ wo : World, wo = wr := ⟨_, rfl⟩
              go_wp2_with fail
              go_loopg [21, 133] (G - F) (fun gk sm i w4 => ∃ j : Nat, j ≤ G - F ∧ i = .int .i64 j ∧ G - F ≤ gk + j ∧ sm = .int .i64 (sumM ((out.drop F).take j)) ∧
                Below (wo.heap.size + 1) (wo.alloc (.cells #[.int .i64 (F : Int), .int .i64 (G : Int), .int .i64 xd] 73)) w4)
              case atStart => exact ⟨0, by omega, rfl, by omega, rfl, Below.refl _ _⟩
              case round =>
                obtain ⟨j, hj, rfl, hgj, rfl, hb4⟩ := hrel
                have hs4 := hb4.size
                simp only [World.size_alloc] at hs4
                have hownx := own_below (HO.out.alloc (.cells #[.int .i64 (F : Int), .int .i64 (G : Int), .int .i64 xd] 73)) hb4 (by simp)
                by_cases hjl : j < G - F
                · obtain ⟨y, hy⟩ : ∃ y, out[F + j]? = some y := ⟨_, List.getElem?_eq_getElem (by have := HOL.out; omega)⟩
                  have hyb := HOB.out y (List.mem_of_getElem? hy)
                  have hsb := sumM_bnd _ ((HOB.out.drop F).take j)
                  have hsl : ((out.drop F).take j).length ≤ j := List.length_take_le _ _
                  have hss : sumM ((out.drop F).take (j + 1)) = sumM ((out.drop F).take j) + y.m := by
                    rw [List.take_add_one, List.getElem?_drop, hy, sumM_append, Option.toList_some, sumM_cons, sumM_nil]; omega
                  have HSS := hide hss
                  have gy := fun i hi => flat_get Spr.cells 2 (fun _ => rfl) out (F + j) i y hy hi
                  have cy0 := (hownx.cellAt ((F + j) * 2) (by omega)).trans (gy 0 (by omega))
                  have cy1 := (hownx.cellAt ((F + j) * 2 + 1) (by omega)).trans (gy 1 (by omega))
                  simp only [Spr.cells, List.getElem?_cons_zero, List.getElem?_cons_succ] at cy0 cy1
                  rw [Nat.add_mul] at cy0 cy1
                  clear gy hy hss k0 k1 k2
                  go_wp2_with fail
                  go_roundg (gk - 1)
                  case measure => omega
                  case rel => exact ⟨j + 1, by omega, by go_num, by omega, by rw [HSS.out], hb4.alloc hs4 _⟩
                · obtain rfl : j = G - F := by omega
                  obtain ⟨y, hy⟩ : ∃ y, out[G - 1]? = some y := ⟨_, List.getElem?_eq_getElem (by have := HOL.out; omega)⟩
                  have hyb := HOB.out y (List.mem_of_getElem? hy)
                  have hsb := sumM_bnd _ ((HOB.out.drop F).take (G - F))
                  have hsl : ((out.drop F).take (G - F)).length ≤ G - F := List.length_take_le _ _
                  have gy := fun i hi => flat_get Spr.cells 2 (fun _ => rfl) out (G - 1) i y hy hi
                  have cy1 := (hownx.cellAt ((G - 1) * 2 + 1) (by omega)).trans (gy 1 (by omega))
                  simp only [Spr.cells, List.getElem?_cons_zero, List.getElem?_cons_succ] at cy1
                  have fr : ∀ i, wr.frozen? ⟨g1, i, none⟩ = false := fun i => hownx.frozenAt i
                  have d1 : wr.cell? ⟨wo.heap.size, 1, none⟩ = some (.int .i64 (G : Int)) := (hb4.cell (p := ⟨wo.heap.size, 1, none⟩) (Nat.lt_succ_self _)).trans ((cell_of_row _ _ 1 _ _ _ (heap_alloc_new wo _)).trans rfl)
                  have d2 : wr.cell? ⟨wo.heap.size, 2, none⟩ = some (.int .i64 xd) := (hb4.cell (p := ⟨wo.heap.size, 2, none⟩) (Nat.lt_succ_self _)).trans ((cell_of_row _ _ 2 _ _ _ (heap_alloc_new wo _)).trans rfl)
                  have HY := hide hy
                  have HB4 := hide hb4
                  have HOX := hide hownx
                  obtain ⟨S, hS⟩ : ∃ S, S = sumM ((out.drop F).take (G - F)) := ⟨_, rfl⟩
                  rw [← hS] at hsb
                  have HS := hide hS
                  clear gy hy k0 k1 k2 hb4 hownx
                  rw [← HS.out]
                  clear hS
                  have i1 : (1 : Int) ≤ (G : Int) := by omega
                  have i4 : (G : Int) - 1 < ((n - 1 : Nat) : Int) := by omega
                  have i5 : ((G : Int) - 1).toNat = G - 1 := by omega
                  have i6 : IntKind.i64.wrap ((G : Int) - 1) = (G : Int) - 1 := IntWalk.i64_in _ (by omega)
                  go_wp2_with fail
                  go_region
                  all_goals go_wp2_with fail
                  · obtain ⟨o5, e5⟩ := own_set2_1 (fun _ => rfl) HOX.out (G - 1) ⟨y.n, y.m + (xd - S)⟩ y HY.out _ _ _ rfl rfl
                    have R := rel_adj HX.out HOE.out HY.out HS.out (show y.m + (xd - S) = y.m + max 0 (xd - S) by omega) HO3.out HB4.out o5 e5 HB.out (by have := HAP.out b rfl; have := HAP1.out g1 rfl; omega) hg1
                    go_roundg (gm - 1)
                    case measure => omega
                    case rel => exact ⟨k + 1, by omega, by go_num, by omega, R.1, R.2.1, R.2.2⟩
                  · obtain ⟨o5, e5⟩ := own_set2_1 (fun _ => rfl) HOX.out (G - 1) ⟨y.n, y.m⟩ y HY.out _ _ _ rfl rfl
                    have R := rel_adj HX.out HOE.out HY.out HS.out (show y.m = y.m + max 0 (xd - S) by omega) HO3.out HB4.out o5 e5 HB.out (by have := HAP.out b rfl; have := HAP1.out g1 rfl; omega) hg1
                    go_roundg (gm - 1)
                    case measure => omega
                    case rel => exact ⟨k + 1, by omega, by go_num, by omega, R.1, R.2.1, R.2.2⟩
            · obtain rfl : k = n' := by omega
              rw [List.take_of_length_le (by rw [HMl.out]; exact Nat.le_refl _), HM.out] at hown
              go_wp2_with fail
              go_ret2
              exact ⟨_, rfl, hown, hb⟩

end Go.Proofs.Ytajkmlejklgbbaa
