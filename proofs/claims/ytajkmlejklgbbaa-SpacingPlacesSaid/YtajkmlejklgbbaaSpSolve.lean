/- spring.Solve. -/
import Derived.Test.YtajkmlejklgbbaaSpFnd
import Derived.Test.YtajkmlejklgbbaaSpMin
import Derived.Laws.MakeOwn
namespace Go.Proofs.Ytajkmlejklgbbaa
open Go.RowKit

def fitErr (l : List Spr) (width : Int) : Int := if spErr l ≠ 0 then spErr l else if width < 0 ∨ 67108864 < width then 2 else if width < mins l then 28 else 0
theorem fitErr_zero {l : List Spr} {width : Int} (h : fitErr l width = 0) : spErr l = 0 ∧ 0 ≤ width ∧ width ≤ 67108864 ∧ mins l ≤ width := by
  unfold fitErr at h
  by_cases h1 : spErr l = 0
  · rw [if_neg (by simpa using h1)] at h
    by_cases h2 : width < 0 ∨ 67108864 < width
    · rw [if_pos h2] at h; omega
    · rw [if_neg h2] at h
      by_cases h3 : width < mins l
      · rw [if_pos h3] at h; omega
      · exact ⟨h1, by omega, by omega, by omega⟩
  · rw [if_pos h1] at h; exact absurd h h1

def evenF (l : List Spr) (left : Int) : List Int := l.mapIdx fun i s => s.m + left / (l.length : Int) + if (i : Int) < left % (l.length : Int) then 1 else 0
theorem evenF_len (l : List Spr) (left : Int) : (evenF l left).length = l.length := by simp [evenF]
theorem evenF_get (l : List Spr) (left : Int) {k : Nat} {s : Spr} (h : l[k]? = some s) : (evenF l left)[k]? = some (s.m + left / (l.length : Int) + if (k : Int) < left % (l.length : Int) then 1 else 0) := by
  simp [evenF, h]

/-- what Solve returns -/
structure SolveOut (l : List Spr) (width : Int) (xs : List Int) : Prop where
  len : xs.length = l.length
  even : (∀ s ∈ l, s.n = 0) → xs = evenF l (width - mins l)
  bal : (∃ s ∈ l, 0 < s.n) → Bal l xs width

theorem next_of {l : List Spr} {ns : List Int} {p q gn gd : Int} (hN : Nats l ns) (hq : 1 ≤ q) (hm : (gn, gd) ∈ ns.map fun x => (p * x / q + 1, x)) (hmin : ∀ f ∈ ns.map fun x => (p * x / q + 1, x), gn * f.2 ≤ f.1 * gd) : Next l p q gn gd := by
  obtain ⟨x, hx, e⟩ := List.mem_map.1 hm
  injection e with e1 e2
  subst e2
  obtain ⟨hx0, s, hs, hsx⟩ := hN.sub x hx
  refine ⟨by omega, ?_, ⟨s, hs, by omega, hsx.symm⟩, fun t ht tn k hk => ?_⟩
  · rw [← e1]; exact fl_lt _ _ hq
  · have h1 := hmin _ (List.mem_map.2 ⟨t.n, hN.sup t ht tn, rfl⟩)
    simp only at h1
    have h2 := fl_lt' hq hk
    have h3 : (p * t.n / q + 1) * x ≤ k * x := Int.mul_le_mul_of_nonneg_right (by omega) (by omega)
    omega

theorem growF_len (p q gn gd : Int) (l : List Spr) : ∀ left, (growF p q gn gd l left).length = l.length := by
  induction l with
  | nil => intro left; rfl
  | cons s l ih => intro left; rw [growF]; split <;> simp [ih]

theorem drop_get {α : Type} {X : List α} {k : Nat} {a : α} {t : List α} (h : X.drop k = a :: t) : X[k]? = some a ∧ X.drop (k + 1) = t := by
  constructor
  · have := List.getElem?_drop (xs := X) (i := k) (j := 0)
    rw [h] at this
    simpa using this.symm
  · rw [← List.drop_drop, h]; rfl
theorem growF_grow {p q gn gd left : Int} {l : List Spr} {X : List Int} {k : Nat} {s : Spr} (hX : X.drop k = growF p q gn gd (l.drop k) left) (hs : l[k]? = some s) (h0 : 0 < left) (h1 : lenF s p q < lenF s gn gd) :
    X[k]? = some (lenF s p q + 1) ∧ X.drop (k + 1) = growF p q gn gd (l.drop (k + 1)) (left - 1) := by
  obtain ⟨hk, hsk⟩ := List.getElem?_eq_some_iff.1 hs
  rw [List.drop_eq_getElem_cons hk, hsk, growF, if_pos ⟨h0, h1⟩] at hX
  exact drop_get hX
theorem growF_stay {p q gn gd left : Int} {l : List Spr} {X : List Int} {k : Nat} {s : Spr} (hX : X.drop k = growF p q gn gd (l.drop k) left) (hs : l[k]? = some s) (h : ¬ (0 < left ∧ lenF s p q < lenF s gn gd)) :
    X[k]? = some (lenF s p q) ∧ X.drop (k + 1) = growF p q gn gd (l.drop (k + 1)) left := by
  obtain ⟨hk, hsk⟩ := List.getElem?_eq_some_iff.1 hs
  rw [List.drop_eq_getElem_cons hk, hsk, growF, if_neg h] at hX
  exact drop_get hX

/-- a row of numbers of the call's own, right up to place k -/
structure Part (w wr : World) (g n : Nat) (X : List Int) (k : Nat) : Prop where
  row : ∃ ys : List Int, ys.length = n ∧ wr.ownsRow w.heap.size 3 1 (.slice (some ⟨g, 0, none⟩) n n) n (ys.map (Value.int .i64)) ∧ ∀ j, j < k → ys[j]? = X[j]?
section
variable {w wr w' : World} {g n : Nat} {X : List Int} {k : Nat}
theorem Part.on (h : Part w wr g n X k) (hb : Below wr.heap.size wr w') : Part w w' g n X k := by
  obtain ⟨ys, h1, h2, h3⟩ := h.row
  exact ⟨ys, h1, own_below h2 hb (Nat.le_refl _), h3⟩
theorem Part.put (h : Part w wr g n X k) {x : Int} (hx : X[k]? = some x) (hk : k < n) : Part w (wr.setCell ⟨g, k, none⟩ (.int .i64 x)) g n X (k + 1) := by
  obtain ⟨ys, h1, h2, h3⟩ := h.row
  obtain ⟨h4, -⟩ := h2.stored k (.int .i64 x)
  refine ⟨ys.set k x, by simpa using h1, by rw [List.map_set]; exact h4, fun j hj => ?_⟩
  by_cases e : j = k
  · subst e; rw [List.getElem?_set_self (by omega), hx]
  · rw [List.getElem?_set_ne (by omega)]; exact h3 j (by omega)
theorem Part.tmp (h : Part w wr g n X k) (x : Int) : Part w (wr.setCell ⟨g, k, none⟩ (.int .i64 x)) g n X k := by
  obtain ⟨ys, h1, h2, h3⟩ := h.row
  obtain ⟨h4, -⟩ := h2.stored k (.int .i64 x)
  refine ⟨ys.set k x, by simpa using h1, by rw [List.map_set]; exact h4, fun j hj => ?_⟩
  rw [List.getElem?_set_ne (by omega)]; exact h3 j hj
theorem Part.cell (h : Part w wr g n X k) {j : Nat} (hj : j < n) : g < wr.heap.size ∧ w.heap.size ≤ g ∧ (∃ y : Int, wr.cell? ⟨g, j, none⟩ = some (.int .i64 y)) ∧ wr.frozen? ⟨g, j, none⟩ = false := by
  obtain ⟨ys, h1, h2, h3⟩ := h.row
  obtain ⟨g', cap', hv, hb', hl', hn', hc', hlen', hH⟩ := Go.Lib.holds_of_ownsRow h2 (by intro e; cases e)
  cases hv
  have h5 := hH j (by simp; omega)
  rw [Nat.zero_add] at h5
  exact ⟨hl', hb', ⟨_, h5.1⟩, h5.2⟩
theorem Part.full (h : Part w wr g n X n) (hX : X.length = n) : Rds wr wr.heap.size (some ⟨g, 0, none⟩) (X.map (Value.int .i64)) := by
  obtain ⟨ys, h1, h2, h3⟩ := h.row
  have : ys = X := List.ext_getElem? fun j => by
    by_cases hj : j < n
    · exact h3 j hj
    · rw [List.getElem?_eq_none (by omega), List.getElem?_eq_none (by omega)]
  subst this
  exact Rds.own h2
end

theorem keep5 {B : Nat} {w w' : World} {p1 p2 p3 p4 p5 : Addr} {x y z t u : Value} (h : Below B w w') (a1 : p1.block < B) (a2 : p2.block < B) (a3 : p3.block < B) (a4 : p4.block < B) (a5 : p5.block < B)
    (h1 : w.cell? p1 = some x) (h2 : w.cell? p2 = some y) (h3 : w.cell? p3 = some z) (h4 : w.cell? p4 = some t) (h5 : w.cell? p5 = some u) :
    w'.cell? p1 = some x ∧ w'.cell? p2 = some y ∧ w'.cell? p3 = some z ∧ w'.cell? p4 = some t ∧ w'.cell? p5 = some u ∧ Below B w w' :=
  ⟨(h.cell a1).trans h1, (h.cell a2).trans h2, (h.cell a3).trans h3, (h.cell a4).trans h4, (h.cell a5).trans h5, h⟩
theorem below6 {a b c d f : Prop} {B : Nat} {w w' : World} (h : a ∧ b ∧ c ∧ d ∧ f ∧ Below B w w') : Below B w w' := h.2.2.2.2.2

set_option maxHeartbeats 1000000 in
theorem Solve_err (A : Option Addr) (n c : Nat) (l : List Spr) (width : Int) (w : World) (hn : n = l.length) (hm : n ≤ 9223372036854775807) (h : Rds w w.heap.size A (sprs l)) (he : fitErr l width ≠ 0) :
    Calls Try.prog 30 #[.slice A n c, .int .i64 width] w fun e w' => e = .returned (.tuple #[.slice none 0 0, .int .i64 (fitErr l width)]) ∧ Below w.heap.size w w' := by
  have HN := hide hn
  have HR := hide h
  have he2 : (fitErr l width != 0) = true := by simpa using he
  have hc : Calls Try.prog 41 #[.slice A n c, .int .i64 width] w fun e w' => e = .returned (.int .i64 (fitErr l width)) ∧ Below w.heap.size w w' := spfits_any A n c l width w hn hm h
  obtain ⟨r, hr⟩ : ∃ r, r = fitErr l width := ⟨_, rfl⟩
  rw [← hr] at he2 hc
  rw [← hr]
  have HC := hide hc
  clear hn h he hr hc
  go_enter Try.func30, Try.ntmps30
  go_wp2_with fail
  refine HC.out.mono ?_
  rintro e w1 ⟨rfl, hb1⟩
  go_wp2_with fail
  go_ret2
  exact ⟨rfl, hb1⟩

set_option maxHeartbeats 1000000 in
theorem Solve_nil (A : Option Addr) (c : Nat) (width : Int) (w : World) (he : fitErr [] width = 0) :
    Calls Try.prog 30 #[.slice A 0 c, .int .i64 width] w fun e w' => e = .returned (.tuple #[.slice none 0 0, .int .i64 (if width = 0 then 0 else 28)]) ∧ Below w.heap.size w w' := by
  have hc : Calls Try.prog 41 #[.slice A 0 c, .int .i64 width] w fun e w' => e = .returned (.int .i64 (fitErr [] width)) ∧ Below w.heap.size w w' := spfits_any A 0 c [] width w rfl (by omega) (.inl rfl)
  rw [he] at hc
  have HC := hide hc
  clear he hc
  by_cases h0 : width = 0
  · subst h0
    go_enter Try.func30, Try.ntmps30
    go_wp2_with fail
    refine HC.out.mono ?_
    rintro e w1 ⟨rfl, hb1⟩
    go_wp2_with fail
    go_ret2
    exact ⟨rfl, hb1⟩
  · rw [if_neg h0]
    have h1 : (width != 0) = true := by simpa using h0
    go_enter Try.func30, Try.ntmps30
    go_wp2_with fail
    refine HC.out.mono ?_
    rintro e w1 ⟨rfl, hb1⟩
    go_wp2_with fail
    go_ret2
    exact ⟨rfl, hb1⟩

set_option maxRecDepth 100000 in
set_option maxHeartbeats 4000000 in
theorem Solve_ok2 (A : Option Addr) (n c : Nat) (l : List Spr) (width : Int) (w : World) (hn : n = l.length) (h0 : 0 < n) (h : Rds w w.heap.size A (sprs l)) (he : fitErr l width = 0) :
    Calls Try.prog 30 #[.slice A n c, .int .i64 width] w fun e w' => ∃ (g : Nat) (xs : List Int), e = .returned (.tuple #[.slice (some ⟨g, 0, none⟩) n n, .int .i64 0]) ∧
      Rds w' w'.heap.size (some ⟨g, 0, none⟩) (xs.map (Value.int .i64)) ∧ SolveOut l width xs ∧ Below w.heap.size w w' ∧ w.heap.size ≤ g := by
  obtain ⟨he1, hw0, hw1, hmin⟩ := fitErr_zero he
  obtain ⟨hl8, hok⟩ := spErr_all l he1
  have HN := hide hn
  have HR := hide h
  have HOK := hide hok
  have hn2 : n ≤ 8192 := by omega
  have hc : Calls Try.prog 41 #[.slice A n c, .int .i64 width] w fun e w' => e = .returned (.int .i64 (fitErr l width)) ∧ Below w.heap.size w w' := spfits_any A n c l width w hn (by omega) h
  rw [he] at hc
  have HC := hide hc
  have HMIN := hide hmin
  have h0i : ((n : Int) == 0) = false := by simp; omega
  clear hn h hok he he1 hl8 hc hmin
  go_enter Try.func30, Try.ntmps30
  go_wp2_with fail
  refine HC.out.mono ?_
  rintro e w1 ⟨rfl, hb1⟩
  obtain ⟨i, hi, hz, hi1, hi2⟩ := info_parts (P := Try.prog) (e := 3) (z := .int .i64 0) (size := 1) (bytes := 8) (by kernel_rfl)
  obtain ⟨w8, hrun, hrow, hg8⟩ := run_make_full (P := Try.prog) w1 w.heap.size 51 3 i _ 1 Try.underlying51 hi hz hi1 .i64 .i64 n (by rw [hi2]; omega) (by simp only [maxLen]; omega) hb1.size
  have hb8 : Below w.heap.size w w8 := hb1.grown hg8 hb1.size (fun j hj => by cases hj)
  have hz2 : (madeCells (Value.int IntKind.i64 0).cells (n * 1)).toList = (List.replicate n (0 : Int)).map (Value.int .i64) := by
    rw [List.map_replicate, List.eq_replicate_iff]
    refine ⟨by simp [size_madeCells], fun v hv => ?_⟩
    simp only [madeCells, Array.toList_map, List.mem_map] at hv
    obtain ⟨j, _, rfl⟩ := hv
    have : j % 1 = 0 := Nat.mod_one j
    show (#[Value.int .i64 0])[j % 1]! = _
    rw [this]; rfl
  rw [hz2] at hrow
  have hP0 : ∀ X, Part w w8 w1.heap.size n X 0 := fun X => ⟨_, by simp, hrow, fun j hj => absurd hj (by omega)⟩
  have HP0 := hide hP0
  have HB8 := hide hb8
  obtain ⟨g, hg⟩ : ∃ g, g = w1.heap.size := ⟨_, rfl⟩
  rw [← hg] at hrun HP0
  have HRUN := hide hrun
  clear hi hz hi1 hi2 hrow hg8 hz2 hP0 hb8 hg
  go_wp2_with fail
  refine (naturals_any A n c l _ HN.out hn2 (Rds.on2 HR.out HB8.out) HOK.out).mono ?_
  rintro e w9 ⟨A3, c3, ns, rfl, hr3, hns, hb9, -⟩
  have HB9 := hide (find1_tr HB8.out hb9)
  have HP9 := hide (fun X => (HP0.out X).on hb9)
  have HR3 := hide hr3
  have HNS := hide hns
  obtain ⟨nn, hnn⟩ : ∃ nn, nn = ns.length := ⟨_, rfl⟩
  have HNN := hide hnn
  have hnl : nn ≤ 8192 := by have := hns.len; have := HN.out; omega
  rw [← hnn]
  have hgl := (HP9.out []).cell (j := 0) h0
  have hgw : w.heap.size ≤ g := hgl.2.1
  have hg9 : g < w9.heap.size := hgl.1
  clear hb9 hr3 hns hnn HB8 HP0 HC hgl HRUN hrun
  rcases (show nn = 0 ∨ 0 < nn by omega) with hz | hz
  · subst hz
    have hns : ns = [] := List.eq_nil_of_length_eq_zero HNN.out.symm
    have hall : ∀ s ∈ l, s.n = 0 := fun s hs => by
      have h1 := (Spr.ok_of (HOK.out s hs)).1
      rcases (show s.n = 0 ∨ 0 < s.n by omega) with h2 | h2
      · exact h2
      · have := HNS.out.sup s hs h2
        rw [hns] at this
        cases this
    have HALL := hide hall
    obtain ⟨M, hM⟩ : ∃ M, M = mins l := ⟨_, rfl⟩
    have hMb := mins_bnd l HOK.out
    have hMw := HMIN.out
    rw [← hM] at hMb hMw
    have hlen := HN.out
    obtain ⟨left, hleft⟩ : ∃ left, left = width - M := ⟨_, rfl⟩
    have lf0 : 0 ≤ left := by omega
    have lf1 : left ≤ 67108864 := by omega
    have i1 : IntKind.i64.wrap (width - M) = left := by rw [hleft]; exact IntWalk.i64_in _ (by omega)
    have hmi : ∀ W, Rds W W.heap.size A (sprs l) → Calls Try.prog 43 #[.slice A n c] W fun e w' => e = .returned (.int .i64 M) ∧ Below W.heap.size W w' :=
      fun W hW => by rw [hM]; exact minimal_any A n c l W HN.out hn2 hW HOK.out
    have HMI := hide hmi
    obtain ⟨X, hX⟩ : ∃ X, X = evenF l left := ⟨_, rfl⟩
    have hXlen : X.length = n := by rw [hX, evenF_len]; exact hlen.symm
    have HX := hide hX
    have HXL := hide hXlen
    have HSO := hide (show SolveOut l width X from ⟨by rw [hXlen, hlen], fun _ => by rw [hX, hleft, hM], fun ⟨s, hs, h1⟩ => by have := hall s hs; omega⟩)
    obtain ⟨dv, hdv⟩ : ∃ dv, dv = left / (n : Int) := ⟨_, rfl⟩
    obtain ⟨md, hmd⟩ : ∃ md, md = left % (n : Int) := ⟨_, rfl⟩
    have i2 : left.tdiv (n : Int) = dv := by rw [hdv]; exact Int.tdiv_eq_ediv_of_nonneg lf0
    have i3 : left.tmod (n : Int) = md := by rw [hmd]; exact Int.tmod_eq_emod_of_nonneg lf0
    have dv0 : 0 ≤ dv := by rw [hdv]; exact Int.ediv_nonneg lf0 (by omega)
    have dv1 : dv ≤ 67108864 := by have := Int.ediv_le_self (n : Int) lf0; omega
    have md0 : 0 ≤ md := by rw [hmd]; exact Int.emod_nonneg _ (by omega)
    have md1 : md < n := by rw [hmd]; exact Int.emod_lt_of_pos _ (by omega)
    have i4 : IntKind.i64.wrap dv = dv := IntWalk.i64_in _ (by omega)
    have i5 : IntKind.i64.wrap md = md := IntWalk.i64_in _ (by omega)
    have i6 : ¬ (n : Int) = 0 := by omega
    have hXg := hide (fun (k : Nat) (s : Spr) (hk : l[k]? = some s) => show X[k]? = some (s.m + dv + if (k : Int) < md then 1 else 0) by rw [HX.out, evenF_get l left hk, ← hlen, hdv, hmd])
    clear hns hall hM hMb hMw hleft hmi hX hXlen hdv hmd hlen HX
    go_wp2_with fail
    refine (HMI.out _ (Rds.on2 HR.out HB9.out)).mono ?_
    rintro e w10 ⟨rfl, hb10⟩
    have HB10 := hide (find1_tr HB9.out hb10)
    have HP10 := hide ((HP9.out X).on hb10)
    clear hb10
    go_wp2_with fail
    go_loopg [45] n (fun gk i wr => ∃ k : Nat, k ≤ n ∧ i = .int .i64 k ∧ n ≤ gk + k ∧ Hid (Below w.heap.size w wr) ∧ Hid (Part w wr g n X k))
    case atStart => exact ⟨0, Nat.zero_le _, rfl, by omega, HB10, HP10⟩
    case round =>
      obtain ⟨k, hk, rfl, hgk, HB, HP⟩ := hrel
      by_cases hlt : k < n
      · obtain ⟨x, hx⟩ : ∃ x, l[k]? = some x := ⟨_, List.getElem?_eq_getElem (by have := HN.out; omega)⟩
        obtain ⟨b, off, rfl, hbB, c0, c1⟩ := (Rds.on2 HR.out HB.out).spr hx
        have hxo := Spr.ok_of (HOK.out x (List.mem_of_getElem? hx))
        obtain ⟨hg1, hg2, ⟨y, c2⟩, fz⟩ := HP.out.cell hlt
        have HXK := hide (hXg.out k x hx)
        have j1 : IntKind.i64.wrap (k : Int) = (k : Int) := IntWalk.i64_in _ (by omega)
        have j3 : ((k : Int)).toNat = k := by omega
        have j4 : (0 : Int) ≤ (k : Int) := by omega
        have j5 : (k : Int) < (n : Int) := by omega
        have j6 : IntKind.i64.wrap (x.m + dv) = x.m + dv := IntWalk.i64_in _ (by omega)
        have j7 : IntKind.i64.wrap (x.m + dv + 1) = x.m + dv + 1 := IntWalk.i64_in _ (by omega)
        obtain ⟨hx1, hx2, hx3, hx4⟩ := hxo
        have hsz := HB.out.size
        clear hx
        rcases (show (k : Int) < md ∨ md ≤ (k : Int) by omega) with hmk | hmk
        · have HXK2 := hide (show X[k]? = some (x.m + dv + 1) by rw [HXK.out, if_pos hmk])
          go_upto_region 15 with fail
          go_region
          go_wp2_with fail
          go_roundg (gk - 1)
          case measure => omega
          case rel =>
            refine ⟨k + 1, by omega, by go_num, by omega, hide (((HB.out.setCell hg2 _).setCell hg2 _).alloc (by simp [World.setCell]; omega) _).drew, hide (Part.on ((HP.out.tmp _).put HXK2.out hlt) ((Below.refl _ _).alloc (Nat.le_refl _) _).drew)⟩
        · have HXK2 := hide (show X[k]? = some (x.m + dv) by rw [HXK.out, if_neg (by omega), Int.add_zero])
          have hmk2 : ¬ (k : Int) < md := by omega
          go_upto_region 15 with fail
          go_region
          go_wp2_with fail
          go_roundg (gk - 1)
          case measure => omega
          case rel =>
            refine ⟨k + 1, by omega, by go_num, by omega, hide ((HB.out.setCell hg2 _).alloc (by simp [World.setCell]; omega) _).drew, hide (Part.on (HP.out.put HXK2.out hlt) ((Below.refl _ _).alloc (Nat.le_refl _) _).drew)⟩
      · have hkn : k = n := by omega
        subst hkn
        go_wp2_with fail
        go_ret2
        exact ⟨g, X, rfl, HP.out.full HXL.out, HSO.out, HB.out, hgw⟩
  · have hns0 : ∃ s ∈ l, 0 < s.n := by
      obtain ⟨x, hx⟩ : ∃ x, ns[0]? = some x := ⟨_, List.getElem?_eq_getElem (by have := HNN.out; omega)⟩
      obtain ⟨h1, s, hs, e⟩ := HNS.out.sub x (List.mem_of_getElem? hx)
      exact ⟨s, hs, by omega⟩
    have HPOS := hide hns0
    have hnn0 : ((nn : Int) == 0) = false := by simp; omega
    clear hns0
    go_wp2_with fail
    refine (find_any A n c l width _ HN.out hn2 (Rds.on2 HR.out HB9.out) HOK.out hw0 hw1 HMIN.out).mono ?_
    rintro e w10 ⟨p, q, rfl, hlow, hb10⟩
    have HLOW := hide hlow
    have p0 := hlow.p0
    have pw := hlow.pw
    have q1 := hlow.q1
    have qm := hlow.qm
    have HB10 := hide (find1_tr HB9.out (hb10.alloc hb10.size (.cells #[.int .i64 p, .int .i64 q] 87)))
    have HP10 := hide (fun X => (HP9.out X).on (hb10.alloc hb10.size (.cells #[.int .i64 p, .int .i64 q] 87)))
    have HR10 := hide (Rds.on2 HR3.out (hb10.alloc hb10.size (.cells #[.int .i64 p, .int .i64 q] 87)))
    have HT10 := hide (Two.new (w := w10) p q 87)
    have hs10 := hb10.size
    have hbg : w10.heap.size ≠ g := by omega
    have hbw : w.heap.size ≤ w10.heap.size := by have := HB9.out.size; omega
    have hw11s : w10.heap.size < (w10.alloc (.cells #[.int .i64 p, .int .i64 q] 87)).heap.size := by simp
    clear hlow hb10
    obtain ⟨fs, hfs⟩ : ∃ fs, fs = ns.map fun x => (p * x / q + 1, x) := ⟨_, rfl⟩
    have hfl : fs.length = nn := by rw [hfs, List.length_map]; exact HNN.out.symm
    have hxb : ∀ x ∈ ns, 0 < x ∧ x ≤ 1048576 ∧ 0 ≤ p * x ∧ p * x ≤ 67108864 * 1048576 ∧ 0 ≤ p * x / q ∧ p * x / q ≤ width := by
      intro x hx
      obtain ⟨h1, s, hs, e⟩ := HNS.out.sub x hx
      have h2 := Spr.ok_of (HOK.out s hs)
      have h3 : 0 ≤ p * x := Int.mul_nonneg p0 (by omega)
      refine ⟨h1, by omega, h3, Int.mul_le_mul (by omega) (by omega) (by omega) (by omega), Int.ediv_nonneg h3 (by omega), ?_⟩
      have e1 := lens_ge (a := p) (b := q) (fun t ht => (Spr.ok_of (HOK.out t ht)).2.2.1) hs
      have e2 := HLOW.out.fit
      have e3 : s.n * p / q ≤ lenF s p q := by unfold lenF; omega
      rw [e, Int.mul_comm x p] at e3
      omega
    have hfo : ∀ f ∈ fs, Frc.ok f := by
      intro f hf
      rw [hfs] at hf
      obtain ⟨x, hx, rfl⟩ := List.mem_map.1 hf
      obtain ⟨h1, h2, h3, h4, h5, h6⟩ := hxb x hx
      exact ⟨by show 0 ≤ p * x / q + 1; omega, by show p * x / q + 1 ≤ 268435456; omega, h1, by show x ≤ 268435456; omega⟩
    have HFS := hide hfs
    have HFL := hide hfl
    have HXB := hide hxb
    have HFO := hide hfo
    clear hfs hfl hxb hfo
    go_wp2_with fail
    generalize hw11 : w10.alloc (.cells #[.int .i64 p, .int .i64 q] 87) = w11 at HB10 HP10 HR10 HT10 hw11s ⊢
    clear hw11
    go_loopg [13, 79] nn (fun gk v i wr => ∃ k : Nat, k ≤ nn ∧ i = .int .i64 k ∧ nn ≤ gk + k ∧ Hid (wr.ownsRow w11.heap.size 87 2 v k (frcs (fs.take k))) ∧ Hid (Below w11.heap.size w11 wr))
    case atStart => exact ⟨0, Nat.zero_le _, rfl, by omega, World.ownsRow_nil _ _ _ _, Below.refl _ _⟩
    case round =>
      obtain ⟨k, hk, rfl, hgk, HO, HB⟩ := hrel
      obtain ⟨A1, cc1, rfl, hA1, hcc1, hcc1m⟩ := own_form HO.out
      by_cases hlt : k < nn
      · obtain ⟨x, hx⟩ : ∃ x, ns[k]? = some x := ⟨_, List.getElem?_eq_getElem (by have := HNN.out; omega)⟩
        obtain ⟨bn, on, rfl, hbn, hcn⟩ := (Rds.on2 HR10.out HB.out).get (k := k) (by rw [List.length_map]; exact (List.getElem?_eq_some_iff.1 hx).1)
        have c19 := hcn k (.int .i64 x) (by rw [List.getElem?_map, hx]; rfl)
        obtain ⟨x0, x1, x2, x3, x4, x5⟩ := HXB.out x (List.mem_of_getElem? hx)
        have hT := HT10.out.on HB.out
        have b0 := hT.c0
        have b1 := hT.c1
        have b2 := hT.lt
        have hsz := HB.out.size
        obtain ⟨k0, hk0⟩ : ∃ k0, k0 = p * x / q := ⟨_, rfl⟩
        rw [← hk0] at x4 x5
        have hft : fs.take (k + 1) = fs.take k ++ [(k0 + 1, x)] := by
          rw [List.take_add_one, HFS.out, List.getElem?_map, hx, hk0]; rfl
        have HFT := hide hft
        have i1 : IntKind.i64.wrap (p * x) = p * x := IntWalk.i64_in _ (by omega)
        have i2 : (p * x).tdiv q = k0 := by rw [hk0]; exact Int.tdiv_eq_ediv_of_nonneg x2
        have i3 : IntKind.i64.wrap k0 = k0 := IntWalk.i64_in _ (by omega)
        have i4 : ¬ q = 0 := by omega
        have i5 : IntKind.i64.wrap (k0 + 1) = k0 + 1 := IntWalk.i64_in _ (by omega)
        clear hx hcn hT hk0 hft
        go_wp2_with (at_builtin; go_must (refine wpList_app rfl (.tmp 83) (.tmp 94) 89 rfl w11.heap.size frc_ty _ k (frcs (fs.take k)) rfl (HO.out.alloc _) (wr.heap.size + 1) (some ⟨wr.heap.size, 0, none⟩) 1 1 [.int .i64 (k0 + 1), .int .i64 x] rfl rfl ?_ (by simp; exact ⟨rfl, rfl⟩) (by simp only [maxLen]; omega) (by omega) (by simp; omega) ?_); exact Rds.at_new (by simp) _ _; intro v' w3 o3 g3 b3)
        go_roundg (gk - 1)
        case measure => omega
        case rel =>
          refine ⟨k + 1, by omega, by go_num, by omega, hide ?_, hide (grown_below (v := Value.slice A1 k cc1) (HB.out.alloc hsz _) (HO.out.alloc _) g3 (by simp; omega))⟩
          rw [HFT.out, frcs, List.flatMap_append]
          exact o3
      · have hkn : k = nn := by omega
        subst hkn
        have hall : fs.take k = fs := List.take_of_length_le (by have := HFL.out; omega)
        rw [hall] at HO
        have HRF := hide (Rds.own HO.out)
        have HMN := hide (min_any A1 k cc1 fs wr HFL.out.symm hnl hz HRF.out HFO.out)
        have HBL := hide (find1_tr HB10.out HB.out)
        have HPL := hide (fun X => (HP10.out X).on HB.out)
        have HTL := hide (HT10.out.on HB.out)
        have hsl := HB.out.size
        clear hall hgk
        go_wp2_with fail
        refine HMN.out.mono ?_
        rintro e w12 ⟨gn, gd, rfl, hmem, hmin2, hb12⟩
        have hNX : Next l p q gn gd := next_of HNS.out q1 (by rw [← HFS.out]; exact hmem) (by rw [← HFS.out]; exact hmin2)
        have hfg := Frc.ok_of (HFO.out _ hmem)
        simp only at hfg
        obtain ⟨gn0, gn1, gd0, gd1⟩ := hfg
        have HNX := hide hNX
        have hs12 := hb12.size
        have HB12 := hide (find1_tr HBL.out (hb12.alloc hb12.size (.cells #[.int .i64 gn, .int .i64 gd] 87)))
        have HP12 := hide (fun X => (HPL.out X).on (hb12.alloc hb12.size (.cells #[.int .i64 gn, .int .i64 gd] 87)))
        have HT12 := hide (HTL.out.on (hb12.alloc hb12.size (.cells #[.int .i64 gn, .int .i64 gd] 87)))
        have HG12 := hide (Two.new (w := w12) gn gd 87)
        have hgg : w12.heap.size ≠ g := by omega
        have t0 := HT12.out.c0
        have t1 := HT12.out.c1
        clear hmem hmin2 hNX hb12 HMN HRF HO HB
        obtain ⟨T, hT⟩ : ∃ T, T = lens l p q := ⟨_, rfl⟩
        have HTOT := hide (fun W (hW : Rds W W.heap.size A (sprs l)) => show Calls Try.prog 47 #[.slice A n c, .agg #[.int .i64 p, .int .i64 q]] W fun e w' => e = .returned (.int .i64 T) ∧ Below W.heap.size W w' from by rw [hT]; exact total_any A n c l p q W HN.out hn2 hW HOK.out p0 (by omega) q1 (by omega))
        have hTw : T ≤ width := by rw [hT]; exact HLOW.out.fit
        have hT0 : 0 ≤ T := by
          rw [hT]; exact (lens_bnd l p q HOK.out p0 (by omega) q1).1
        have HTT := hide hT
        have i1 : IntKind.i64.wrap (width - T) = width - T := IntWalk.i64_in _ (by omega)
        clear hT
        go_wp2_with fail
        refine (HTOT.out _ (Rds.on2 HR.out HB12.out)).mono ?_
        rintro e w13 ⟨rfl, hb13⟩
        have HB13 := hide (find1_tr HB12.out hb13)
        have HT13 := hide (HT12.out.on hb13)
        have HG13 := hide (HG12.out.on hb13)
        obtain ⟨X, hX⟩ : ∃ X, X = growF p q gn gd l (width - T) := ⟨_, rfl⟩
        have HP13 := hide ((HP12.out X).on hb13)
        have HX0 := hide (show X.drop 0 = growF p q gn gd (l.drop 0) (width - T) from hX)
        have HXL := hide (show X.length = n by rw [hX, growF_len]; exact HN.out.symm)
        have HSO := hide (show SolveOut l width X from ⟨by rw [hX, growF_len], fun h => by obtain ⟨s, hs, h1⟩ := HPOS.out; have := h s hs; omega, fun _ => by
          rw [hX, HTT.out]
          exact Bal.ofGrow (fun s hs => ⟨(Spr.ok_of (HOK.out s hs)).1, (Spr.ok_of (HOK.out s hs)).2.2.1⟩) q1 HNX.out HLOW.out.fit (HLOW.out.next HNX.out)⟩)
        clear hX hb13 t0 t1
        go_wp2_with fail
        go_loopg [17, 106] n (fun gk s17 i wr => ∃ (k : Nat) (left : Int), k ≤ n ∧ i = .int .i64 k ∧ n ≤ gk + k ∧ s17 = .int .i64 left ∧ 0 ≤ left ∧ left ≤ 67108864 ∧ Hid (X.drop k = growF p q gn gd (l.drop k) left) ∧ Hid (Below w.heap.size w wr) ∧ Hid (Part w wr g n X k) ∧ Hid (Two wr w10.heap.size p q) ∧ Hid (Two wr w12.heap.size gn gd))
        case atStart => exact ⟨0, width - T, Nat.zero_le _, rfl, by omega, rfl, by omega, by omega, HX0, HB13, HP13, HT13, HG13⟩
        case round =>
          obtain ⟨k, left, hk, rfl, hgk, rfl, lf0, lf1, HXK, HB, HP, HT, HG⟩ := hrel
          by_cases hlt : k < n
          · obtain ⟨x, hx⟩ : ∃ x, l[k]? = some x := ⟨_, List.getElem?_eq_getElem (by have := HN.out; omega)⟩
            obtain ⟨b, off, rfl, hbB, c0, c1⟩ := (Rds.on2 HR.out HB.out).spr hx
            have hxok := HOK.out x (List.mem_of_getElem? hx)
            have HXO := hide hxok
            have hLf := (lenF_bnd hxok p0 (by omega) q1).2.2.2.2
            have hLg := (lenF_bnd hxok gn0 gn1 gd0).2.2.2.2
            obtain ⟨Lf, hLf2⟩ : ∃ Lf, Lf = lenF x p q := ⟨_, rfl⟩
            obtain ⟨Lg, hLg2⟩ : ∃ Lg, Lg = lenF x gn gd := ⟨_, rfl⟩
            rw [← hLf2] at hLf
            rw [← hLg2] at hLg
            obtain ⟨f0, f1⟩ := hLf
            obtain ⟨f2, f3⟩ := hLg
            have HCF := hide (fun W => show Calls Try.prog 48 #[.agg #[.int .i64 x.n, .int .i64 x.m], .agg #[.int .i64 p, .int .i64 q]] W fun e w' => e = .returned (.int .i64 Lf) ∧ Below W.heap.size W w' from by rw [hLf2]; exact length_any x p q W hxok p0 (by omega) q1 (by omega))
            have HCG := hide (fun W => show Calls Try.prog 48 #[.agg #[.int .i64 x.n, .int .i64 x.m], .agg #[.int .i64 gn, .int .i64 gd]] W fun e w' => e = .returned (.int .i64 Lg) ∧ Below W.heap.size W w' from by rw [hLg2]; exact length_any x gn gd W hxok gn0 gn1 gd0 gd1)
            have HXX := hide hx
            have HLf := hide hLf2
            have HLg := hide hLg2
            have t0 := HT.out.c0
            have t1 := HT.out.c1
            have t2 := HT.out.lt
            have g0 := HG.out.c0
            have g1 := HG.out.c1
            have g2 := HG.out.lt
            obtain ⟨hg1, hg2, ⟨y, c2⟩, fz⟩ := HP.out.cell hlt
            have j1 : IntKind.i64.wrap (k : Int) = (k : Int) := IntWalk.i64_in _ (by omega)
            have j3 : ((k : Int)).toNat = k := by omega
            have j4 : (0 : Int) ≤ (k : Int) := by omega
            have j5 : (k : Int) < (n : Int) := by omega
            have hsz := HB.out.size
            clear hx hxok hLf2 hLg2
            go_wp2_with fail
            refine (HCF.out _).mono ?_
            rintro e w14 ⟨rfl, hb14⟩
            have bA : Below wr.heap.size wr (wr.alloc (.cells #[.int .i64 x.n, .int .i64 x.m] 38)) := (Below.refl _ _).alloc (Nat.le_refl _) _
            have hsA := hb14.size
            have hsA2 : (wr.alloc (.cells #[.int .i64 x.n, .int .i64 x.m] 38)).heap.size = wr.heap.size + 1 := by simp
            have bB := bA.trans (hb14.mono (by omega))
            have HB14 := hide (find1_tr HB.out bB)
            have HP14 := hide (HP.out.on bB)
            have HT14 := hide (HT.out.on bB)
            have HG14 := hide (HG.out.on bB)
            have e0 : w14.cell? ⟨wr.heap.size, 0, none⟩ = some (.int .i64 x.n) := (hb14.cell (p := ⟨wr.heap.size, 0, none⟩) (by simp)).trans (by simp [go_sem])
            have e1 : w14.cell? ⟨wr.heap.size, 1, none⟩ = some (.int .i64 x.m) := (hb14.cell (p := ⟨wr.heap.size, 1, none⟩) (by simp)).trans (by simp [go_sem])
            obtain ⟨-, -, ⟨y2, c3'⟩, fz2⟩ := HP14.out.cell hlt
            have hwg : wr.heap.size ≠ g := by omega
            clear bA hsz bB hb14 c2 fz t0 t1 g0 g1 c0 c1
            go_upto_region 33 with fail
            have D0 := hide ((World.cell?_setCell_other w14 ⟨g, k, none⟩ ⟨wr.heap.size, 0, none⟩ (.int .i64 Lf) (by intro e; injection e with e; omega)).trans e0)
            have D1 := hide ((World.cell?_setCell_other w14 ⟨g, k, none⟩ ⟨wr.heap.size, 1, none⟩ (.int .i64 Lf) (by intro e; injection e with e; omega)).trans e1)
            have D4 := hide (World.cell?_setCell_same w14 ⟨g, k, none⟩ (.int .i64 Lf) c3')
            have HTB := hide (HT14.out.far (i := k) (Ne.symm hbg) (.int .i64 Lf))
            have HGB := hide (HG14.out.far (i := k) (Ne.symm hgg) (.int .i64 Lf))
            have D2 := hide HGB.out.c0
            have D3 := hide HGB.out.c1
            have HBB := hide (HB14.out.setCell (p := ⟨g, k, none⟩) hg2 (.int .i64 Lf))
            have HPT := hide (HP14.out.tmp Lf)
            have HPP := hide (fun (hx : X[k]? = some Lf) => HP14.out.put hx hlt)
            have sB : (w14.setCell ⟨g, k, none⟩ (.int .i64 Lf)).heap.size = w14.heap.size := by simp [World.setCell]
            generalize w14.setCell ⟨g, k, none⟩ (.int .i64 Lf) = wB at D0 D1 D2 D3 D4 HTB HGB HBB HPT HPP sB ⊢
            have l1 : wr.heap.size < wB.heap.size := by omega
            have l2 : w12.heap.size < wB.heap.size := by omega
            have l3 : g < wB.heap.size := by omega
            have d4 := D4.out
            clear e0 e1 c3' fz2 sB hsA hsA2 HP14 HT14 HG14 HB14
            rcases (show left = 0 ∨ (0 < left ∧ Lf < Lg) ∨ (0 < left ∧ Lg ≤ Lf) by omega) with hl0 | ⟨hl0, hl1⟩ | ⟨hl0, hl1⟩
            · subst hl0
              obtain ⟨hX1, hX2⟩ := growF_stay HXK.out HXX.out (by omega)
              have HPN := hide (HPP.out (by rw [HLf.out]; exact hX1))
              have HX2 := hide hX2
              clear hX1 hX2
              go_quiet (fail)
              go_wp2_with fail
              go_roundg (gk - 1)
              case measure => omega
              case rel =>
                refine ⟨k + 1, 0, by omega, by go_num, by omega, rfl, by omega, by omega, HX2, hide (below_drewN HBB.out _), hide (HPN.out.on (below_drewN (Below.refl _ _) _)), hide (HTB.out.on (below_drewN (Below.refl _ _) _)), hide (HGB.out.on (below_drewN (Below.refl _ _) _))⟩
            · obtain ⟨hX1, hX2⟩ := growF_grow HXK.out HXX.out hl0 (by rw [← HLf.out, ← HLg.out]; exact hl1)
              have HX1 := hide (show X[k]? = some (Lf + 1) by rw [HLf.out]; exact hX1)
              have HX2 := hide hX2
              have n1 : IntKind.i64.wrap (Lf + 1) = Lf + 1 := IntWalk.i64_in _ (by omega)
              have n2 : IntKind.i64.wrap (left - 1) = left - 1 := IntWalk.i64_in _ (by omega)
              clear hX1 hX2
              go_region_held3 (fun w' => w'.cell? ⟨wr.heap.size, 0, none⟩ = some (.int .i64 x.n) ∧ w'.cell? ⟨wr.heap.size, 1, none⟩ = some (.int .i64 x.m) ∧ w'.cell? ⟨w12.heap.size, 0, none⟩ = some (.int .i64 gn) ∧ w'.cell? ⟨w12.heap.size, 1, none⟩ = some (.int .i64 gd) ∧ w'.cell? ⟨g, k, none⟩ = some (.int .i64 Lf) ∧ Below wB.heap.size wB w')
                (first | (go_keep; done) | (exact keep5 (Below.drew (Below.refl _ _)) l1 l1 l2 l2 l3 D0.out D1.out D2.out D3.out D4.out) | (exact keep5 (find1_tr (below6 (by assumption)) (by assumption)) l1 l1 l2 l2 l3 D0.out D1.out D2.out D3.out D4.out) | (exact keep5 (Below.drew (below6 (by assumption))) l1 l1 l2 l2 l3 D0.out D1.out D2.out D3.out D4.out))
                (first | (go_at_call 48; refine (HCG.out _).mono ?_; rintro e w' ⟨rfl, hb'⟩))
              have hBB := below6 (show _ by assumption)
              have HPC := hide (HPT.out.on hBB)
              have HTC := hide (HTB.out.on hBB)
              have HGC := hide (HGB.out.on hBB)
              have HBC := hide (find1_tr HBB.out hBB)
              have c6 := (hBB.cell (p := ⟨g, k, none⟩) l3).trans D4.out
              obtain ⟨-, -, -, fz3⟩ := HPC.out.cell hlt
              clear hBB hb' d4
              go_wp2_with fail
              go_roundg (gk - 1)
              case measure => omega
              case rel =>
                refine ⟨k + 1, left - 1, by omega, by go_num, by omega, rfl, by omega, by omega, HX2, hide (HBC.out.setCell hg2 _), hide (HPC.out.put HX1.out hlt), hide (HTC.out.far (Ne.symm hbg) _), hide (HGC.out.far (Ne.symm hgg) _)⟩
            · obtain ⟨hX1, hX2⟩ := growF_stay HXK.out HXX.out (by rw [← HLf.out, ← HLg.out]; omega)
              have HPN := hide (HPP.out (by rw [HLf.out]; exact hX1))
              have HX2 := hide hX2
              have hl2 : ¬ Lf < Lg := by omega
              clear hX1 hX2
              go_region_held3 (fun w' => w'.cell? ⟨wr.heap.size, 0, none⟩ = some (.int .i64 x.n) ∧ w'.cell? ⟨wr.heap.size, 1, none⟩ = some (.int .i64 x.m) ∧ w'.cell? ⟨w12.heap.size, 0, none⟩ = some (.int .i64 gn) ∧ w'.cell? ⟨w12.heap.size, 1, none⟩ = some (.int .i64 gd) ∧ w'.cell? ⟨g, k, none⟩ = some (.int .i64 Lf) ∧ Below wB.heap.size wB w')
                (first | (go_keep; done) | (exact keep5 (Below.drew (Below.refl _ _)) l1 l1 l2 l2 l3 D0.out D1.out D2.out D3.out D4.out) | (exact keep5 (find1_tr (below6 (by assumption)) (by assumption)) l1 l1 l2 l2 l3 D0.out D1.out D2.out D3.out D4.out) | (exact keep5 (Below.drew (below6 (by assumption))) l1 l1 l2 l2 l3 D0.out D1.out D2.out D3.out D4.out))
                (first | (go_at_call 48; refine (HCG.out _).mono ?_; rintro e w' ⟨rfl, hb'⟩))
              have hBB := below6 (show _ by assumption)
              clear hb' d4
              go_wp2_with fail
              go_roundg (gk - 1)
              case measure => omega
              case rel =>
                refine ⟨k + 1, left, by omega, by go_num, by omega, rfl, by omega, by omega, HX2, hide (find1_tr HBB.out hBB), hide (HPN.out.on hBB), hide (HTB.out.on hBB), hide (HGB.out.on hBB)⟩
          · have hkn : k = n := by omega
            subst hkn
            go_wp2_with fail
            go_ret2
            exact ⟨g, X, rfl, HP.out.full HXL.out, HSO.out, HB.out, hgw⟩

theorem Solve_ok (A : Option Addr) (n c : Nat) (l : List Spr) (width : Int) (w : World) (hn : n = l.length) (h0 : 0 < n) (h : Rds w w.heap.size A (sprs l)) (he : fitErr l width = 0) :
    Calls Try.prog 30 #[.slice A n c, .int .i64 width] w fun e w' => ∃ (g : Nat) (xs : List Int), e = .returned (.tuple #[.slice (some ⟨g, 0, none⟩) n n, .int .i64 0]) ∧
      Rds w' w'.heap.size (some ⟨g, 0, none⟩) (xs.map (Value.int .i64)) ∧ SolveOut l width xs ∧ Below w.heap.size w w' :=
  (Solve_ok2 A n c l width w hn h0 h he).mono fun _ _ ⟨g, xs, h1, h2, h3, h4, _⟩ => ⟨g, xs, h1, h2, h3, h4⟩

end Go.Proofs.Ytajkmlejklgbbaa
