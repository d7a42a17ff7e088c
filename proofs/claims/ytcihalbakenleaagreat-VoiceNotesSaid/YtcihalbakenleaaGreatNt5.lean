/- Part 5 of what the statements need: lemmas and walks. -/
import Derived.Test.YtcihalbakenleaaGreatNt4
set_option linter.unusedVariables false
set_option maxRecDepth 20000
set_option maxHeartbeats 8000000
namespace Go.Proofs.YtcihalbakenleaaGreat
open Go.RowKit
/-- a tuplet of n events -/
def Tp.inR (t : Tp) (n : Int) : Prop := 1 ≤ t.count ∧ t.count ≤ n ∧ 0 ≤ t.first ∧ t.first ≤ n - t.count ∧ (1 ≤ t.actual ∧ t.actual ≤ 32) ∧ (1 ≤ t.normal ∧ t.normal ≤ 32) ∧ t.actual ≠ t.normal
instance (t : Tp) (n : Int) : Decidable (t.inR n) := by unfold Tp.inR; exact inferInstance
theorem Tp.inR.ok {t : Tp} {n : Int} (h : t.inR n) (hn : n ≤ 128) : t.ok := by unfold Tp.inR at h; unfold Tp.ok; omega
/-- the tuplets that still are open, the last one first -/
def popR (t : Tp) : List Tp → List Tp
 | [] => []
 | o :: r => if o.e ≤ t.first then popR t r else o :: r
def overR (t : Tp) (s : List Tp) : Prop := s.length = 3 ∨ match s with | [] => False | o :: _ => o.e < t.e
instance (t : Tp) (s : List Tp) : Decidable (overR t s) := by unfold overR; cases s <;> exact inferInstance
def afterO (p : Option Tp) (t : Tp) : Prop := match p with | some q => 0 < ordS q t | none => False
instance (p : Option Tp) (t : Tp) : Decidable (afterO p t) := by unfold afterO; cases p <;> exact inferInstance
def tupGo (n : Int) : Option Tp → List Tp → List Tp → Int
 | _, _, [] => 0
 | p, s, t :: l => if ¬ t.inR n then 2 else if afterO p t then 25 else if overR t (popR t s) then 21 else tupGo n (some t) (t :: popR t s) l
/-- the first error of tuplets -/
def tupErr (l : List Tp) (n : Int) : Int := if n < 0 ∨ 128 < n then 2 else if 16 < l.length then 9 else tupGo n none [] l
def stk (l : List Tp) (k : Nat) : List Tp := (l.take k).foldl (fun s t => t :: popR t s) []
def prevT (l : List Tp) (k : Nat) : Option Tp := match k with | 0 => none | k + 1 => l[k]?
theorem stk_succ {l : List Tp} {k : Nat} {t : Tp} (h : l[k]? = some t) : stk l (k + 1) = t :: popR t (stk l k) := by
 unfold stk; rw [take_snoc h, List.foldl_append]; rfl
theorem prevT_succ (l : List Tp) (k : Nat) : prevT l (k + 1) = l[k]? := rfl
theorem popR_sub (t : Tp) (s : List Tp) : ∀ x ∈ popR t s, x ∈ s := by
 induction s with
 | nil => exact fun x hx => hx
 | cons o r ih =>
  intro x hx
  unfold popR at hx
  split at hx
  ·exact List.mem_cons_of_mem _ (ih x hx)
  ·exact hx
theorem popR_len (t : Tp) (s : List Tp) : (popR t s).length ≤ s.length := by
 induction s with
 | nil => exact Nat.le_refl _
 | cons o r ih =>
  unfold popR
  split
  ·exact Nat.le_trans ih (Nat.le_succ _)
  ·exact Nat.le_refl _
theorem popR_yes {t o : Tp} {r s : List Tp} (hs : s = o :: r) (h : o.e ≤ t.first) : popR t s = popR t r := by rw [hs, popR, if_pos h]
theorem popR_no {t o : Tp} {r s : List Tp} (hs : s = o :: r) (h : ¬ o.e ≤ t.first) : popR t s = s := by rw [hs, popR, if_neg h]
theorem popR_nil {t : Tp} {s : List Tp} (hs : ¬ (0 : Int) < s.reverse.length) : popR t s = s := by
 have : s = [] := List.eq_nil_of_length_eq_zero (by rw [List.length_reverse] at hs; omega)
 rw [this]; rfl
theorem top_ex {s : List Tp} (h : (0 : Int) < s.reverse.length) : ∃ o r, s = o :: r := by
 cases s with
 | nil => simp at h
 | cons o r => exact ⟨o, r, rfl⟩
theorem top_get {s r : List Tp} {o : Tp} (h : s = o :: r) : s.reverse[s.length - 1]? = some o := by rw [h]; simp
theorem top_ix {s r : List Tp} {o : Tp} (h : s = o :: r) : ((s.reverse).length : Int) - 1 = ((s.length - 1 : Nat) : Int) := by rw [h]; simp
theorem top_lt {s r : List Tp} {o : Tp} (h : s = o :: r) : s.length - 1 < s.reverse.length := by rw [h]; simp
theorem top_cut {s r : List Tp} {o : Tp} (h : s = o :: r) : some (XO.row 102 4 ((s.reverse.map Tp.c).take (s.length - 1))) = some (XO.row 102 4 (r.reverse.map Tp.c)) := by
 rw [h, ← List.map_take]; simp
theorem top_push {s : List Tp} {t : Tp} {l : List Tp} (h : l = t :: s) : some (XO.row 102 4 (s.reverse.map Tp.c ++ [Tp.c t])) = some (XO.row 102 4 (l.reverse.map Tp.c)) := by
 rw [h]; simp
theorem over_3 {t : Tp} {s : List Tp} (h : (s.reverse.length : Int) = 3) : overR t s := .inl (by rw [List.length_reverse] at h; omega)
theorem over_top {t o : Tp} {s r : List Tp} (hs : s = o :: r) (h : o.e < t.e) : overR t s := by subst hs; exact .inr h
theorem over_no {t o : Tp} {s r : List Tp} (h3 : ¬ (s.reverse.length : Int) = 3) (hs : s = o :: r) (h : ¬ o.e < t.e) : ¬ overR t s := by
 subst hs; rw [List.length_reverse] at h3; exact fun k => k.elim (fun k => by omega) h
theorem over_nil {t : Tp} {s : List Tp} (h3 : ¬ (s.reverse.length : Int) = 3) (h : ¬ (0 : Int) < s.reverse.length) : ¬ overR t s := by
 have : s = [] := List.eq_nil_of_length_eq_zero (by rw [List.length_reverse] at h; omega)
 subst this; exact fun k => k.elim (fun k => by simp at k) fun k => k
theorem tupGo_range {n : Int} {l : List Tp} {k : Nat} {t : Tp} {p s} (h : l[k]? = some t) (h1 : ¬ t.inR n) : tupGo n p s (l.drop k) = 2 := by rw [drop_cons h, tupGo, if_pos h1]
theorem tupGo_order {n : Int} {l : List Tp} {k : Nat} {t : Tp} {p s} (h : l[k]? = some t) (h1 : t.inR n) (h2 : afterO p t) : tupGo n p s (l.drop k) = 25 := by rw [drop_cons h, tupGo, if_neg (fun h => h h1), if_pos h2]
theorem tupGo_over {n : Int} {l : List Tp} {k : Nat} {t : Tp} {p s} (h : l[k]? = some t) (h1 : t.inR n) (h2 : ¬ afterO p t) (h3 : overR t (popR t s)) : tupGo n p s (l.drop k) = 21 := by rw [drop_cons h, tupGo, if_neg (fun h => h h1), if_neg h2, if_pos h3]
theorem tupGo_next {n : Int} {l : List Tp} {k : Nat} {t : Tp} {p s} (h : l[k]? = some t) (h1 : t.inR n) (h2 : ¬ afterO p t) (h3 : ¬ overR t (popR t s)) : tupGo n p s (l.drop k) = tupGo n (some t) (t :: popR t s) (l.drop (k + 1)) := by
 rw [drop_cons h, tupGo, if_neg (fun h => h h1), if_neg h2, if_neg h3]
theorem tup_1 {l : List Tp} {n : Int} (h : n < 0 ∨ 128 < n) : 2 = tupErr l n := by rw [tupErr, if_pos h]
theorem tup_2 {l : List Tp} {n : Int} (h : ¬ n < 0) (h1 : ¬ 128 < n) (h2 : 16 < (l.length : Int)) : 9 = tupErr l n := by rw [tupErr, if_neg (by omega), if_pos (by omega)]
theorem tup_3 {l : List Tp} {n e : Int} (h : ¬ n < 0) (h1 : ¬ 128 < n) (h2 : ¬ 16 < (l.length : Int)) (he : e = tupGo n none [] l) : e = tupErr l n := by rw [tupErr, if_neg (by omega), if_neg (by omega), he]
theorem after_zero {l : List Tp} {k : Nat} {t : Tp} (h : ¬ (0 : Int) < k) : ¬ afterO (prevT l k) t := by
 have : k = 0 := by omega
 subst this; exact fun h => h
theorem after_at {l : List Tp} {k : Nat} {t q : Tp} (hk : 0 < k) (h : l[k - 1]? = some q) : afterO (prevT l k) t ↔ 0 < ordS q t := by
 cases k with
 | zero => omega
 | succ k => rw [prevT_succ, show l[k]? = some q from h]; exact Iff.rfl
theorem tcheck_xc (l : List Tp) (n : Int) : XC Tryz.prog 139 [.sl 4 (l.map Tp.c), .v (.int .i64 n)] (fun r => r = dI (tupErr l n)) := by
 refine xc_body callable_139 Tryz.func139 rfl rfl (Nat.le_of_ble_eq_true rfl) ?_
 refine zr ?_
 refine za rfl rfl ?_
 refine zn ?_
 refine zs ?_
 refine zr ?_
 refine zm rfl rfl ?_
 refine zp (p_lss rfl rfl rfl) ?_
 refine zm rfl rfl ?_
 refine XL.dec 11 rfl (fun g11 => ?_) (fun g11 => ?_)
 refine zk 2 rfl ?_
 refine zq rfl rfl rfl ?_
 refine zn ?_
 refine xw_true (by kernel_rfl) rfl ?_
 refine zr ?_
 refine za rfl rfl ?_
 refine zn ?_
 refine zt ?_
 exact z1 rfl rfl (rI (tup_1 (by omega)))
 refine zm rfl rfl ?_
 refine zp (p_gtr rfl rfl rfl) ?_
 refine zq rfl rfl rfl ?_
 refine zn ?_
 refine zd rfl (fun c14 => ?_) (fun c14 => ?_)
 refine zr ?_
 refine za rfl rfl ?_
 refine zn ?_
 refine zt ?_
 exact z1 rfl rfl (rI (tup_1 (by omega)))
 refine zi ?_
 refine zs ?_
 refine zr ?_
 refine zm rfl rfl ?_
 refine XL.len rfl rfl rfl Tryz.underlying23 (fun hl16 => ?_)
 refine zp (p_gtr rfl rfl rfl) ?_
 refine zn ?_
 refine zd rfl (fun c17 => ?_) (fun c17 => ?_)
 refine zr ?_
 refine za rfl rfl ?_
 refine zn ?_
 refine zt ?_
 exact z1 rfl rfl (rI (tup_2 g11 c14 c17))
 refine zi ?_
 refine zr ?_
 refine XL.step rfl (st_allocN 5 (l := [.d (.v (.slice none 0 0))]) rfl zero_23 (by kernel_rfl)) ?_
 refine znr ?_
 refine zp (p_fn rfl) ?_
 refine zp (p_assign rfl (by conv => lhs; whnf)) ?_
 refine zn ?_
 refine zs ?_
 refine zr ?_
 refine zm rfl rfl ?_
 refine XL.len rfl rfl rfl Tryz.underlying23 (fun hl20 => ?_)
 refine zm rfl rfl ?_
 refine zn ?_
 refine xw_block ?_
 refine xw_ownnil_box 900 5 0 102 4 (l' := [.own 900]) rfl rfl (by decide) (by kernel_rfl) ?_
 refine xw_loop (α := Nat) (fun k => k ≤ l.length ∧ tupGo n (prevT l k) (stk l k) (l.drop k) = tupGo n none [] l ∧ (stk l k).length ≤ 3 ∧ ∀ t ∈ stk l k, t.inR n) (fun k => mkF [(0, .d (.sl 4 (l.map Tp.c))), (1, .d (dI n)), (6, .fn 165 [] [.ptr 5 0 0]), (19, .d (.sl 4 (l.map Tp.c))), (20, .d (dI l.length)), (21, .d (dI k))]) (fun k => mkH [(5, .box [.own 900]), (900, .row 102 4 ((stk l k).reverse.map Tp.c))]) (fun k => l.length - k) (0) (⟨Nat.zero_le _, by rw [List.drop_zero]; rfl, Nat.zero_le _, fun t ht => by cases ht⟩) ?_ ?_ ?_
 exact fz ⟨sr, sr, sr, sr, sr, sr, trivial⟩
 exact gz ⟨rfl, rfl, trivial⟩
 intro k hk0
 obtain ⟨hk, hgo, hst, hall⟩ := hk0
 refine zr ?_
 refine zp (p_lss rfl rfl rfl) ?_
 refine zn ?_
 refine zs ?_
 refine zd rfl (fun c22 => ?_) (fun c22 => ?_)
 have hk0a : k < l.length := by omega
 obtain ⟨x0, hx0⟩ := get_ex hk0a
 refine zi ?_
 refine zs ?_
 refine xw_block ?_
 refine zr ?_
 refine zm rfl rfl ?_
 refine zp (p_idx_map rfl rfl rfl el_23 hx0) ?_
 refine zp (pure_eq (s' := .d (.agg (Tp.c x0))) (p_load_pts rfl rfl agg_102 (Nat.le_of_ble_eq_true rfl)) (by kernel_rfl)) ?_
 refine XL.step rfl (st_allocN 8 (l := [.d (dI 0), .d (dI 0), .d (dI 0), .d (dI 0)]) rfl zero_102 (by kernel_rfl)) ?_
 refine za rfl rfl ?_
 refine XL.step rfl (st_storeN (l' := [.d (dI x0.first), .d (dI x0.count), .d (dI x0.actual), .d (dI x0.normal)]) rfl rfl rfl rfl sz_102 rfl (Nat.le_of_ble_eq_true rfl) (by kernel_rfl)) ?_
 refine zn ?_
 refine zs ?_
 refine zr ?_
 refine zp (p_fld_ptr rfl rfl fld_102_1) ?_
 refine zp (p_load_box rfl rfl sc_3 rfl rfl) ?_
 refine zp (p_lss rfl rfl rfl) ?_
 refine zm rfl rfl ?_
 refine XL.dec 29 rfl (fun g29 => ?_) (fun g29 => ?_)
 refine zk 4 rfl ?_
 refine zq rfl rfl rfl ?_
 refine zm rfl rfl ?_
 refine zk 3 rfl ?_
 refine zq rfl rfl rfl ?_
 refine zm rfl rfl ?_
 refine zk 7 rfl ?_
 refine zq rfl rfl rfl ?_
 refine zm rfl rfl ?_
 refine zk 4 rfl ?_
 refine zq rfl rfl rfl ?_
 refine zm rfl rfl ?_
 refine zk 4 rfl ?_
 refine zq rfl rfl rfl ?_
 refine zm rfl rfl ?_
 refine zk 5 rfl ?_
 refine zq rfl rfl rfl ?_
 refine zn ?_
 refine xw_true (by kernel_rfl) rfl ?_
 refine zr ?_
 refine za rfl rfl ?_
 refine zn ?_
 refine zt ?_
 exact z1 rfl rfl (rI (tup_3 g11 c14 c17 (by rw [← hgo, tupGo_range hx0 (by unfold Tp.inR; omega)])))
 refine zp (p_fld_ptr rfl rfl fld_102_1) ?_
 refine zp (p_load_box rfl rfl sc_3 rfl rfl) ?_
 refine zm rfl rfl ?_
 refine zp (p_gtr rfl rfl rfl) ?_
 refine zq rfl rfl rfl ?_
 refine zm rfl rfl ?_
 refine XL.dec 35 rfl (fun g35 => ?_) (fun g35 => ?_)
 refine zk 3 rfl ?_
 refine zq rfl rfl rfl ?_
 refine zm rfl rfl ?_
 refine zk 7 rfl ?_
 refine zq rfl rfl rfl ?_
 refine zm rfl rfl ?_
 refine zk 4 rfl ?_
 refine zq rfl rfl rfl ?_
 refine zm rfl rfl ?_
 refine zk 4 rfl ?_
 refine zq rfl rfl rfl ?_
 refine zm rfl rfl ?_
 refine zk 5 rfl ?_
 refine zq rfl rfl rfl ?_
 refine zn ?_
 refine xw_true (by kernel_rfl) rfl ?_
 refine zr ?_
 refine za rfl rfl ?_
 refine zn ?_
 refine zt ?_
 exact z1 rfl rfl (rI (tup_3 g11 c14 c17 (by rw [← hgo, tupGo_range hx0 (by unfold Tp.inR; omega)])))
 refine zp (p_fld_ptr rfl rfl fld_102_0) ?_
 refine zp (p_load_box rfl rfl sc_3 rfl rfl) ?_
 refine zp (p_lss rfl rfl rfl) ?_
 refine zq rfl rfl rfl ?_
 refine zm rfl rfl ?_
 refine XL.dec 40 rfl (fun g40 => ?_) (fun g40 => ?_)
 refine zk 7 rfl ?_
 refine zq rfl rfl rfl ?_
 refine zm rfl rfl ?_
 refine zk 4 rfl ?_
 refine zq rfl rfl rfl ?_
 refine zm rfl rfl ?_
 refine zk 4 rfl ?_
 refine zq rfl rfl rfl ?_
 refine zm rfl rfl ?_
 refine zk 5 rfl ?_
 refine zq rfl rfl rfl ?_
 refine zn ?_
 refine xw_true (by kernel_rfl) rfl ?_
 refine zr ?_
 refine za rfl rfl ?_
 refine zn ?_
 refine zt ?_
 exact z1 rfl rfl (rI (tup_3 g11 c14 c17 (by rw [← hgo, tupGo_range hx0 (by unfold Tp.inR; omega)])))
 refine zp (p_fld_ptr rfl rfl fld_102_0) ?_
 refine zp (p_load_box rfl rfl sc_3 rfl rfl) ?_
 refine zm rfl rfl ?_
 refine zp (p_fld_ptr rfl rfl fld_102_1) ?_
 refine zp (p_load_box rfl rfl sc_3 rfl rfl) ?_
 refine zp (p_sub rfl rfl rfl (by omega) (by omega)) ?_
 refine zp (p_gtr rfl rfl rfl) ?_
 refine zq rfl rfl rfl ?_
 refine zm rfl rfl ?_
 refine XL.dec 49 rfl (fun g49 => ?_) (fun g49 => ?_)
 refine zk 4 rfl ?_
 refine zq rfl rfl rfl ?_
 refine zm rfl rfl ?_
 refine zk 4 rfl ?_
 refine zq rfl rfl rfl ?_
 refine zm rfl rfl ?_
 refine zk 5 rfl ?_
 refine zq rfl rfl rfl ?_
 refine zn ?_
 refine xw_true (by kernel_rfl) rfl ?_
 refine zr ?_
 refine za rfl rfl ?_
 refine zn ?_
 refine zt ?_
 exact z1 rfl rfl (rI (tup_3 g11 c14 c17 (by rw [← hgo, tupGo_range hx0 (by unfold Tp.inR; omega)])))
 refine zp (p_fld_ptr rfl rfl fld_102_2) ?_
 refine zp (p_load_box rfl rfl sc_3 rfl rfl) ?_
 refine XL.call1 rfl rfl (ratio_xc _) rfl ?_
 refine zp (p_notdec rfl rfl) ?_
 refine zq rfl rfl rfl ?_
 refine zm rfl rfl ?_
 refine XL.dec 55 rfl (fun g55 => ?_) (fun g55 => ?_)
 refine zk 4 rfl ?_
 refine zq rfl rfl rfl ?_
 refine zm rfl rfl ?_
 refine zk 5 rfl ?_
 refine zq rfl rfl rfl ?_
 refine zn ?_
 refine xw_true (by kernel_rfl) rfl ?_
 refine zr ?_
 refine za rfl rfl ?_
 refine zn ?_
 refine zt ?_
 exact z1 rfl rfl (rI (tup_3 g11 c14 c17 (by rw [← hgo, tupGo_range hx0 (by unfold Tp.inR; omega)])))
 refine zp (p_fld_ptr rfl rfl fld_102_3) ?_
 refine zp (p_load_box rfl rfl sc_3 rfl rfl) ?_
 refine XL.call1 rfl rfl (ratio_xc _) rfl ?_
 refine zp (p_notdec rfl rfl) ?_
 refine zq rfl rfl rfl ?_
 refine zm rfl rfl ?_
 refine XL.dec 61 rfl (fun g61 => ?_) (fun g61 => ?_)
 refine zk 5 rfl ?_
 refine zq rfl rfl rfl ?_
 refine zn ?_
 refine xw_true (by kernel_rfl) rfl ?_
 refine zr ?_
 refine za rfl rfl ?_
 refine zn ?_
 refine zt ?_
 exact z1 rfl rfl (rI (tup_3 g11 c14 c17 (by rw [← hgo, tupGo_range hx0 (by unfold Tp.inR; omega)])))
 refine zp (p_fld_ptr rfl rfl fld_102_2) ?_
 refine zp (p_load_box rfl rfl sc_3 rfl rfl) ?_
 refine zp (p_fld_ptr rfl rfl fld_102_3) ?_
 refine zp (p_load_box rfl rfl sc_3 rfl rfl) ?_
 refine zp (p_eql rfl rfl rfl) ?_
 refine zq rfl rfl rfl ?_
 refine zn ?_
 refine zd rfl (fun c67 => ?_) (fun c67 => ?_)
 refine zr ?_
 refine za rfl rfl ?_
 refine zn ?_
 refine zt ?_
 exact z1 rfl rfl (rI (tup_3 g11 c14 c17 (by rw [← hgo, tupGo_range hx0 (by unfold Tp.inR; omega)])))
 have hin : x0.inR n := by unfold Tp.inR; omega
 have hok : x0.ok := hin.ok (by omega)
 refine zi ?_
 refine zs ?_
 refine zs ?_
 by_cases q69 : (0 : Int) < (k : Int)
 obtain ⟨q, hq⟩ : ∃ q, l[k - 1]? = some q := get_ex (by omega)
 refine xw_any [] (by kernel_rfl) (by kernel_rfl) (by kernel_rfl) (by decide) ?_
 refine ym rfl rfl ?_
 refine yp (p_yes (p_gtr rfl rfl rfl) (q69)) ?_
 refine ym rfl rfl ?_
 refine ym rfl rfl ?_
 refine ym rfl rfl ?_
 refine yp (p_sub rfl rfl rfl (by omega) (by omega)) ?_
 refine yp (p_idx_mapi rfl rfl rfl (by omega : (k : Int) - 1 = ((k - 1 : Nat) : Int)) el_23 hq) ?_
 refine yp (pure_eq (s' := .d (.agg (Tp.c q))) (p_load_pts rfl rfl agg_102 (Nat.le_of_ble_eq_true rfl)) (by kernel_rfl)) ?_
 refine yp (pure_eq (s' := .d (.agg (Tp.c x0))) (norm_pure (p_load_boxs rfl rfl agg_102 rfl (Nat.le_of_ble_eq_true rfl))) (by kernel_rfl)) ?_
 refine ChK.cons rfl (CStep.call rfl (order_xc _ _) rfl) ?_
 refine yp (p_gtr rfl rfl rfl) ?_
 refine yp (p_pick_any rfl rfl (by conv => lhs; whnf)) ?_
 refine ChK.nil ⟨by kernel_rfl, ?_⟩
 refine zd rfl (fun c79 => ?_) (fun c79 => ?_)
 refine zr ?_
 refine za rfl rfl ?_
 refine zn ?_
 refine zt ?_
 exact z1 rfl rfl (rI (tup_3 g11 c14 c17 (by rw [← hgo, tupGo_order hx0 hin ((after_at (by omega) hq).2 c79)])))
 have hna : ¬ afterO (prevT l k) x0 := fun h => c79 ((after_at (by omega) hq).1 h)
 refine zi ?_
 refine zr ?_
 refine zp (p_move rfl (by conv => lhs; whnf)) ?_
 refine zp (pure_eq (s' := .d (.agg (Tp.c x0))) (norm_pure (p_load_boxs rfl rfl agg_102 rfl (Nat.le_of_ble_eq_true rfl))) (by kernel_rfl)) ?_
 refine XL.inl 900001 [(0, .d (.sl 4 (l.map Tp.c))), (1, .d (dI n)), (6, .fn 165 [] [.ptr 5 0 0]), (7, .d (dI k)), (8, .ptr 8 0 0), (19, .d (.sl 4 (l.map Tp.c))), (20, .d (dI l.length)), (21, .d (dI k)), (23, .d (dI k)), (24, .d (.pt (Tp.c x0))), (25, .d (.agg (Tp.c x0))), (26, .ptr 8 0 1), (27, .d (dI x0.count)), (30, .ptr 8 0 1), (31, .d (dI x0.count)), (32, .d (dI n)), (36, .ptr 8 0 0), (37, .d (dI x0.first)), (41, .ptr 8 0 0), (42, .d (dI x0.first)), (43, .d (dI n)), (44, .ptr 8 0 1), (45, .d (dI x0.count)), (46, .d (dI (n - x0.count))), (50, .ptr 8 0 2), (51, .d (dI x0.actual)), (52, .d (dB (decide (1 ≤ x0.actual ∧ x0.actual ≤ 32)))), (56, .ptr 8 0 3), (57, .d (dI x0.normal)), (58, .d (dB (decide (1 ≤ x0.normal ∧ x0.normal ≤ 32)))), (62, .ptr 8 0 2), (63, .d (dI x0.actual)), (64, .ptr 8 0 3), (65, .d (dI x0.normal)), (68, .d (dI k)), (71, .d (.sl 4 (l.map Tp.c))), (72, .d (dI k)), (73, .d (dI (k - 1))), (74, .d (.pt (Tp.c q))), (75, .d (.agg (Tp.c q))), (76, .d (.agg (Tp.c x0))), (77, .d (dI (ordS q x0))), (80, .fn 165 [] [.ptr 5 0 0]), (81, .d (.agg (Tp.c x0)))] rfl rfl .s callable_165 Tryz.func165 rfl rfl (Nat.le_of_ble_eq_true rfl) (by simp only [List.forall_mem_cons]; exact ⟨⟨Nat.le_of_ble_eq_true rfl, rfl⟩, ⟨⟨Nat.le_of_ble_eq_true rfl, rfl⟩, ⟨⟨Nat.le_of_ble_eq_true rfl, rfl⟩, ⟨⟨Nat.le_of_ble_eq_true rfl, rfl⟩, ⟨⟨Nat.le_of_ble_eq_true rfl, rfl⟩, ⟨⟨Nat.le_of_ble_eq_true rfl, rfl⟩, ⟨⟨Nat.le_of_ble_eq_true rfl, rfl⟩, ⟨⟨Nat.le_of_ble_eq_true rfl, rfl⟩, ⟨⟨Nat.le_of_ble_eq_true rfl, rfl⟩, ⟨⟨Nat.le_of_ble_eq_true rfl, rfl⟩, ⟨⟨Nat.le_of_ble_eq_true rfl, rfl⟩, ⟨⟨Nat.le_of_ble_eq_true rfl, rfl⟩, ⟨⟨Nat.le_of_ble_eq_true rfl, rfl⟩, ⟨⟨Nat.le_of_ble_eq_true rfl, rfl⟩, ⟨⟨Nat.le_of_ble_eq_true rfl, rfl⟩, ⟨⟨Nat.le_of_ble_eq_true rfl, rfl⟩, ⟨⟨Nat.le_of_ble_eq_true rfl, rfl⟩, ⟨⟨Nat.le_of_ble_eq_true rfl, rfl⟩, ⟨⟨Nat.le_of_ble_eq_true rfl, rfl⟩, ⟨⟨Nat.le_of_ble_eq_true rfl, rfl⟩, ⟨⟨Nat.le_of_ble_eq_true rfl, rfl⟩, ⟨⟨Nat.le_of_ble_eq_true rfl, rfl⟩, ⟨⟨Nat.le_of_ble_eq_true rfl, rfl⟩, ⟨⟨Nat.le_of_ble_eq_true rfl, rfl⟩, ⟨⟨Nat.le_of_ble_eq_true rfl, rfl⟩, ⟨⟨Nat.le_of_ble_eq_true rfl, rfl⟩, ⟨⟨Nat.le_of_ble_eq_true rfl, rfl⟩, ⟨⟨Nat.le_of_ble_eq_true rfl, rfl⟩, ⟨⟨Nat.le_of_ble_eq_true rfl, rfl⟩, ⟨⟨Nat.le_of_ble_eq_true rfl, rfl⟩, ⟨⟨Nat.le_of_ble_eq_true rfl, rfl⟩, ⟨⟨Nat.le_of_ble_eq_true rfl, rfl⟩, ⟨⟨Nat.le_of_ble_eq_true rfl, rfl⟩, ⟨⟨Nat.le_of_ble_eq_true rfl, rfl⟩, ⟨⟨Nat.le_of_ble_eq_true rfl, rfl⟩, ⟨⟨Nat.le_of_ble_eq_true rfl, rfl⟩, ⟨⟨Nat.le_of_ble_eq_true rfl, rfl⟩, ⟨⟨Nat.le_of_ble_eq_true rfl, rfl⟩, ⟨⟨Nat.le_of_ble_eq_true rfl, rfl⟩, ⟨⟨Nat.le_of_ble_eq_true rfl, rfl⟩, ⟨⟨Nat.le_of_ble_eq_true rfl, rfl⟩, ⟨⟨Nat.le_of_ble_eq_true rfl, rfl⟩, ⟨⟨Nat.le_of_ble_eq_true rfl, rfl⟩, ⟨⟨Nat.le_of_ble_eq_true rfl, rfl⟩, fun p hp => (by cases hp)⟩⟩⟩⟩⟩⟩⟩⟩⟩⟩⟩⟩⟩⟩⟩⟩⟩⟩⟩⟩⟩⟩⟩⟩⟩⟩⟩⟩⟩⟩⟩⟩⟩⟩⟩⟩⟩⟩⟩⟩⟩⟩⟩⟩) (fun u1 => ?_)
 refine zr ?_
 refine XL.step rfl (st_boxN 1002 (l := [.d (dI x0.first), .d (dI x0.count), .d (dI x0.actual), .d (dI x0.normal)]) rfl rfl (by kernel_rfl)) ?_
 refine za rfl rfl ?_
 refine zn ?_
 refine zs ?_
 refine xw_block ?_
 refine xw_loop (α := List Tp) (fun s => popR x0 s = popR x0 (stk l k) ∧ s.length ≤ 3 ∧ ∀ t ∈ s, t.inR n) (fun s => mkF [(1, .ptr 5 0 0), (2, .ptr 1002 0 0), (3, .d (dB false))]) (fun s => mkH [(5, .box [.own 900]), (8, .box ((Tp.c x0).map S.d)), (900, .row 102 4 (s.reverse.map Tp.c)), (1002, .box ((Tp.c x0).map S.d)), (900001, .ghost u1 [(0, .d (.sl 4 (l.map Tp.c))), (1, .d (dI n)), (6, .fn 165 [] [.ptr 5 0 0]), (7, .d (dI k)), (8, .ptr 8 0 0), (19, .d (.sl 4 (l.map Tp.c))), (20, .d (dI l.length)), (21, .d (dI k)), (23, .d (dI k)), (24, .d (.pt (Tp.c x0))), (25, .d (.agg (Tp.c x0))), (26, .ptr 8 0 1), (27, .d (dI x0.count)), (30, .ptr 8 0 1), (31, .d (dI x0.count)), (32, .d (dI n)), (36, .ptr 8 0 0), (37, .d (dI x0.first)), (41, .ptr 8 0 0), (42, .d (dI x0.first)), (43, .d (dI n)), (44, .ptr 8 0 1), (45, .d (dI x0.count)), (46, .d (dI (n - x0.count))), (50, .ptr 8 0 2), (51, .d (dI x0.actual)), (52, .d (dB (decide (1 ≤ x0.actual ∧ x0.actual ≤ 32)))), (56, .ptr 8 0 3), (57, .d (dI x0.normal)), (58, .d (dB (decide (1 ≤ x0.normal ∧ x0.normal ≤ 32)))), (62, .ptr 8 0 2), (63, .d (dI x0.actual)), (64, .ptr 8 0 3), (65, .d (dI x0.normal)), (68, .d (dI k)), (71, .d (.sl 4 (l.map Tp.c))), (72, .d (dI k)), (73, .d (dI (k - 1))), (74, .d (.pt (Tp.c q))), (75, .d (.agg (Tp.c q))), (76, .d (.agg (Tp.c x0))), (77, .d (dI (ordS q x0))), (80, .fn 165 [] [.ptr 5 0 0]), (81, .d (.agg (Tp.c x0)))])]) (fun s => s.length) ((stk l k)) (⟨rfl, hst, hall⟩) ?_ ?_ ?_
 exact fz ⟨sr, sr, sr, trivial⟩
 exact gz ⟨rfl, rfl, rfl, rfl, rfl, trivial⟩
 intro s hk0i
 obtain ⟨hp, hl3, hso⟩ := hk0i
 have hrl : s.reverse.length = s.length := List.length_reverse
 refine zs ?_
 refine zs ?_
 by_cases q7i : (0 : Int) < (s.reverse.length : Int)
 obtain ⟨o, r, hs⟩ := top_ex q7i
 have hoo : o.ok := (hso o (by rw [hs]; exact List.mem_cons_self)).ok (by omega)
 refine xw_any [] (by kernel_rfl) (by kernel_rfl) (by kernel_rfl) (by decide) ?_
 refine yp (p_load_box rfl rfl sc_23 rfl rfl) ?_
 refine yp (p_len_ownm rfl rfl rfl Tryz.underlying23) ?_
 refine yp (p_yes (p_gtr rfl rfl rfl) (q7i)) ?_
 refine ym rfl rfl ?_
 refine yp (p_load_box rfl rfl sc_23 rfl rfl) ?_
 refine yp (p_load_box rfl rfl sc_23 rfl rfl) ?_
 refine yp (p_len_ownm rfl rfl rfl Tryz.underlying23) ?_
 refine yp (p_sub rfl rfl rfl (by omega) (by omega)) ?_
 refine yp (p_idx_owni rfl rfl rfl (top_ix hs) rfl el_23 (top_lt hs)) ?_
 refine yp (pure_eq (s' := .d (.agg (Tp.c o))) (p_load_rows rfl rfl agg_102 rfl (map_get (top_get hs)) (Nat.le_of_ble_eq_true rfl)) (by kernel_rfl)) ?_
 refine ChK.cons rfl (CStep.call rfl (tend_xc _ (by assumption)) rfl) ?_
 refine yp (p_fld_ptr rfl rfl fld_102_0) ?_
 refine yp (p_load_box rfl rfl sc_3 rfl rfl) ?_
 refine yp (p_leq rfl rfl rfl) ?_
 refine yp (p_pick_any rfl rfl (by conv => lhs; whnf)) ?_
 refine ChK.nil ⟨by kernel_rfl, ?_⟩
 refine zd rfl (fun c19i => ?_) (fun c19i => ?_)
 refine zi ?_
 refine xw_block ?_
 refine xw_region (by kernel_rfl) ?_
 refine zp (p_load_box rfl rfl sc_23 rfl rfl) ?_
 refine zp (p_load_box rfl rfl sc_23 rfl rfl) ?_
 refine zp (p_len_ownm rfl rfl rfl Tryz.underlying23) ?_
 refine zp (p_sub rfl rfl rfl (by omega) (by omega)) ?_
 refine XL.step rfl (st_cut rfl rfl rfl el_23 (Bd.ati rfl (top_ix hs)) (by simp)) ?_
 refine XL.step rfl (st_storeN (l' := [.own 900]) rfl rfl rfl rfl sz_23 rfl (Nat.le_of_ble_eq_true rfl) (by kernel_rfl)) ?_
 refine zn ?_
 refine k_blk ?_
 exact k_round (r) (⟨by rw [← popR_yes hs c19i]; exact hp, by rw [hs] at hl3; simp at hl3; omega, fun t ht => hso t (by rw [hs]; exact List.mem_cons_of_mem _ ht)⟩) (by rw [hs]; simp) (fz ⟨sr, sr, sr, trivial⟩) (gz ⟨rfl, rfl, top_cut hs, rfl, rfl, trivial⟩)
 have hend := popR_no hs c19i
 refine xw_exit ?_
 refine zs ?_
 refine zr ?_
 refine zp (p_load_box rfl rfl sc_23 rfl rfl) ?_
 refine zp (p_len_ownm rfl rfl rfl Tryz.underlying23) ?_
 refine za rfl rfl ?_
 refine zn ?_
 refine zs ?_
 by_cases q28i : (s.reverse.length : Int) = (3 : Int)
 have hov : overR x0 (popR x0 (stk l k)) := by rw [← hp, hend]; exact over_3 q28i
 refine xw_any [] (by kernel_rfl) (by kernel_rfl) (by kernel_rfl) (by decide) ?_
 refine ym rfl rfl ?_
 refine yp (p_yes (p_eql rfl rfl rfl) (q28i)) ?_
 refine ym rfl rfl ?_
 refine ChK.skip rfl ?_
 refine ChK.skip rfl ?_
 refine ChK.skip rfl ?_
 refine ChK.skip rfl ?_
 refine ChK.skip rfl ?_
 refine ChK.skip rfl ?_
 refine ChK.skip rfl ?_
 refine ChK.skip rfl ?_
 refine ChK.skip rfl ?_
 refine ChK.skip rfl ?_
 refine ChK.skip rfl ?_
 refine ChK.skip rfl ?_
 refine ChK.skip rfl ?_
 refine yp (p_pick_any rfl rfl (by conv => lhs; whnf)) ?_
 refine ChK.nil ⟨by kernel_rfl, ?_⟩
 refine xw_true (by kernel_rfl) rfl ?_
 refine zr ?_
 refine za rfl rfl ?_
 refine zn ?_
 refine zt ?_
 refine (k_inl (l := [(0, .d (.sl 4 (l.map Tp.c))), (1, .d (dI n)), (6, .fn 165 [] [.ptr 5 0 0]), (7, .d (dI k)), (8, .ptr 8 0 0), (19, .d (.sl 4 (l.map Tp.c))), (20, .d (dI l.length)), (21, .d (dI k)), (23, .d (dI k)), (24, .d (.pt (Tp.c x0))), (25, .d (.agg (Tp.c x0))), (26, .ptr 8 0 1), (27, .d (dI x0.count)), (30, .ptr 8 0 1), (31, .d (dI x0.count)), (32, .d (dI n)), (36, .ptr 8 0 0), (37, .d (dI x0.first)), (41, .ptr 8 0 0), (42, .d (dI x0.first)), (43, .d (dI n)), (44, .ptr 8 0 1), (45, .d (dI x0.count)), (46, .d (dI (n - x0.count))), (50, .ptr 8 0 2), (51, .d (dI x0.actual)), (52, .d (dB (decide (1 ≤ x0.actual ∧ x0.actual ≤ 32)))), (56, .ptr 8 0 3), (57, .d (dI x0.normal)), (58, .d (dB (decide (1 ≤ x0.normal ∧ x0.normal ≤ 32)))), (62, .ptr 8 0 2), (63, .d (dI x0.actual)), (64, .ptr 8 0 3), (65, .d (dI x0.normal)), (68, .d (dI k)), (71, .d (.sl 4 (l.map Tp.c))), (72, .d (dI k)), (73, .d (dI (k - 1))), (74, .d (.pt (Tp.c q))), (75, .d (.agg (Tp.c q))), (76, .d (.agg (Tp.c x0))), (77, .d (dI (ordS q x0))), (80, .fn 165 [] [.ptr 5 0 0]), (81, .d (.agg (Tp.c x0)))]) (by kernel_rfl) (rs1 rfl (RV.tmp rfl rfl)) ?_).2
 refine zp (p_not rfl rfl) ?_
 refine zn ?_
 refine xw_true (by kernel_rfl) rfl ?_
 refine zr ?_
 refine za rfl rfl ?_
 refine zn ?_
 refine zt ?_
 exact z1 rfl rfl (rI (tup_3 g11 c14 c17 (by rw [← hgo, tupGo_over hx0 hin hna hov])))
 by_cases q31i : (0 : Int) < (s.reverse.length : Int)
 obtain ⟨o, r, hs⟩ := top_ex q31i
 have hoo : o.ok := (hso o (by rw [hs]; exact List.mem_cons_self)).ok (by omega)
 refine xw_any [] (by kernel_rfl) (by kernel_rfl) (by kernel_rfl) (by decide) ?_
 refine ym rfl rfl ?_
 refine yp (p_no (p_eql rfl rfl rfl) (q28i)) ?_
 refine ym rfl rfl ?_
 refine ym rfl rfl ?_
 refine yp (p_yes (p_gtr rfl rfl rfl) (q31i)) ?_
 refine ym rfl rfl ?_
 refine yp (pure_eq (s' := .d (.agg (Tp.c x0))) (norm_pure (p_load_boxs rfl rfl agg_102 rfl (Nat.le_of_ble_eq_true rfl))) (by kernel_rfl)) ?_
 refine ChK.cons rfl (CStep.call rfl (tend_xc _ (by assumption)) rfl) ?_
 refine yp (p_load_box rfl rfl sc_23 rfl rfl) ?_
 refine ym rfl rfl ?_
 refine yp (p_sub rfl rfl rfl (by omega) (by omega)) ?_
 refine yp (p_idx_owni rfl rfl rfl (top_ix hs) rfl el_23 (top_lt hs)) ?_
 refine yp (pure_eq (s' := .d (.agg (Tp.c o))) (p_load_rows rfl rfl agg_102 rfl (map_get (top_get hs)) (Nat.le_of_ble_eq_true rfl)) (by kernel_rfl)) ?_
 refine ChK.cons rfl (CStep.call rfl (tend_xc _ (by assumption)) rfl) ?_
 refine yp (p_gtr rfl rfl rfl) ?_
 refine yp (p_pick_any rfl rfl (by conv => lhs; whnf)) ?_
 refine yp (p_pick_any rfl rfl (by conv => lhs; whnf)) ?_
 refine ChK.nil ⟨by kernel_rfl, ?_⟩
 refine zd rfl (fun c43i => ?_) (fun c43i => ?_)
 have hov : overR x0 (popR x0 (stk l k)) := by rw [← hp, hend]; exact over_top hs c43i
 refine zr ?_
 refine za rfl rfl ?_
 refine zn ?_
 refine zt ?_
 refine (k_inl (l := [(0, .d (.sl 4 (l.map Tp.c))), (1, .d (dI n)), (6, .fn 165 [] [.ptr 5 0 0]), (7, .d (dI k)), (8, .ptr 8 0 0), (19, .d (.sl 4 (l.map Tp.c))), (20, .d (dI l.length)), (21, .d (dI k)), (23, .d (dI k)), (24, .d (.pt (Tp.c x0))), (25, .d (.agg (Tp.c x0))), (26, .ptr 8 0 1), (27, .d (dI x0.count)), (30, .ptr 8 0 1), (31, .d (dI x0.count)), (32, .d (dI n)), (36, .ptr 8 0 0), (37, .d (dI x0.first)), (41, .ptr 8 0 0), (42, .d (dI x0.first)), (43, .d (dI n)), (44, .ptr 8 0 1), (45, .d (dI x0.count)), (46, .d (dI (n - x0.count))), (50, .ptr 8 0 2), (51, .d (dI x0.actual)), (52, .d (dB (decide (1 ≤ x0.actual ∧ x0.actual ≤ 32)))), (56, .ptr 8 0 3), (57, .d (dI x0.normal)), (58, .d (dB (decide (1 ≤ x0.normal ∧ x0.normal ≤ 32)))), (62, .ptr 8 0 2), (63, .d (dI x0.actual)), (64, .ptr 8 0 3), (65, .d (dI x0.normal)), (68, .d (dI k)), (71, .d (.sl 4 (l.map Tp.c))), (72, .d (dI k)), (73, .d (dI (k - 1))), (74, .d (.pt (Tp.c q))), (75, .d (.agg (Tp.c q))), (76, .d (.agg (Tp.c x0))), (77, .d (dI (ordS q x0))), (80, .fn 165 [] [.ptr 5 0 0]), (81, .d (.agg (Tp.c x0)))]) (by kernel_rfl) (rs1 rfl (RV.tmp rfl rfl)) ?_).2
 refine zp (p_not rfl rfl) ?_
 refine zn ?_
 refine xw_true (by kernel_rfl) rfl ?_
 refine zr ?_
 refine za rfl rfl ?_
 refine zn ?_
 refine zt ?_
 exact z1 rfl rfl (rI (tup_3 g11 c14 c17 (by rw [← hgo, tupGo_over hx0 hin hna hov])))
 have hov : ¬ overR x0 (popR x0 (stk l k)) := by rw [← hp, hend]; exact over_no q28i hs c43i
 refine zi ?_
 refine zr ?_
 refine zp (p_load_box rfl rfl sc_23 rfl rfl) ?_
 refine zp (pure_eq (s' := .d (.agg (Tp.c x0))) (norm_pure (p_load_boxs rfl rfl agg_102 rfl (Nat.le_of_ble_eq_true rfl))) (by kernel_rfl)) ?_
 refine XL.step rfl (st_slice 1046 rfl Tryz.underlying23 sz_102 zero_102 rfl rfl (by omega) (by omega)) ?_
 refine XL.step rfl (st_append rfl elt_23 (.own rfl) (Src.own rfl) (by unfold maxLen; simp; omega) (by simp; omega)) ?_
 refine XL.step rfl (st_storeN (l' := [.own 900]) rfl rfl rfl rfl sz_23 rfl (Nat.le_of_ble_eq_true rfl) (by kernel_rfl)) ?_
 refine znr ?_
 refine za rfl rfl ?_
 refine zn ?_
 refine zt ?_
 refine (k_inl (l := [(0, .d (.sl 4 (l.map Tp.c))), (1, .d (dI n)), (6, .fn 165 [] [.ptr 5 0 0]), (7, .d (dI k)), (8, .ptr 8 0 0), (19, .d (.sl 4 (l.map Tp.c))), (20, .d (dI l.length)), (21, .d (dI k)), (23, .d (dI k)), (24, .d (.pt (Tp.c x0))), (25, .d (.agg (Tp.c x0))), (26, .ptr 8 0 1), (27, .d (dI x0.count)), (30, .ptr 8 0 1), (31, .d (dI x0.count)), (32, .d (dI n)), (36, .ptr 8 0 0), (37, .d (dI x0.first)), (41, .ptr 8 0 0), (42, .d (dI x0.first)), (43, .d (dI n)), (44, .ptr 8 0 1), (45, .d (dI x0.count)), (46, .d (dI (n - x0.count))), (50, .ptr 8 0 2), (51, .d (dI x0.actual)), (52, .d (dB (decide (1 ≤ x0.actual ∧ x0.actual ≤ 32)))), (56, .ptr 8 0 3), (57, .d (dI x0.normal)), (58, .d (dB (decide (1 ≤ x0.normal ∧ x0.normal ≤ 32)))), (62, .ptr 8 0 2), (63, .d (dI x0.actual)), (64, .ptr 8 0 3), (65, .d (dI x0.normal)), (68, .d (dI k)), (71, .d (.sl 4 (l.map Tp.c))), (72, .d (dI k)), (73, .d (dI (k - 1))), (74, .d (.pt (Tp.c q))), (75, .d (.agg (Tp.c q))), (76, .d (.agg (Tp.c x0))), (77, .d (dI (ordS q x0))), (80, .fn 165 [] [.ptr 5 0 0]), (81, .d (.agg (Tp.c x0)))]) (by kernel_rfl) (rs1 rfl (RV.tmp rfl rfl)) ?_).2
 refine zp (p_not rfl rfl) ?_
 refine zn ?_
 refine xw_false (by kernel_rfl) rfl ?_
 refine zi ?_
 refine xw_region (by kernel_rfl) ?_
 refine zp (p_add rfl rfl rfl (by omega) (by omega)) ?_
 refine zm rfl rfl ?_
 refine zn ?_
 exact k_round (k + 1) (⟨by omega, by rw [prevT_succ, hx0, stk_succ hx0, ← tupGo_next hx0 hin hna hov]; exact hgo, by rw [stk_succ hx0, List.length_cons, ← hp, hend]; omega, fun t ht => by rw [stk_succ hx0] at ht; rcases List.mem_cons.1 ht with e | e; (· rw [e]; exact hin); (· exact hall t (popR_sub _ _ t e))⟩) (by omega) (fz ⟨sr, sr, sr, sr, sr, sr, trivial⟩) (gz ⟨rfl, top_push (by rw [stk_succ hx0, ← hp, hend]), trivial⟩)
 have hov : ¬ overR x0 (popR x0 (stk l k)) := by rw [← hp, hend]; exact over_nil q28i q31i
 refine xw_any [] (by kernel_rfl) (by kernel_rfl) (by kernel_rfl) (by decide) ?_
 refine ym rfl rfl ?_
 refine yp (p_no (p_eql rfl rfl rfl) (q28i)) ?_
 refine ym rfl rfl ?_
 refine ym rfl rfl ?_
 refine yp (p_no (p_gtr rfl rfl rfl) (q31i)) ?_
 refine ym rfl rfl ?_
 refine ChK.skip rfl ?_
 refine ChK.skip rfl ?_
 refine ChK.skip rfl ?_
 refine ChK.skip rfl ?_
 refine ChK.skip rfl ?_
 refine ChK.skip rfl ?_
 refine ChK.skip rfl ?_
 refine ChK.skip rfl ?_
 refine ChK.skip rfl ?_
 refine yp (p_pick_any rfl rfl (by conv => lhs; whnf)) ?_
 refine yp (p_pick_any rfl rfl (by conv => lhs; whnf)) ?_
 refine ChK.nil ⟨by kernel_rfl, ?_⟩
 refine xw_false (by kernel_rfl) rfl ?_
 refine zi ?_
 refine zr ?_
 refine zp (p_load_box rfl rfl sc_23 rfl rfl) ?_
 refine zp (pure_eq (s' := .d (.agg (Tp.c x0))) (norm_pure (p_load_boxs rfl rfl agg_102 rfl (Nat.le_of_ble_eq_true rfl))) (by kernel_rfl)) ?_
 refine XL.step rfl (st_slice 1046 rfl Tryz.underlying23 sz_102 zero_102 rfl rfl (by omega) (by omega)) ?_
 refine XL.step rfl (st_append rfl elt_23 (.own rfl) (Src.own rfl) (by unfold maxLen; simp; omega) (by simp; omega)) ?_
 refine XL.step rfl (st_storeN (l' := [.own 900]) rfl rfl rfl rfl sz_23 rfl (Nat.le_of_ble_eq_true rfl) (by kernel_rfl)) ?_
 refine znr ?_
 refine za rfl rfl ?_
 refine zn ?_
 refine zt ?_
 refine (k_inl (l := [(0, .d (.sl 4 (l.map Tp.c))), (1, .d (dI n)), (6, .fn 165 [] [.ptr 5 0 0]), (7, .d (dI k)), (8, .ptr 8 0 0), (19, .d (.sl 4 (l.map Tp.c))), (20, .d (dI l.length)), (21, .d (dI k)), (23, .d (dI k)), (24, .d (.pt (Tp.c x0))), (25, .d (.agg (Tp.c x0))), (26, .ptr 8 0 1), (27, .d (dI x0.count)), (30, .ptr 8 0 1), (31, .d (dI x0.count)), (32, .d (dI n)), (36, .ptr 8 0 0), (37, .d (dI x0.first)), (41, .ptr 8 0 0), (42, .d (dI x0.first)), (43, .d (dI n)), (44, .ptr 8 0 1), (45, .d (dI x0.count)), (46, .d (dI (n - x0.count))), (50, .ptr 8 0 2), (51, .d (dI x0.actual)), (52, .d (dB (decide (1 ≤ x0.actual ∧ x0.actual ≤ 32)))), (56, .ptr 8 0 3), (57, .d (dI x0.normal)), (58, .d (dB (decide (1 ≤ x0.normal ∧ x0.normal ≤ 32)))), (62, .ptr 8 0 2), (63, .d (dI x0.actual)), (64, .ptr 8 0 3), (65, .d (dI x0.normal)), (68, .d (dI k)), (71, .d (.sl 4 (l.map Tp.c))), (72, .d (dI k)), (73, .d (dI (k - 1))), (74, .d (.pt (Tp.c q))), (75, .d (.agg (Tp.c q))), (76, .d (.agg (Tp.c x0))), (77, .d (dI (ordS q x0))), (80, .fn 165 [] [.ptr 5 0 0]), (81, .d (.agg (Tp.c x0)))]) (by kernel_rfl) (rs1 rfl (RV.tmp rfl rfl)) ?_).2
 refine zp (p_not rfl rfl) ?_
 refine zn ?_
 refine xw_false (by kernel_rfl) rfl ?_
 refine zi ?_
 refine xw_region (by kernel_rfl) ?_
 refine zp (p_add rfl rfl rfl (by omega) (by omega)) ?_
 refine zm rfl rfl ?_
 refine zn ?_
 exact k_round (k + 1) (⟨by omega, by rw [prevT_succ, hx0, stk_succ hx0, ← tupGo_next hx0 hin hna hov]; exact hgo, by rw [stk_succ hx0, List.length_cons, ← hp, hend]; omega, fun t ht => by rw [stk_succ hx0] at ht; rcases List.mem_cons.1 ht with e | e; (· rw [e]; exact hin); (· exact hall t (popR_sub _ _ t e))⟩) (by omega) (fz ⟨sr, sr, sr, sr, sr, sr, trivial⟩) (gz ⟨rfl, top_push (by rw [stk_succ hx0, ← hp, hend]), trivial⟩)
 have hend := popR_nil (t := x0) q7i
 refine xw_any [] (by kernel_rfl) (by kernel_rfl) (by kernel_rfl) (by decide) ?_
 refine yp (p_load_box rfl rfl sc_23 rfl rfl) ?_
 refine yp (p_len_ownm rfl rfl rfl Tryz.underlying23) ?_
 refine yp (p_no (p_gtr rfl rfl rfl) (q7i)) ?_
 refine ym rfl rfl ?_
 refine ChK.skip rfl ?_
 refine ChK.skip rfl ?_
 refine ChK.skip rfl ?_
 refine ChK.skip rfl ?_
 refine ChK.skip rfl ?_
 refine ChK.skip rfl ?_
 refine ChK.skip rfl ?_
 refine ChK.skip rfl ?_
 refine ChK.skip rfl ?_
 refine ChK.skip rfl ?_
 refine yp (p_pick_any rfl rfl (by conv => lhs; whnf)) ?_
 refine ChK.nil ⟨by kernel_rfl, ?_⟩
 refine xw_false (by kernel_rfl) rfl ?_
 refine xw_exit ?_
 refine zs ?_
 refine zr ?_
 refine zp (p_load_box rfl rfl sc_23 rfl rfl) ?_
 refine zp (p_len_ownm rfl rfl rfl Tryz.underlying23) ?_
 refine za rfl rfl ?_
 refine zn ?_
 refine zs ?_
 by_cases q28i : (s.reverse.length : Int) = (3 : Int)
 have hov : overR x0 (popR x0 (stk l k)) := by rw [← hp, hend]; exact over_3 q28i
 refine xw_any [] (by kernel_rfl) (by kernel_rfl) (by kernel_rfl) (by decide) ?_
 refine ym rfl rfl ?_
 refine yp (p_yes (p_eql rfl rfl rfl) (q28i)) ?_
 refine ym rfl rfl ?_
 refine ChK.skip rfl ?_
 refine ChK.skip rfl ?_
 refine ChK.skip rfl ?_
 refine ChK.skip rfl ?_
 refine ChK.skip rfl ?_
 refine ChK.skip rfl ?_
 refine ChK.skip rfl ?_
 refine ChK.skip rfl ?_
 refine ChK.skip rfl ?_
 refine ChK.skip rfl ?_
 refine ChK.skip rfl ?_
 refine ChK.skip rfl ?_
 refine ChK.skip rfl ?_
 refine yp (p_pick_any rfl rfl (by conv => lhs; whnf)) ?_
 refine ChK.nil ⟨by kernel_rfl, ?_⟩
 refine xw_true (by kernel_rfl) rfl ?_
 refine zr ?_
 refine za rfl rfl ?_
 refine zn ?_
 refine zt ?_
 refine (k_inl (l := [(0, .d (.sl 4 (l.map Tp.c))), (1, .d (dI n)), (6, .fn 165 [] [.ptr 5 0 0]), (7, .d (dI k)), (8, .ptr 8 0 0), (19, .d (.sl 4 (l.map Tp.c))), (20, .d (dI l.length)), (21, .d (dI k)), (23, .d (dI k)), (24, .d (.pt (Tp.c x0))), (25, .d (.agg (Tp.c x0))), (26, .ptr 8 0 1), (27, .d (dI x0.count)), (30, .ptr 8 0 1), (31, .d (dI x0.count)), (32, .d (dI n)), (36, .ptr 8 0 0), (37, .d (dI x0.first)), (41, .ptr 8 0 0), (42, .d (dI x0.first)), (43, .d (dI n)), (44, .ptr 8 0 1), (45, .d (dI x0.count)), (46, .d (dI (n - x0.count))), (50, .ptr 8 0 2), (51, .d (dI x0.actual)), (52, .d (dB (decide (1 ≤ x0.actual ∧ x0.actual ≤ 32)))), (56, .ptr 8 0 3), (57, .d (dI x0.normal)), (58, .d (dB (decide (1 ≤ x0.normal ∧ x0.normal ≤ 32)))), (62, .ptr 8 0 2), (63, .d (dI x0.actual)), (64, .ptr 8 0 3), (65, .d (dI x0.normal)), (68, .d (dI k)), (71, .d (.sl 4 (l.map Tp.c))), (72, .d (dI k)), (73, .d (dI (k - 1))), (74, .d (.pt (Tp.c q))), (75, .d (.agg (Tp.c q))), (76, .d (.agg (Tp.c x0))), (77, .d (dI (ordS q x0))), (80, .fn 165 [] [.ptr 5 0 0]), (81, .d (.agg (Tp.c x0)))]) (by kernel_rfl) (rs1 rfl (RV.tmp rfl rfl)) ?_).2
 refine zp (p_not rfl rfl) ?_
 refine zn ?_
 refine xw_true (by kernel_rfl) rfl ?_
 refine zr ?_
 refine za rfl rfl ?_
 refine zn ?_
 refine zt ?_
 exact z1 rfl rfl (rI (tup_3 g11 c14 c17 (by rw [← hgo, tupGo_over hx0 hin hna hov])))
 by_cases q31i : (0 : Int) < (s.reverse.length : Int)
 obtain ⟨o, r, hs⟩ := top_ex q31i
 have hoo : o.ok := (hso o (by rw [hs]; exact List.mem_cons_self)).ok (by omega)
 refine xw_any [] (by kernel_rfl) (by kernel_rfl) (by kernel_rfl) (by decide) ?_
 refine ym rfl rfl ?_
 refine yp (p_no (p_eql rfl rfl rfl) (q28i)) ?_
 refine ym rfl rfl ?_
 refine ym rfl rfl ?_
 refine yp (p_yes (p_gtr rfl rfl rfl) (q31i)) ?_
 refine ym rfl rfl ?_
 refine yp (pure_eq (s' := .d (.agg (Tp.c x0))) (norm_pure (p_load_boxs rfl rfl agg_102 rfl (Nat.le_of_ble_eq_true rfl))) (by kernel_rfl)) ?_
 refine ChK.cons rfl (CStep.call rfl (tend_xc _ (by assumption)) rfl) ?_
 refine yp (p_load_box rfl rfl sc_23 rfl rfl) ?_
 refine ym rfl rfl ?_
 refine yp (p_sub rfl rfl rfl (by omega) (by omega)) ?_
 refine yp (p_idx_owni rfl rfl rfl (top_ix hs) rfl el_23 (top_lt hs)) ?_
 refine yp (pure_eq (s' := .d (.agg (Tp.c o))) (p_load_rows rfl rfl agg_102 rfl (map_get (top_get hs)) (Nat.le_of_ble_eq_true rfl)) (by kernel_rfl)) ?_
 refine ChK.cons rfl (CStep.call rfl (tend_xc _ (by assumption)) rfl) ?_
 refine yp (p_gtr rfl rfl rfl) ?_
 refine yp (p_pick_any rfl rfl (by conv => lhs; whnf)) ?_
 refine yp (p_pick_any rfl rfl (by conv => lhs; whnf)) ?_
 refine ChK.nil ⟨by kernel_rfl, ?_⟩
 refine zd rfl (fun c43i => ?_) (fun c43i => ?_)
 have hov : overR x0 (popR x0 (stk l k)) := by rw [← hp, hend]; exact over_top hs c43i
 refine zr ?_
 refine za rfl rfl ?_
 refine zn ?_
 refine zt ?_
 refine (k_inl (l := [(0, .d (.sl 4 (l.map Tp.c))), (1, .d (dI n)), (6, .fn 165 [] [.ptr 5 0 0]), (7, .d (dI k)), (8, .ptr 8 0 0), (19, .d (.sl 4 (l.map Tp.c))), (20, .d (dI l.length)), (21, .d (dI k)), (23, .d (dI k)), (24, .d (.pt (Tp.c x0))), (25, .d (.agg (Tp.c x0))), (26, .ptr 8 0 1), (27, .d (dI x0.count)), (30, .ptr 8 0 1), (31, .d (dI x0.count)), (32, .d (dI n)), (36, .ptr 8 0 0), (37, .d (dI x0.first)), (41, .ptr 8 0 0), (42, .d (dI x0.first)), (43, .d (dI n)), (44, .ptr 8 0 1), (45, .d (dI x0.count)), (46, .d (dI (n - x0.count))), (50, .ptr 8 0 2), (51, .d (dI x0.actual)), (52, .d (dB (decide (1 ≤ x0.actual ∧ x0.actual ≤ 32)))), (56, .ptr 8 0 3), (57, .d (dI x0.normal)), (58, .d (dB (decide (1 ≤ x0.normal ∧ x0.normal ≤ 32)))), (62, .ptr 8 0 2), (63, .d (dI x0.actual)), (64, .ptr 8 0 3), (65, .d (dI x0.normal)), (68, .d (dI k)), (71, .d (.sl 4 (l.map Tp.c))), (72, .d (dI k)), (73, .d (dI (k - 1))), (74, .d (.pt (Tp.c q))), (75, .d (.agg (Tp.c q))), (76, .d (.agg (Tp.c x0))), (77, .d (dI (ordS q x0))), (80, .fn 165 [] [.ptr 5 0 0]), (81, .d (.agg (Tp.c x0)))]) (by kernel_rfl) (rs1 rfl (RV.tmp rfl rfl)) ?_).2
 refine zp (p_not rfl rfl) ?_
 refine zn ?_
 refine xw_true (by kernel_rfl) rfl ?_
 refine zr ?_
 refine za rfl rfl ?_
 refine zn ?_
 refine zt ?_
 exact z1 rfl rfl (rI (tup_3 g11 c14 c17 (by rw [← hgo, tupGo_over hx0 hin hna hov])))
 have hov : ¬ overR x0 (popR x0 (stk l k)) := by rw [← hp, hend]; exact over_no q28i hs c43i
 refine zi ?_
 refine zr ?_
 refine zp (p_load_box rfl rfl sc_23 rfl rfl) ?_
 refine zp (pure_eq (s' := .d (.agg (Tp.c x0))) (norm_pure (p_load_boxs rfl rfl agg_102 rfl (Nat.le_of_ble_eq_true rfl))) (by kernel_rfl)) ?_
 refine XL.step rfl (st_slice 1046 rfl Tryz.underlying23 sz_102 zero_102 rfl rfl (by omega) (by omega)) ?_
 refine XL.step rfl (st_append rfl elt_23 (.own rfl) (Src.own rfl) (by unfold maxLen; simp; omega) (by simp; omega)) ?_
 refine XL.step rfl (st_storeN (l' := [.own 900]) rfl rfl rfl rfl sz_23 rfl (Nat.le_of_ble_eq_true rfl) (by kernel_rfl)) ?_
 refine znr ?_
 refine za rfl rfl ?_
 refine zn ?_
 refine zt ?_
 refine (k_inl (l := [(0, .d (.sl 4 (l.map Tp.c))), (1, .d (dI n)), (6, .fn 165 [] [.ptr 5 0 0]), (7, .d (dI k)), (8, .ptr 8 0 0), (19, .d (.sl 4 (l.map Tp.c))), (20, .d (dI l.length)), (21, .d (dI k)), (23, .d (dI k)), (24, .d (.pt (Tp.c x0))), (25, .d (.agg (Tp.c x0))), (26, .ptr 8 0 1), (27, .d (dI x0.count)), (30, .ptr 8 0 1), (31, .d (dI x0.count)), (32, .d (dI n)), (36, .ptr 8 0 0), (37, .d (dI x0.first)), (41, .ptr 8 0 0), (42, .d (dI x0.first)), (43, .d (dI n)), (44, .ptr 8 0 1), (45, .d (dI x0.count)), (46, .d (dI (n - x0.count))), (50, .ptr 8 0 2), (51, .d (dI x0.actual)), (52, .d (dB (decide (1 ≤ x0.actual ∧ x0.actual ≤ 32)))), (56, .ptr 8 0 3), (57, .d (dI x0.normal)), (58, .d (dB (decide (1 ≤ x0.normal ∧ x0.normal ≤ 32)))), (62, .ptr 8 0 2), (63, .d (dI x0.actual)), (64, .ptr 8 0 3), (65, .d (dI x0.normal)), (68, .d (dI k)), (71, .d (.sl 4 (l.map Tp.c))), (72, .d (dI k)), (73, .d (dI (k - 1))), (74, .d (.pt (Tp.c q))), (75, .d (.agg (Tp.c q))), (76, .d (.agg (Tp.c x0))), (77, .d (dI (ordS q x0))), (80, .fn 165 [] [.ptr 5 0 0]), (81, .d (.agg (Tp.c x0)))]) (by kernel_rfl) (rs1 rfl (RV.tmp rfl rfl)) ?_).2
 refine zp (p_not rfl rfl) ?_
 refine zn ?_
 refine xw_false (by kernel_rfl) rfl ?_
 refine zi ?_
 refine xw_region (by kernel_rfl) ?_
 refine zp (p_add rfl rfl rfl (by omega) (by omega)) ?_
 refine zm rfl rfl ?_
 refine zn ?_
 exact k_round (k + 1) (⟨by omega, by rw [prevT_succ, hx0, stk_succ hx0, ← tupGo_next hx0 hin hna hov]; exact hgo, by rw [stk_succ hx0, List.length_cons, ← hp, hend]; omega, fun t ht => by rw [stk_succ hx0] at ht; rcases List.mem_cons.1 ht with e | e; (· rw [e]; exact hin); (· exact hall t (popR_sub _ _ t e))⟩) (by omega) (fz ⟨sr, sr, sr, sr, sr, sr, trivial⟩) (gz ⟨rfl, top_push (by rw [stk_succ hx0, ← hp, hend]), trivial⟩)
 have hov : ¬ overR x0 (popR x0 (stk l k)) := by rw [← hp, hend]; exact over_nil q28i q31i
 refine xw_any [] (by kernel_rfl) (by kernel_rfl) (by kernel_rfl) (by decide) ?_
 refine ym rfl rfl ?_
 refine yp (p_no (p_eql rfl rfl rfl) (q28i)) ?_
 refine ym rfl rfl ?_
 refine ym rfl rfl ?_
 refine yp (p_no (p_gtr rfl rfl rfl) (q31i)) ?_
 refine ym rfl rfl ?_
 refine ChK.skip rfl ?_
 refine ChK.skip rfl ?_
 refine ChK.skip rfl ?_
 refine ChK.skip rfl ?_
 refine ChK.skip rfl ?_
 refine ChK.skip rfl ?_
 refine ChK.skip rfl ?_
 refine ChK.skip rfl ?_
 refine ChK.skip rfl ?_
 refine yp (p_pick_any rfl rfl (by conv => lhs; whnf)) ?_
 refine yp (p_pick_any rfl rfl (by conv => lhs; whnf)) ?_
 refine ChK.nil ⟨by kernel_rfl, ?_⟩
 refine xw_false (by kernel_rfl) rfl ?_
 refine zi ?_
 refine zr ?_
 refine zp (p_load_box rfl rfl sc_23 rfl rfl) ?_
 refine zp (pure_eq (s' := .d (.agg (Tp.c x0))) (norm_pure (p_load_boxs rfl rfl agg_102 rfl (Nat.le_of_ble_eq_true rfl))) (by kernel_rfl)) ?_
 refine XL.step rfl (st_slice 1046 rfl Tryz.underlying23 sz_102 zero_102 rfl rfl (by omega) (by omega)) ?_
 refine XL.step rfl (st_append rfl elt_23 (.own rfl) (Src.own rfl) (by unfold maxLen; simp; omega) (by simp; omega)) ?_
 refine XL.step rfl (st_storeN (l' := [.own 900]) rfl rfl rfl rfl sz_23 rfl (Nat.le_of_ble_eq_true rfl) (by kernel_rfl)) ?_
 refine znr ?_
 refine za rfl rfl ?_
 refine zn ?_
 refine zt ?_
 refine (k_inl (l := [(0, .d (.sl 4 (l.map Tp.c))), (1, .d (dI n)), (6, .fn 165 [] [.ptr 5 0 0]), (7, .d (dI k)), (8, .ptr 8 0 0), (19, .d (.sl 4 (l.map Tp.c))), (20, .d (dI l.length)), (21, .d (dI k)), (23, .d (dI k)), (24, .d (.pt (Tp.c x0))), (25, .d (.agg (Tp.c x0))), (26, .ptr 8 0 1), (27, .d (dI x0.count)), (30, .ptr 8 0 1), (31, .d (dI x0.count)), (32, .d (dI n)), (36, .ptr 8 0 0), (37, .d (dI x0.first)), (41, .ptr 8 0 0), (42, .d (dI x0.first)), (43, .d (dI n)), (44, .ptr 8 0 1), (45, .d (dI x0.count)), (46, .d (dI (n - x0.count))), (50, .ptr 8 0 2), (51, .d (dI x0.actual)), (52, .d (dB (decide (1 ≤ x0.actual ∧ x0.actual ≤ 32)))), (56, .ptr 8 0 3), (57, .d (dI x0.normal)), (58, .d (dB (decide (1 ≤ x0.normal ∧ x0.normal ≤ 32)))), (62, .ptr 8 0 2), (63, .d (dI x0.actual)), (64, .ptr 8 0 3), (65, .d (dI x0.normal)), (68, .d (dI k)), (71, .d (.sl 4 (l.map Tp.c))), (72, .d (dI k)), (73, .d (dI (k - 1))), (74, .d (.pt (Tp.c q))), (75, .d (.agg (Tp.c q))), (76, .d (.agg (Tp.c x0))), (77, .d (dI (ordS q x0))), (80, .fn 165 [] [.ptr 5 0 0]), (81, .d (.agg (Tp.c x0)))]) (by kernel_rfl) (rs1 rfl (RV.tmp rfl rfl)) ?_).2
 refine zp (p_not rfl rfl) ?_
 refine zn ?_
 refine xw_false (by kernel_rfl) rfl ?_
 refine zi ?_
 refine xw_region (by kernel_rfl) ?_
 refine zp (p_add rfl rfl rfl (by omega) (by omega)) ?_
 refine zm rfl rfl ?_
 refine zn ?_
 exact k_round (k + 1) (⟨by omega, by rw [prevT_succ, hx0, stk_succ hx0, ← tupGo_next hx0 hin hna hov]; exact hgo, by rw [stk_succ hx0, List.length_cons, ← hp, hend]; omega, fun t ht => by rw [stk_succ hx0] at ht; rcases List.mem_cons.1 ht with e | e; (· rw [e]; exact hin); (· exact hall t (popR_sub _ _ t e))⟩) (by omega) (fz ⟨sr, sr, sr, sr, sr, sr, trivial⟩) (gz ⟨rfl, top_push (by rw [stk_succ hx0, ← hp, hend]), trivial⟩)
 have hna := after_zero (l := l) (t := x0) q69
 refine xw_any [] (by kernel_rfl) (by kernel_rfl) (by kernel_rfl) (by decide) ?_
 refine ym rfl rfl ?_
 refine yp (p_no (p_gtr rfl rfl rfl) (q69)) ?_
 refine ym rfl rfl ?_
 refine ChK.skip rfl ?_
 refine ChK.skip rfl ?_
 refine ChK.skip rfl ?_
 refine ChK.skip rfl ?_
 refine ChK.skip rfl ?_
 refine ChK.skip rfl ?_
 refine ChK.skip rfl ?_
 refine ChK.skip rfl ?_
 refine yp (p_pick_any rfl rfl (by conv => lhs; whnf)) ?_
 refine ChK.nil ⟨by kernel_rfl, ?_⟩
 refine xw_false (by kernel_rfl) rfl ?_
 refine zi ?_
 refine zr ?_
 refine zp (p_move rfl (by conv => lhs; whnf)) ?_
 refine zp (pure_eq (s' := .d (.agg (Tp.c x0))) (norm_pure (p_load_boxs rfl rfl agg_102 rfl (Nat.le_of_ble_eq_true rfl))) (by kernel_rfl)) ?_
 refine XL.inl 900002 [(0, .d (.sl 4 (l.map Tp.c))), (1, .d (dI n)), (6, .fn 165 [] [.ptr 5 0 0]), (7, .d (dI k)), (8, .ptr 8 0 0), (19, .d (.sl 4 (l.map Tp.c))), (20, .d (dI l.length)), (21, .d (dI k)), (23, .d (dI k)), (24, .d (.pt (Tp.c x0))), (25, .d (.agg (Tp.c x0))), (26, .ptr 8 0 1), (27, .d (dI x0.count)), (30, .ptr 8 0 1), (31, .d (dI x0.count)), (32, .d (dI n)), (36, .ptr 8 0 0), (37, .d (dI x0.first)), (41, .ptr 8 0 0), (42, .d (dI x0.first)), (43, .d (dI n)), (44, .ptr 8 0 1), (45, .d (dI x0.count)), (46, .d (dI (n - x0.count))), (50, .ptr 8 0 2), (51, .d (dI x0.actual)), (52, .d (dB (decide (1 ≤ x0.actual ∧ x0.actual ≤ 32)))), (56, .ptr 8 0 3), (57, .d (dI x0.normal)), (58, .d (dB (decide (1 ≤ x0.normal ∧ x0.normal ≤ 32)))), (62, .ptr 8 0 2), (63, .d (dI x0.actual)), (64, .ptr 8 0 3), (65, .d (dI x0.normal)), (68, .d (dI k)), (79, .d (dB false)), (80, .fn 165 [] [.ptr 5 0 0]), (81, .d (.agg (Tp.c x0)))] rfl rfl .s callable_165 Tryz.func165 rfl rfl (Nat.le_of_ble_eq_true rfl) (by simp only [List.forall_mem_cons]; exact ⟨⟨Nat.le_of_ble_eq_true rfl, rfl⟩, ⟨⟨Nat.le_of_ble_eq_true rfl, rfl⟩, ⟨⟨Nat.le_of_ble_eq_true rfl, rfl⟩, ⟨⟨Nat.le_of_ble_eq_true rfl, rfl⟩, ⟨⟨Nat.le_of_ble_eq_true rfl, rfl⟩, ⟨⟨Nat.le_of_ble_eq_true rfl, rfl⟩, ⟨⟨Nat.le_of_ble_eq_true rfl, rfl⟩, ⟨⟨Nat.le_of_ble_eq_true rfl, rfl⟩, ⟨⟨Nat.le_of_ble_eq_true rfl, rfl⟩, ⟨⟨Nat.le_of_ble_eq_true rfl, rfl⟩, ⟨⟨Nat.le_of_ble_eq_true rfl, rfl⟩, ⟨⟨Nat.le_of_ble_eq_true rfl, rfl⟩, ⟨⟨Nat.le_of_ble_eq_true rfl, rfl⟩, ⟨⟨Nat.le_of_ble_eq_true rfl, rfl⟩, ⟨⟨Nat.le_of_ble_eq_true rfl, rfl⟩, ⟨⟨Nat.le_of_ble_eq_true rfl, rfl⟩, ⟨⟨Nat.le_of_ble_eq_true rfl, rfl⟩, ⟨⟨Nat.le_of_ble_eq_true rfl, rfl⟩, ⟨⟨Nat.le_of_ble_eq_true rfl, rfl⟩, ⟨⟨Nat.le_of_ble_eq_true rfl, rfl⟩, ⟨⟨Nat.le_of_ble_eq_true rfl, rfl⟩, ⟨⟨Nat.le_of_ble_eq_true rfl, rfl⟩, ⟨⟨Nat.le_of_ble_eq_true rfl, rfl⟩, ⟨⟨Nat.le_of_ble_eq_true rfl, rfl⟩, ⟨⟨Nat.le_of_ble_eq_true rfl, rfl⟩, ⟨⟨Nat.le_of_ble_eq_true rfl, rfl⟩, ⟨⟨Nat.le_of_ble_eq_true rfl, rfl⟩, ⟨⟨Nat.le_of_ble_eq_true rfl, rfl⟩, ⟨⟨Nat.le_of_ble_eq_true rfl, rfl⟩, ⟨⟨Nat.le_of_ble_eq_true rfl, rfl⟩, ⟨⟨Nat.le_of_ble_eq_true rfl, rfl⟩, ⟨⟨Nat.le_of_ble_eq_true rfl, rfl⟩, ⟨⟨Nat.le_of_ble_eq_true rfl, rfl⟩, ⟨⟨Nat.le_of_ble_eq_true rfl, rfl⟩, ⟨⟨Nat.le_of_ble_eq_true rfl, rfl⟩, ⟨⟨Nat.le_of_ble_eq_true rfl, rfl⟩, ⟨⟨Nat.le_of_ble_eq_true rfl, rfl⟩, ⟨⟨Nat.le_of_ble_eq_true rfl, rfl⟩, fun p hp => (by cases hp)⟩⟩⟩⟩⟩⟩⟩⟩⟩⟩⟩⟩⟩⟩⟩⟩⟩⟩⟩⟩⟩⟩⟩⟩⟩⟩⟩⟩⟩⟩⟩⟩⟩⟩⟩⟩⟩⟩) (fun u2 => ?_)
 refine zr ?_
 refine XL.step rfl (st_boxN 2002 (l := [.d (dI x0.first), .d (dI x0.count), .d (dI x0.actual), .d (dI x0.normal)]) rfl rfl (by kernel_rfl)) ?_
 refine za rfl rfl ?_
 refine zn ?_
 refine zs ?_
 refine xw_block ?_
 refine xw_loop (α := List Tp) (fun s => popR x0 s = popR x0 (stk l k) ∧ s.length ≤ 3 ∧ ∀ t ∈ s, t.inR n) (fun s => mkF [(1, .ptr 5 0 0), (2, .ptr 2002 0 0), (3, .d (dB false))]) (fun s => mkH [(5, .box [.own 900]), (8, .box ((Tp.c x0).map S.d)), (900, .row 102 4 (s.reverse.map Tp.c)), (2002, .box ((Tp.c x0).map S.d)), (900002, .ghost u2 [(0, .d (.sl 4 (l.map Tp.c))), (1, .d (dI n)), (6, .fn 165 [] [.ptr 5 0 0]), (7, .d (dI k)), (8, .ptr 8 0 0), (19, .d (.sl 4 (l.map Tp.c))), (20, .d (dI l.length)), (21, .d (dI k)), (23, .d (dI k)), (24, .d (.pt (Tp.c x0))), (25, .d (.agg (Tp.c x0))), (26, .ptr 8 0 1), (27, .d (dI x0.count)), (30, .ptr 8 0 1), (31, .d (dI x0.count)), (32, .d (dI n)), (36, .ptr 8 0 0), (37, .d (dI x0.first)), (41, .ptr 8 0 0), (42, .d (dI x0.first)), (43, .d (dI n)), (44, .ptr 8 0 1), (45, .d (dI x0.count)), (46, .d (dI (n - x0.count))), (50, .ptr 8 0 2), (51, .d (dI x0.actual)), (52, .d (dB (decide (1 ≤ x0.actual ∧ x0.actual ≤ 32)))), (56, .ptr 8 0 3), (57, .d (dI x0.normal)), (58, .d (dB (decide (1 ≤ x0.normal ∧ x0.normal ≤ 32)))), (62, .ptr 8 0 2), (63, .d (dI x0.actual)), (64, .ptr 8 0 3), (65, .d (dI x0.normal)), (68, .d (dI k)), (79, .d (dB false)), (80, .fn 165 [] [.ptr 5 0 0]), (81, .d (.agg (Tp.c x0)))])]) (fun s => s.length) ((stk l k)) (⟨rfl, hst, hall⟩) ?_ ?_ ?_
 exact fz ⟨sr, sr, sr, trivial⟩
 exact gz ⟨rfl, rfl, rfl, rfl, rfl, trivial⟩
 intro s hk0i
 obtain ⟨hp, hl3, hso⟩ := hk0i
 have hrl : s.reverse.length = s.length := List.length_reverse
 refine zs ?_
 refine zs ?_
 by_cases q7i : (0 : Int) < (s.reverse.length : Int)
 obtain ⟨o, r, hs⟩ := top_ex q7i
 have hoo : o.ok := (hso o (by rw [hs]; exact List.mem_cons_self)).ok (by omega)
 refine xw_any [] (by kernel_rfl) (by kernel_rfl) (by kernel_rfl) (by decide) ?_
 refine yp (p_load_box rfl rfl sc_23 rfl rfl) ?_
 refine yp (p_len_ownm rfl rfl rfl Tryz.underlying23) ?_
 refine yp (p_yes (p_gtr rfl rfl rfl) (q7i)) ?_
 refine ym rfl rfl ?_
 refine yp (p_load_box rfl rfl sc_23 rfl rfl) ?_
 refine yp (p_load_box rfl rfl sc_23 rfl rfl) ?_
 refine yp (p_len_ownm rfl rfl rfl Tryz.underlying23) ?_
 refine yp (p_sub rfl rfl rfl (by omega) (by omega)) ?_
 refine yp (p_idx_owni rfl rfl rfl (top_ix hs) rfl el_23 (top_lt hs)) ?_
 refine yp (pure_eq (s' := .d (.agg (Tp.c o))) (p_load_rows rfl rfl agg_102 rfl (map_get (top_get hs)) (Nat.le_of_ble_eq_true rfl)) (by kernel_rfl)) ?_
 refine ChK.cons rfl (CStep.call rfl (tend_xc _ (by assumption)) rfl) ?_
 refine yp (p_fld_ptr rfl rfl fld_102_0) ?_
 refine yp (p_load_box rfl rfl sc_3 rfl rfl) ?_
 refine yp (p_leq rfl rfl rfl) ?_
 refine yp (p_pick_any rfl rfl (by conv => lhs; whnf)) ?_
 refine ChK.nil ⟨by kernel_rfl, ?_⟩
 refine zd rfl (fun c19i => ?_) (fun c19i => ?_)
 refine zi ?_
 refine xw_block ?_
 refine xw_region (by kernel_rfl) ?_
 refine zp (p_load_box rfl rfl sc_23 rfl rfl) ?_
 refine zp (p_load_box rfl rfl sc_23 rfl rfl) ?_
 refine zp (p_len_ownm rfl rfl rfl Tryz.underlying23) ?_
 refine zp (p_sub rfl rfl rfl (by omega) (by omega)) ?_
 refine XL.step rfl (st_cut rfl rfl rfl el_23 (Bd.ati rfl (top_ix hs)) (by simp)) ?_
 refine XL.step rfl (st_storeN (l' := [.own 900]) rfl rfl rfl rfl sz_23 rfl (Nat.le_of_ble_eq_true rfl) (by kernel_rfl)) ?_
 refine zn ?_
 refine k_blk ?_
 exact k_round (r) (⟨by rw [← popR_yes hs c19i]; exact hp, by rw [hs] at hl3; simp at hl3; omega, fun t ht => hso t (by rw [hs]; exact List.mem_cons_of_mem _ ht)⟩) (by rw [hs]; simp) (fz ⟨sr, sr, sr, trivial⟩) (gz ⟨rfl, rfl, top_cut hs, rfl, rfl, trivial⟩)
 have hend := popR_no hs c19i
 refine xw_exit ?_
 refine zs ?_
 refine zr ?_
 refine zp (p_load_box rfl rfl sc_23 rfl rfl) ?_
 refine zp (p_len_ownm rfl rfl rfl Tryz.underlying23) ?_
 refine za rfl rfl ?_
 refine zn ?_
 refine zs ?_
 by_cases q28i : (s.reverse.length : Int) = (3 : Int)
 have hov : overR x0 (popR x0 (stk l k)) := by rw [← hp, hend]; exact over_3 q28i
 refine xw_any [] (by kernel_rfl) (by kernel_rfl) (by kernel_rfl) (by decide) ?_
 refine ym rfl rfl ?_
 refine yp (p_yes (p_eql rfl rfl rfl) (q28i)) ?_
 refine ym rfl rfl ?_
 refine ChK.skip rfl ?_
 refine ChK.skip rfl ?_
 refine ChK.skip rfl ?_
 refine ChK.skip rfl ?_
 refine ChK.skip rfl ?_
 refine ChK.skip rfl ?_
 refine ChK.skip rfl ?_
 refine ChK.skip rfl ?_
 refine ChK.skip rfl ?_
 refine ChK.skip rfl ?_
 refine ChK.skip rfl ?_
 refine ChK.skip rfl ?_
 refine ChK.skip rfl ?_
 refine yp (p_pick_any rfl rfl (by conv => lhs; whnf)) ?_
 refine ChK.nil ⟨by kernel_rfl, ?_⟩
 refine xw_true (by kernel_rfl) rfl ?_
 refine zr ?_
 refine za rfl rfl ?_
 refine zn ?_
 refine zt ?_
 refine (k_inl (l := [(0, .d (.sl 4 (l.map Tp.c))), (1, .d (dI n)), (6, .fn 165 [] [.ptr 5 0 0]), (7, .d (dI k)), (8, .ptr 8 0 0), (19, .d (.sl 4 (l.map Tp.c))), (20, .d (dI l.length)), (21, .d (dI k)), (23, .d (dI k)), (24, .d (.pt (Tp.c x0))), (25, .d (.agg (Tp.c x0))), (26, .ptr 8 0 1), (27, .d (dI x0.count)), (30, .ptr 8 0 1), (31, .d (dI x0.count)), (32, .d (dI n)), (36, .ptr 8 0 0), (37, .d (dI x0.first)), (41, .ptr 8 0 0), (42, .d (dI x0.first)), (43, .d (dI n)), (44, .ptr 8 0 1), (45, .d (dI x0.count)), (46, .d (dI (n - x0.count))), (50, .ptr 8 0 2), (51, .d (dI x0.actual)), (52, .d (dB (decide (1 ≤ x0.actual ∧ x0.actual ≤ 32)))), (56, .ptr 8 0 3), (57, .d (dI x0.normal)), (58, .d (dB (decide (1 ≤ x0.normal ∧ x0.normal ≤ 32)))), (62, .ptr 8 0 2), (63, .d (dI x0.actual)), (64, .ptr 8 0 3), (65, .d (dI x0.normal)), (68, .d (dI k)), (79, .d (dB false)), (80, .fn 165 [] [.ptr 5 0 0]), (81, .d (.agg (Tp.c x0)))]) (by kernel_rfl) (rs1 rfl (RV.tmp rfl rfl)) ?_).2
 refine zp (p_not rfl rfl) ?_
 refine zn ?_
 refine xw_true (by kernel_rfl) rfl ?_
 refine zr ?_
 refine za rfl rfl ?_
 refine zn ?_
 refine zt ?_
 exact z1 rfl rfl (rI (tup_3 g11 c14 c17 (by rw [← hgo, tupGo_over hx0 hin hna hov])))
 by_cases q31i : (0 : Int) < (s.reverse.length : Int)
 obtain ⟨o, r, hs⟩ := top_ex q31i
 have hoo : o.ok := (hso o (by rw [hs]; exact List.mem_cons_self)).ok (by omega)
 refine xw_any [] (by kernel_rfl) (by kernel_rfl) (by kernel_rfl) (by decide) ?_
 refine ym rfl rfl ?_
 refine yp (p_no (p_eql rfl rfl rfl) (q28i)) ?_
 refine ym rfl rfl ?_
 refine ym rfl rfl ?_
 refine yp (p_yes (p_gtr rfl rfl rfl) (q31i)) ?_
 refine ym rfl rfl ?_
 refine yp (pure_eq (s' := .d (.agg (Tp.c x0))) (norm_pure (p_load_boxs rfl rfl agg_102 rfl (Nat.le_of_ble_eq_true rfl))) (by kernel_rfl)) ?_
 refine ChK.cons rfl (CStep.call rfl (tend_xc _ (by assumption)) rfl) ?_
 refine yp (p_load_box rfl rfl sc_23 rfl rfl) ?_
 refine ym rfl rfl ?_
 refine yp (p_sub rfl rfl rfl (by omega) (by omega)) ?_
 refine yp (p_idx_owni rfl rfl rfl (top_ix hs) rfl el_23 (top_lt hs)) ?_
 refine yp (pure_eq (s' := .d (.agg (Tp.c o))) (p_load_rows rfl rfl agg_102 rfl (map_get (top_get hs)) (Nat.le_of_ble_eq_true rfl)) (by kernel_rfl)) ?_
 refine ChK.cons rfl (CStep.call rfl (tend_xc _ (by assumption)) rfl) ?_
 refine yp (p_gtr rfl rfl rfl) ?_
 refine yp (p_pick_any rfl rfl (by conv => lhs; whnf)) ?_
 refine yp (p_pick_any rfl rfl (by conv => lhs; whnf)) ?_
 refine ChK.nil ⟨by kernel_rfl, ?_⟩
 refine zd rfl (fun c43i => ?_) (fun c43i => ?_)
 have hov : overR x0 (popR x0 (stk l k)) := by rw [← hp, hend]; exact over_top hs c43i
 refine zr ?_
 refine za rfl rfl ?_
 refine zn ?_
 refine zt ?_
 refine (k_inl (l := [(0, .d (.sl 4 (l.map Tp.c))), (1, .d (dI n)), (6, .fn 165 [] [.ptr 5 0 0]), (7, .d (dI k)), (8, .ptr 8 0 0), (19, .d (.sl 4 (l.map Tp.c))), (20, .d (dI l.length)), (21, .d (dI k)), (23, .d (dI k)), (24, .d (.pt (Tp.c x0))), (25, .d (.agg (Tp.c x0))), (26, .ptr 8 0 1), (27, .d (dI x0.count)), (30, .ptr 8 0 1), (31, .d (dI x0.count)), (32, .d (dI n)), (36, .ptr 8 0 0), (37, .d (dI x0.first)), (41, .ptr 8 0 0), (42, .d (dI x0.first)), (43, .d (dI n)), (44, .ptr 8 0 1), (45, .d (dI x0.count)), (46, .d (dI (n - x0.count))), (50, .ptr 8 0 2), (51, .d (dI x0.actual)), (52, .d (dB (decide (1 ≤ x0.actual ∧ x0.actual ≤ 32)))), (56, .ptr 8 0 3), (57, .d (dI x0.normal)), (58, .d (dB (decide (1 ≤ x0.normal ∧ x0.normal ≤ 32)))), (62, .ptr 8 0 2), (63, .d (dI x0.actual)), (64, .ptr 8 0 3), (65, .d (dI x0.normal)), (68, .d (dI k)), (79, .d (dB false)), (80, .fn 165 [] [.ptr 5 0 0]), (81, .d (.agg (Tp.c x0)))]) (by kernel_rfl) (rs1 rfl (RV.tmp rfl rfl)) ?_).2
 refine zp (p_not rfl rfl) ?_
 refine zn ?_
 refine xw_true (by kernel_rfl) rfl ?_
 refine zr ?_
 refine za rfl rfl ?_
 refine zn ?_
 refine zt ?_
 exact z1 rfl rfl (rI (tup_3 g11 c14 c17 (by rw [← hgo, tupGo_over hx0 hin hna hov])))
 have hov : ¬ overR x0 (popR x0 (stk l k)) := by rw [← hp, hend]; exact over_no q28i hs c43i
 refine zi ?_
 refine zr ?_
 refine zp (p_load_box rfl rfl sc_23 rfl rfl) ?_
 refine zp (pure_eq (s' := .d (.agg (Tp.c x0))) (norm_pure (p_load_boxs rfl rfl agg_102 rfl (Nat.le_of_ble_eq_true rfl))) (by kernel_rfl)) ?_
 refine XL.step rfl (st_slice 2046 rfl Tryz.underlying23 sz_102 zero_102 rfl rfl (by omega) (by omega)) ?_
 refine XL.step rfl (st_append rfl elt_23 (.own rfl) (Src.own rfl) (by unfold maxLen; simp; omega) (by simp; omega)) ?_
 refine XL.step rfl (st_storeN (l' := [.own 900]) rfl rfl rfl rfl sz_23 rfl (Nat.le_of_ble_eq_true rfl) (by kernel_rfl)) ?_
 refine znr ?_
 refine za rfl rfl ?_
 refine zn ?_
 refine zt ?_
 refine (k_inl (l := [(0, .d (.sl 4 (l.map Tp.c))), (1, .d (dI n)), (6, .fn 165 [] [.ptr 5 0 0]), (7, .d (dI k)), (8, .ptr 8 0 0), (19, .d (.sl 4 (l.map Tp.c))), (20, .d (dI l.length)), (21, .d (dI k)), (23, .d (dI k)), (24, .d (.pt (Tp.c x0))), (25, .d (.agg (Tp.c x0))), (26, .ptr 8 0 1), (27, .d (dI x0.count)), (30, .ptr 8 0 1), (31, .d (dI x0.count)), (32, .d (dI n)), (36, .ptr 8 0 0), (37, .d (dI x0.first)), (41, .ptr 8 0 0), (42, .d (dI x0.first)), (43, .d (dI n)), (44, .ptr 8 0 1), (45, .d (dI x0.count)), (46, .d (dI (n - x0.count))), (50, .ptr 8 0 2), (51, .d (dI x0.actual)), (52, .d (dB (decide (1 ≤ x0.actual ∧ x0.actual ≤ 32)))), (56, .ptr 8 0 3), (57, .d (dI x0.normal)), (58, .d (dB (decide (1 ≤ x0.normal ∧ x0.normal ≤ 32)))), (62, .ptr 8 0 2), (63, .d (dI x0.actual)), (64, .ptr 8 0 3), (65, .d (dI x0.normal)), (68, .d (dI k)), (79, .d (dB false)), (80, .fn 165 [] [.ptr 5 0 0]), (81, .d (.agg (Tp.c x0)))]) (by kernel_rfl) (rs1 rfl (RV.tmp rfl rfl)) ?_).2
 refine zp (p_not rfl rfl) ?_
 refine zn ?_
 refine xw_false (by kernel_rfl) rfl ?_
 refine zi ?_
 refine xw_region (by kernel_rfl) ?_
 refine zp (p_add rfl rfl rfl (by omega) (by omega)) ?_
 refine zm rfl rfl ?_
 refine zn ?_
 exact k_round (k + 1) (⟨by omega, by rw [prevT_succ, hx0, stk_succ hx0, ← tupGo_next hx0 hin hna hov]; exact hgo, by rw [stk_succ hx0, List.length_cons, ← hp, hend]; omega, fun t ht => by rw [stk_succ hx0] at ht; rcases List.mem_cons.1 ht with e | e; (· rw [e]; exact hin); (· exact hall t (popR_sub _ _ t e))⟩) (by omega) (fz ⟨sr, sr, sr, sr, sr, sr, trivial⟩) (gz ⟨rfl, top_push (by rw [stk_succ hx0, ← hp, hend]), trivial⟩)
 have hov : ¬ overR x0 (popR x0 (stk l k)) := by rw [← hp, hend]; exact over_nil q28i q31i
 refine xw_any [] (by kernel_rfl) (by kernel_rfl) (by kernel_rfl) (by decide) ?_
 refine ym rfl rfl ?_
 refine yp (p_no (p_eql rfl rfl rfl) (q28i)) ?_
 refine ym rfl rfl ?_
 refine ym rfl rfl ?_
 refine yp (p_no (p_gtr rfl rfl rfl) (q31i)) ?_
 refine ym rfl rfl ?_
 refine ChK.skip rfl ?_
 refine ChK.skip rfl ?_
 refine ChK.skip rfl ?_
 refine ChK.skip rfl ?_
 refine ChK.skip rfl ?_
 refine ChK.skip rfl ?_
 refine ChK.skip rfl ?_
 refine ChK.skip rfl ?_
 refine ChK.skip rfl ?_
 refine yp (p_pick_any rfl rfl (by conv => lhs; whnf)) ?_
 refine yp (p_pick_any rfl rfl (by conv => lhs; whnf)) ?_
 refine ChK.nil ⟨by kernel_rfl, ?_⟩
 refine xw_false (by kernel_rfl) rfl ?_
 refine zi ?_
 refine zr ?_
 refine zp (p_load_box rfl rfl sc_23 rfl rfl) ?_
 refine zp (pure_eq (s' := .d (.agg (Tp.c x0))) (norm_pure (p_load_boxs rfl rfl agg_102 rfl (Nat.le_of_ble_eq_true rfl))) (by kernel_rfl)) ?_
 refine XL.step rfl (st_slice 2046 rfl Tryz.underlying23 sz_102 zero_102 rfl rfl (by omega) (by omega)) ?_
 refine XL.step rfl (st_append rfl elt_23 (.own rfl) (Src.own rfl) (by unfold maxLen; simp; omega) (by simp; omega)) ?_
 refine XL.step rfl (st_storeN (l' := [.own 900]) rfl rfl rfl rfl sz_23 rfl (Nat.le_of_ble_eq_true rfl) (by kernel_rfl)) ?_
 refine znr ?_
 refine za rfl rfl ?_
 refine zn ?_
 refine zt ?_
 refine (k_inl (l := [(0, .d (.sl 4 (l.map Tp.c))), (1, .d (dI n)), (6, .fn 165 [] [.ptr 5 0 0]), (7, .d (dI k)), (8, .ptr 8 0 0), (19, .d (.sl 4 (l.map Tp.c))), (20, .d (dI l.length)), (21, .d (dI k)), (23, .d (dI k)), (24, .d (.pt (Tp.c x0))), (25, .d (.agg (Tp.c x0))), (26, .ptr 8 0 1), (27, .d (dI x0.count)), (30, .ptr 8 0 1), (31, .d (dI x0.count)), (32, .d (dI n)), (36, .ptr 8 0 0), (37, .d (dI x0.first)), (41, .ptr 8 0 0), (42, .d (dI x0.first)), (43, .d (dI n)), (44, .ptr 8 0 1), (45, .d (dI x0.count)), (46, .d (dI (n - x0.count))), (50, .ptr 8 0 2), (51, .d (dI x0.actual)), (52, .d (dB (decide (1 ≤ x0.actual ∧ x0.actual ≤ 32)))), (56, .ptr 8 0 3), (57, .d (dI x0.normal)), (58, .d (dB (decide (1 ≤ x0.normal ∧ x0.normal ≤ 32)))), (62, .ptr 8 0 2), (63, .d (dI x0.actual)), (64, .ptr 8 0 3), (65, .d (dI x0.normal)), (68, .d (dI k)), (79, .d (dB false)), (80, .fn 165 [] [.ptr 5 0 0]), (81, .d (.agg (Tp.c x0)))]) (by kernel_rfl) (rs1 rfl (RV.tmp rfl rfl)) ?_).2
 refine zp (p_not rfl rfl) ?_
 refine zn ?_
 refine xw_false (by kernel_rfl) rfl ?_
 refine zi ?_
 refine xw_region (by kernel_rfl) ?_
 refine zp (p_add rfl rfl rfl (by omega) (by omega)) ?_
 refine zm rfl rfl ?_
 refine zn ?_
 exact k_round (k + 1) (⟨by omega, by rw [prevT_succ, hx0, stk_succ hx0, ← tupGo_next hx0 hin hna hov]; exact hgo, by rw [stk_succ hx0, List.length_cons, ← hp, hend]; omega, fun t ht => by rw [stk_succ hx0] at ht; rcases List.mem_cons.1 ht with e | e; (· rw [e]; exact hin); (· exact hall t (popR_sub _ _ t e))⟩) (by omega) (fz ⟨sr, sr, sr, sr, sr, sr, trivial⟩) (gz ⟨rfl, top_push (by rw [stk_succ hx0, ← hp, hend]), trivial⟩)
 have hend := popR_nil (t := x0) q7i
 refine xw_any [] (by kernel_rfl) (by kernel_rfl) (by kernel_rfl) (by decide) ?_
 refine yp (p_load_box rfl rfl sc_23 rfl rfl) ?_
 refine yp (p_len_ownm rfl rfl rfl Tryz.underlying23) ?_
 refine yp (p_no (p_gtr rfl rfl rfl) (q7i)) ?_
 refine ym rfl rfl ?_
 refine ChK.skip rfl ?_
 refine ChK.skip rfl ?_
 refine ChK.skip rfl ?_
 refine ChK.skip rfl ?_
 refine ChK.skip rfl ?_
 refine ChK.skip rfl ?_
 refine ChK.skip rfl ?_
 refine ChK.skip rfl ?_
 refine ChK.skip rfl ?_
 refine ChK.skip rfl ?_
 refine yp (p_pick_any rfl rfl (by conv => lhs; whnf)) ?_
 refine ChK.nil ⟨by kernel_rfl, ?_⟩
 refine xw_false (by kernel_rfl) rfl ?_
 refine xw_exit ?_
 refine zs ?_
 refine zr ?_
 refine zp (p_load_box rfl rfl sc_23 rfl rfl) ?_
 refine zp (p_len_ownm rfl rfl rfl Tryz.underlying23) ?_
 refine za rfl rfl ?_
 refine zn ?_
 refine zs ?_
 by_cases q28i : (s.reverse.length : Int) = (3 : Int)
 have hov : overR x0 (popR x0 (stk l k)) := by rw [← hp, hend]; exact over_3 q28i
 refine xw_any [] (by kernel_rfl) (by kernel_rfl) (by kernel_rfl) (by decide) ?_
 refine ym rfl rfl ?_
 refine yp (p_yes (p_eql rfl rfl rfl) (q28i)) ?_
 refine ym rfl rfl ?_
 refine ChK.skip rfl ?_
 refine ChK.skip rfl ?_
 refine ChK.skip rfl ?_
 refine ChK.skip rfl ?_
 refine ChK.skip rfl ?_
 refine ChK.skip rfl ?_
 refine ChK.skip rfl ?_
 refine ChK.skip rfl ?_
 refine ChK.skip rfl ?_
 refine ChK.skip rfl ?_
 refine ChK.skip rfl ?_
 refine ChK.skip rfl ?_
 refine ChK.skip rfl ?_
 refine yp (p_pick_any rfl rfl (by conv => lhs; whnf)) ?_
 refine ChK.nil ⟨by kernel_rfl, ?_⟩
 refine xw_true (by kernel_rfl) rfl ?_
 refine zr ?_
 refine za rfl rfl ?_
 refine zn ?_
 refine zt ?_
 refine (k_inl (l := [(0, .d (.sl 4 (l.map Tp.c))), (1, .d (dI n)), (6, .fn 165 [] [.ptr 5 0 0]), (7, .d (dI k)), (8, .ptr 8 0 0), (19, .d (.sl 4 (l.map Tp.c))), (20, .d (dI l.length)), (21, .d (dI k)), (23, .d (dI k)), (24, .d (.pt (Tp.c x0))), (25, .d (.agg (Tp.c x0))), (26, .ptr 8 0 1), (27, .d (dI x0.count)), (30, .ptr 8 0 1), (31, .d (dI x0.count)), (32, .d (dI n)), (36, .ptr 8 0 0), (37, .d (dI x0.first)), (41, .ptr 8 0 0), (42, .d (dI x0.first)), (43, .d (dI n)), (44, .ptr 8 0 1), (45, .d (dI x0.count)), (46, .d (dI (n - x0.count))), (50, .ptr 8 0 2), (51, .d (dI x0.actual)), (52, .d (dB (decide (1 ≤ x0.actual ∧ x0.actual ≤ 32)))), (56, .ptr 8 0 3), (57, .d (dI x0.normal)), (58, .d (dB (decide (1 ≤ x0.normal ∧ x0.normal ≤ 32)))), (62, .ptr 8 0 2), (63, .d (dI x0.actual)), (64, .ptr 8 0 3), (65, .d (dI x0.normal)), (68, .d (dI k)), (79, .d (dB false)), (80, .fn 165 [] [.ptr 5 0 0]), (81, .d (.agg (Tp.c x0)))]) (by kernel_rfl) (rs1 rfl (RV.tmp rfl rfl)) ?_).2
 refine zp (p_not rfl rfl) ?_
 refine zn ?_
 refine xw_true (by kernel_rfl) rfl ?_
 refine zr ?_
 refine za rfl rfl ?_
 refine zn ?_
 refine zt ?_
 exact z1 rfl rfl (rI (tup_3 g11 c14 c17 (by rw [← hgo, tupGo_over hx0 hin hna hov])))
 by_cases q31i : (0 : Int) < (s.reverse.length : Int)
 obtain ⟨o, r, hs⟩ := top_ex q31i
 have hoo : o.ok := (hso o (by rw [hs]; exact List.mem_cons_self)).ok (by omega)
 refine xw_any [] (by kernel_rfl) (by kernel_rfl) (by kernel_rfl) (by decide) ?_
 refine ym rfl rfl ?_
 refine yp (p_no (p_eql rfl rfl rfl) (q28i)) ?_
 refine ym rfl rfl ?_
 refine ym rfl rfl ?_
 refine yp (p_yes (p_gtr rfl rfl rfl) (q31i)) ?_
 refine ym rfl rfl ?_
 refine yp (pure_eq (s' := .d (.agg (Tp.c x0))) (norm_pure (p_load_boxs rfl rfl agg_102 rfl (Nat.le_of_ble_eq_true rfl))) (by kernel_rfl)) ?_
 refine ChK.cons rfl (CStep.call rfl (tend_xc _ (by assumption)) rfl) ?_
 refine yp (p_load_box rfl rfl sc_23 rfl rfl) ?_
 refine ym rfl rfl ?_
 refine yp (p_sub rfl rfl rfl (by omega) (by omega)) ?_
 refine yp (p_idx_owni rfl rfl rfl (top_ix hs) rfl el_23 (top_lt hs)) ?_
 refine yp (pure_eq (s' := .d (.agg (Tp.c o))) (p_load_rows rfl rfl agg_102 rfl (map_get (top_get hs)) (Nat.le_of_ble_eq_true rfl)) (by kernel_rfl)) ?_
 refine ChK.cons rfl (CStep.call rfl (tend_xc _ (by assumption)) rfl) ?_
 refine yp (p_gtr rfl rfl rfl) ?_
 refine yp (p_pick_any rfl rfl (by conv => lhs; whnf)) ?_
 refine yp (p_pick_any rfl rfl (by conv => lhs; whnf)) ?_
 refine ChK.nil ⟨by kernel_rfl, ?_⟩
 refine zd rfl (fun c43i => ?_) (fun c43i => ?_)
 have hov : overR x0 (popR x0 (stk l k)) := by rw [← hp, hend]; exact over_top hs c43i
 refine zr ?_
 refine za rfl rfl ?_
 refine zn ?_
 refine zt ?_
 refine (k_inl (l := [(0, .d (.sl 4 (l.map Tp.c))), (1, .d (dI n)), (6, .fn 165 [] [.ptr 5 0 0]), (7, .d (dI k)), (8, .ptr 8 0 0), (19, .d (.sl 4 (l.map Tp.c))), (20, .d (dI l.length)), (21, .d (dI k)), (23, .d (dI k)), (24, .d (.pt (Tp.c x0))), (25, .d (.agg (Tp.c x0))), (26, .ptr 8 0 1), (27, .d (dI x0.count)), (30, .ptr 8 0 1), (31, .d (dI x0.count)), (32, .d (dI n)), (36, .ptr 8 0 0), (37, .d (dI x0.first)), (41, .ptr 8 0 0), (42, .d (dI x0.first)), (43, .d (dI n)), (44, .ptr 8 0 1), (45, .d (dI x0.count)), (46, .d (dI (n - x0.count))), (50, .ptr 8 0 2), (51, .d (dI x0.actual)), (52, .d (dB (decide (1 ≤ x0.actual ∧ x0.actual ≤ 32)))), (56, .ptr 8 0 3), (57, .d (dI x0.normal)), (58, .d (dB (decide (1 ≤ x0.normal ∧ x0.normal ≤ 32)))), (62, .ptr 8 0 2), (63, .d (dI x0.actual)), (64, .ptr 8 0 3), (65, .d (dI x0.normal)), (68, .d (dI k)), (79, .d (dB false)), (80, .fn 165 [] [.ptr 5 0 0]), (81, .d (.agg (Tp.c x0)))]) (by kernel_rfl) (rs1 rfl (RV.tmp rfl rfl)) ?_).2
 refine zp (p_not rfl rfl) ?_
 refine zn ?_
 refine xw_true (by kernel_rfl) rfl ?_
 refine zr ?_
 refine za rfl rfl ?_
 refine zn ?_
 refine zt ?_
 exact z1 rfl rfl (rI (tup_3 g11 c14 c17 (by rw [← hgo, tupGo_over hx0 hin hna hov])))
 have hov : ¬ overR x0 (popR x0 (stk l k)) := by rw [← hp, hend]; exact over_no q28i hs c43i
 refine zi ?_
 refine zr ?_
 refine zp (p_load_box rfl rfl sc_23 rfl rfl) ?_
 refine zp (pure_eq (s' := .d (.agg (Tp.c x0))) (norm_pure (p_load_boxs rfl rfl agg_102 rfl (Nat.le_of_ble_eq_true rfl))) (by kernel_rfl)) ?_
 refine XL.step rfl (st_slice 2046 rfl Tryz.underlying23 sz_102 zero_102 rfl rfl (by omega) (by omega)) ?_
 refine XL.step rfl (st_append rfl elt_23 (.own rfl) (Src.own rfl) (by unfold maxLen; simp; omega) (by simp; omega)) ?_
 refine XL.step rfl (st_storeN (l' := [.own 900]) rfl rfl rfl rfl sz_23 rfl (Nat.le_of_ble_eq_true rfl) (by kernel_rfl)) ?_
 refine znr ?_
 refine za rfl rfl ?_
 refine zn ?_
 refine zt ?_
 refine (k_inl (l := [(0, .d (.sl 4 (l.map Tp.c))), (1, .d (dI n)), (6, .fn 165 [] [.ptr 5 0 0]), (7, .d (dI k)), (8, .ptr 8 0 0), (19, .d (.sl 4 (l.map Tp.c))), (20, .d (dI l.length)), (21, .d (dI k)), (23, .d (dI k)), (24, .d (.pt (Tp.c x0))), (25, .d (.agg (Tp.c x0))), (26, .ptr 8 0 1), (27, .d (dI x0.count)), (30, .ptr 8 0 1), (31, .d (dI x0.count)), (32, .d (dI n)), (36, .ptr 8 0 0), (37, .d (dI x0.first)), (41, .ptr 8 0 0), (42, .d (dI x0.first)), (43, .d (dI n)), (44, .ptr 8 0 1), (45, .d (dI x0.count)), (46, .d (dI (n - x0.count))), (50, .ptr 8 0 2), (51, .d (dI x0.actual)), (52, .d (dB (decide (1 ≤ x0.actual ∧ x0.actual ≤ 32)))), (56, .ptr 8 0 3), (57, .d (dI x0.normal)), (58, .d (dB (decide (1 ≤ x0.normal ∧ x0.normal ≤ 32)))), (62, .ptr 8 0 2), (63, .d (dI x0.actual)), (64, .ptr 8 0 3), (65, .d (dI x0.normal)), (68, .d (dI k)), (79, .d (dB false)), (80, .fn 165 [] [.ptr 5 0 0]), (81, .d (.agg (Tp.c x0)))]) (by kernel_rfl) (rs1 rfl (RV.tmp rfl rfl)) ?_).2
 refine zp (p_not rfl rfl) ?_
 refine zn ?_
 refine xw_false (by kernel_rfl) rfl ?_
 refine zi ?_
 refine xw_region (by kernel_rfl) ?_
 refine zp (p_add rfl rfl rfl (by omega) (by omega)) ?_
 refine zm rfl rfl ?_
 refine zn ?_
 exact k_round (k + 1) (⟨by omega, by rw [prevT_succ, hx0, stk_succ hx0, ← tupGo_next hx0 hin hna hov]; exact hgo, by rw [stk_succ hx0, List.length_cons, ← hp, hend]; omega, fun t ht => by rw [stk_succ hx0] at ht; rcases List.mem_cons.1 ht with e | e; (· rw [e]; exact hin); (· exact hall t (popR_sub _ _ t e))⟩) (by omega) (fz ⟨sr, sr, sr, sr, sr, sr, trivial⟩) (gz ⟨rfl, top_push (by rw [stk_succ hx0, ← hp, hend]), trivial⟩)
 have hov : ¬ overR x0 (popR x0 (stk l k)) := by rw [← hp, hend]; exact over_nil q28i q31i
 refine xw_any [] (by kernel_rfl) (by kernel_rfl) (by kernel_rfl) (by decide) ?_
 refine ym rfl rfl ?_
 refine yp (p_no (p_eql rfl rfl rfl) (q28i)) ?_
 refine ym rfl rfl ?_
 refine ym rfl rfl ?_
 refine yp (p_no (p_gtr rfl rfl rfl) (q31i)) ?_
 refine ym rfl rfl ?_
 refine ChK.skip rfl ?_
 refine ChK.skip rfl ?_
 refine ChK.skip rfl ?_
 refine ChK.skip rfl ?_
 refine ChK.skip rfl ?_
 refine ChK.skip rfl ?_
 refine ChK.skip rfl ?_
 refine ChK.skip rfl ?_
 refine ChK.skip rfl ?_
 refine yp (p_pick_any rfl rfl (by conv => lhs; whnf)) ?_
 refine yp (p_pick_any rfl rfl (by conv => lhs; whnf)) ?_
 refine ChK.nil ⟨by kernel_rfl, ?_⟩
 refine xw_false (by kernel_rfl) rfl ?_
 refine zi ?_
 refine zr ?_
 refine zp (p_load_box rfl rfl sc_23 rfl rfl) ?_
 refine zp (pure_eq (s' := .d (.agg (Tp.c x0))) (norm_pure (p_load_boxs rfl rfl agg_102 rfl (Nat.le_of_ble_eq_true rfl))) (by kernel_rfl)) ?_
 refine XL.step rfl (st_slice 2046 rfl Tryz.underlying23 sz_102 zero_102 rfl rfl (by omega) (by omega)) ?_
 refine XL.step rfl (st_append rfl elt_23 (.own rfl) (Src.own rfl) (by unfold maxLen; simp; omega) (by simp; omega)) ?_
 refine XL.step rfl (st_storeN (l' := [.own 900]) rfl rfl rfl rfl sz_23 rfl (Nat.le_of_ble_eq_true rfl) (by kernel_rfl)) ?_
 refine znr ?_
 refine za rfl rfl ?_
 refine zn ?_
 refine zt ?_
 refine (k_inl (l := [(0, .d (.sl 4 (l.map Tp.c))), (1, .d (dI n)), (6, .fn 165 [] [.ptr 5 0 0]), (7, .d (dI k)), (8, .ptr 8 0 0), (19, .d (.sl 4 (l.map Tp.c))), (20, .d (dI l.length)), (21, .d (dI k)), (23, .d (dI k)), (24, .d (.pt (Tp.c x0))), (25, .d (.agg (Tp.c x0))), (26, .ptr 8 0 1), (27, .d (dI x0.count)), (30, .ptr 8 0 1), (31, .d (dI x0.count)), (32, .d (dI n)), (36, .ptr 8 0 0), (37, .d (dI x0.first)), (41, .ptr 8 0 0), (42, .d (dI x0.first)), (43, .d (dI n)), (44, .ptr 8 0 1), (45, .d (dI x0.count)), (46, .d (dI (n - x0.count))), (50, .ptr 8 0 2), (51, .d (dI x0.actual)), (52, .d (dB (decide (1 ≤ x0.actual ∧ x0.actual ≤ 32)))), (56, .ptr 8 0 3), (57, .d (dI x0.normal)), (58, .d (dB (decide (1 ≤ x0.normal ∧ x0.normal ≤ 32)))), (62, .ptr 8 0 2), (63, .d (dI x0.actual)), (64, .ptr 8 0 3), (65, .d (dI x0.normal)), (68, .d (dI k)), (79, .d (dB false)), (80, .fn 165 [] [.ptr 5 0 0]), (81, .d (.agg (Tp.c x0)))]) (by kernel_rfl) (rs1 rfl (RV.tmp rfl rfl)) ?_).2
 refine zp (p_not rfl rfl) ?_
 refine zn ?_
 refine xw_false (by kernel_rfl) rfl ?_
 refine zi ?_
 refine xw_region (by kernel_rfl) ?_
 refine zp (p_add rfl rfl rfl (by omega) (by omega)) ?_
 refine zm rfl rfl ?_
 refine zn ?_
 exact k_round (k + 1) (⟨by omega, by rw [prevT_succ, hx0, stk_succ hx0, ← tupGo_next hx0 hin hna hov]; exact hgo, by rw [stk_succ hx0, List.length_cons, ← hp, hend]; omega, fun t ht => by rw [stk_succ hx0] at ht; rcases List.mem_cons.1 ht with e | e; (· rw [e]; exact hin); (· exact hall t (popR_sub _ _ t e))⟩) (by omega) (fz ⟨sr, sr, sr, sr, sr, sr, trivial⟩) (gz ⟨rfl, top_push (by rw [stk_succ hx0, ← hp, hend]), trivial⟩)
 have hk0b : k = l.length := by omega
 have hz : tupGo n none [] l = 0 := by rw [← hgo, hk0b, List.drop_length]; rfl
 refine xw_exit ?_
 refine zr ?_
 refine za rfl rfl ?_
 refine zn ?_
 refine zt ?_
 exact z1 rfl rfl (rI (tup_3 g11 c14 c17 hz.symm))
end Go.Proofs.YtcihalbakenleaaGreat
namespace Go.Proofs.YtcihalbakenleaaGreat
open Go.RowKit
theorem hits_cons (t : Tp) (l : List Tp) (n : Int) : hits (t :: l) n = hits l n + (if t.has n then 1 else 0) := by
 unfold hits
 rw [List.filter_cons]
 by_cases h : t.has n <;> simp [h]
theorem hits_len (l : List Tp) (n : Int) : hits l n ≤ l.length := List.length_filter_le _ _
theorem hits_pop (t : Tp) (s : List Tp) (n : Int) (hn : t.first ≤ n) : hits (popR t s) n = hits s n := by
 induction s with
 | nil => rfl
 | cons o r ih =>
  unfold popR
  split
  ·rename_i h
   rw [ih, hits_cons, if_neg (fun k => by unfold Tp.has at k; unfold Tp.e at h; omega)]
   rfl
  ·rfl
theorem ordS_first {q t : Tp} (h : ¬ 0 < ordS q t) : q.first ≤ t.first := by
 unfold ordS at h
 split at h
 ·split at h <;> omega
 ·omega
theorem tupGo_hits (n : Int) (l : List Tp) : ∀ (p : Option Tp) (s L : List Tp), tupGo n p s l = 0 → s.length ≤ 3 → (∀ e, hits L e ≤ 3) → (∀ e, (∀ q, p = some q → q.first ≤ e) → hits L e = hits s e) → ∀ e, hits (L ++ l) e ≤ 3 := by
 induction l with
 | nil => intro p s L _ _ h1 _ e; rw [List.append_nil]; exact h1 e
 | cons t l ih =>
  intro p s L hz hs h1 h2 e
  rw [tupGo] at hz
  split at hz
  ·omega
  ·split at hz
   ·omega
   ·rename_i hin hna
    split at hz
    ·omega
    ·rename_i hov
     have hp : ∀ q, p = some q → q.first ≤ t.first := fun q hq => by subst hq; exact ordS_first hna
     have h3 : (t :: popR t s).length ≤ 3 := by
      have h4 := popR_len t s
      have h5 : ¬ (popR t s).length = 3 := fun k => hov (.inl k)
      rw [List.length_cons]
      omega
     have heq : ∀ e, t.first ≤ e → hits (L ++ [t]) e = hits (t :: popR t s) e := fun e he => by
      rw [hits_snoc, hits_cons, hits_pop t s e he, h2 e (fun q hq => Int.le_trans (hp q hq) he)]
     have := ih (some t) (t :: popR t s) (L ++ [t]) hz h3 (fun e => ?_) (fun e he => heq e (he t rfl)) e
     ·rw [List.append_assoc] at this; exact this
     ·by_cases he : t.first ≤ e
      ·rw [heq e he]; exact Nat.le_trans (hits_len _ _) h3
      ·rw [hits_snoc, if_neg (fun k => he k.1)]; exact h1 e
theorem tupGo_in (n : Int) (l : List Tp) : ∀ (p : Option Tp) (s : List Tp), tupGo n p s l = 0 → ∀ t ∈ l, t.inR n := by
 induction l with
 | nil => intro p s _ t ht; cases ht
 | cons t l ih =>
  intro p s hz x hx
  rw [tupGo] at hz
  split at hz
  ·omega
  ·rename_i hin
   split at hz
   ·omega
   ·split at hz
    ·omega
    ·rcases List.mem_cons.1 hx with e | e
     ·rw [e]; exact Decidable.not_not.1 hin
     ·exact ih _ _ hz x e
/-- tuplets that pass the check -/
structure Tups (l : List Tp) (n : Int) : Prop where
 bd : 0 ≤ n ∧ n ≤ 128
 len : l.length ≤ 16
 inR : ∀ t ∈ l, t.inR n
 ok : ∀ t ∈ l, t.ok
 hits : ∀ e, hits l e ≤ 3
theorem tups_of {l : List Tp} {n : Int} (h : ¬ tupErr l n ≠ 0) : Tups l n := by
 have h0 : tupErr l n = 0 := by omega
 unfold tupErr at h0
 split at h0
 ·omega
 ·split at h0
  ·omega
  ·have hi := tupGo_in n l _ _ h0
   refine ⟨by omega, by omega, hi, fun t ht => (hi t ht).ok (by omega), fun e => ?_⟩
   have := tupGo_hits n l none [] [] h0 (by decide) (fun e => Nat.zero_le _) (fun e _ => rfl) e
   rwa [List.nil_append] at this
/-- lengths under tuplets, the first error -/
def lensGo (l : List Tp) : Nat → List Int → List Int
 | _, [] => []
 | i, w :: r => scaleN l i w :: lensGo l (i + 1) r
def scGo (l : List Tp) : Nat → List Int → Int
 | _, [] => 0
 | i, w :: r => if scaleE l i w ≠ 0 then scaleE l i w else scGo l (i + 1) r
def tlenE (l : List Tp) (ws : List Int) : Int := if tupErr l ws.length ≠ 0 then tupErr l ws.length else scGo l 0 ws
def tlens (l : List Tp) (ws : List Int) : List Int := if tlenE l ws = 0 then lensGo l 0 ws else []
theorem lensGo_app (l : List Tp) (a : List Int) (w : Int) : ∀ i, lensGo l i (a ++ [w]) = lensGo l i a ++ [scaleN l ((i + a.length : Nat) : Int) w] := by
 induction a with
 | nil => intro i; rfl
 | cons x a ih =>
  intro i
  rw [List.cons_append, lensGo, ih (i + 1), lensGo, List.cons_append, List.length_cons, show i + 1 + a.length = i + (a.length + 1) by omega]
theorem lensGo_take {l : List Tp} {ws : List Int} {k : Nat} {w : Int} (h : ws[k]? = some w) : lensGo l 0 (ws.take (k + 1)) = lensGo l 0 (ws.take k) ++ [scaleN l (k : Int) w] := by
 have hk := (List.getElem?_eq_some_iff.1 h).1
 rw [take_snoc h, lensGo_app, List.length_take, Nat.zero_add, Nat.min_eq_left (by omega)]
theorem lensGo_len (l : List Tp) (ws : List Int) : ∀ i, (lensGo l i ws).length = ws.length := by
 induction ws with
 | nil => intro i; rfl
 | cons w r ih => intro i; rw [lensGo, List.length_cons, ih, List.length_cons]
theorem scGo_next {l : List Tp} {ws : List Int} {k : Nat} {w : Int} (h : ws[k]? = some w) (hx : ¬ scaleE l k w ≠ 0) : scGo l k (ws.drop k) = scGo l (k + 1) (ws.drop (k + 1)) := by rw [drop_cons h, scGo, if_neg hx]
theorem scGo_hit {l : List Tp} {ws : List Int} {k : Nat} {w : Int} (h : ws[k]? = some w) (hx : scaleE l k w ≠ 0) : scGo l k (ws.drop k) = scaleE l k w := by rw [drop_cons h, scGo, if_pos hx]
theorem tlen_1 {l : List Tp} {ws : List Int} (h : tupErr l ws.length ≠ 0) : [] = tlens l ws ∧ tupErr l ws.length = tlenE l ws := by
 have e : tlenE l ws = tupErr l ws.length := by rw [tlenE, if_pos h]
 exact ⟨by rw [tlens, e, if_neg h], e.symm⟩
theorem tlen_2 {l : List Tp} {ws : List Int} (h : ¬ tupErr l ws.length ≠ 0) {e : Int} (he : e = scGo l 0 ws) (hn : e ≠ 0) : [] = tlens l ws ∧ e = tlenE l ws := by
 have e2 : tlenE l ws = e := by rw [tlenE, if_neg h, he]
 exact ⟨by rw [tlens, e2, if_neg hn], e2.symm⟩
theorem tlen_3 {l : List Tp} {ws : List Int} (h : ¬ tupErr l ws.length ≠ 0) (he : scGo l 0 ws = 0) : lensGo l 0 ws = tlens l ws ∧ 0 = tlenE l ws := by
 have e2 : tlenE l ws = 0 := by rw [tlenE, if_neg h, he]
 exact ⟨by rw [tlens, e2, if_pos rfl], e2.symm⟩
theorem tlengths_xc (l : List Tp) (ws : List Int) : XC Tryz.prog 133 [.sl 4 (l.map Tp.c), .sl 1 (ints ws)] (fun r => r = .tup [.sl 1 (ints (tlens l ws)), dI (tlenE l ws)]) := by
 refine xc_body callable_133 Tryz.func133 rfl rfl (Nat.le_of_ble_eq_true rfl) ?_
 refine zr ?_
 refine za rfl rfl ?_
 refine za rfl rfl ?_
 refine zn ?_
 refine zs ?_
 refine zr ?_
 refine zm rfl rfl ?_
 refine zm rfl rfl ?_
 refine XL.len rfl rfl rfl Tryz.underlying64 (fun hl14 => ?_)
 refine XL.call1 rfl rfl (tcheck_xc _ _) rfl ?_
 refine za rfl rfl ?_
 refine znr ?_
 refine zm rfl rfl ?_
 refine zp (p_neq rfl rfl rfl) ?_
 refine zn ?_
 refine zd rfl (fun c17 => ?_) (fun c17 => ?_)
 refine zr ?_
 refine zm rfl rfl ?_
 refine za rfl rfl ?_
 refine za rfl rfl ?_
 refine zn ?_
 refine zt ?_
 exact ret2 rfl (RV.nil (sz := 1) rfl rfl) (RV.tmp rfl rfl) (r2 (rSl (tlen_1 c17).1) (rI (tlen_1 c17).2))
 refine zi ?_
 refine zs ?_
 have hT := tups_of c17
 have hbd := hT.bd
 refine xw_region (by kernel_rfl) ?_
 refine zm rfl rfl ?_
 refine XL.len rfl rfl rfl Tryz.underlying64 (fun hl20 => ?_)
 refine XL.step rfl (st_make 21 (m := 0) (z := (.int .i64 0)) (zs := [dI 0]) (sz := 1) (bytes := 8) rfl rfl rfl Tryz.underlying64 (by kernel_rfl) (by kernel_rfl) (by kernel_rfl) (by decide) (by decide) (by omega) (by unfold maxLen; omega) (by omega)) ?_
 refine zp (p_assign rfl (by conv => lhs; whnf)) ?_
 refine zn ?_
 refine zs ?_
 refine zr ?_
 refine zm rfl rfl ?_
 refine XL.len rfl rfl rfl Tryz.underlying64 (fun hl23 => ?_)
 refine zm rfl rfl ?_
 refine zn ?_
 refine xw_block ?_
 refine xw_loop (α := Nat) (fun k => k ≤ ws.length ∧ scGo l k (ws.drop k) = scGo l 0 ws) (fun k => mkF [(0, .d (.sl 4 (l.map Tp.c))), (7, .own 21), (22, .d (.sl 1 (ints ws))), (23, .d (dI ws.length)), (24, .d (dI k))]) (fun k => mkH [(21, .row 3 1 ((lensGo l 0 (ws.take k)).map iv))]) (fun k => ws.length - k) (0) (⟨Nat.zero_le _, by rw [List.drop_zero]⟩) ?_ ?_ ?_
 exact fz ⟨sr, sr, sr, sr, sr, trivial⟩
 exact gz ⟨rfl, trivial⟩
 intro k hk0
 obtain ⟨hk, hgo⟩ := hk0
 refine zr ?_
 refine zp (p_lss rfl rfl rfl) ?_
 refine zn ?_
 refine zs ?_
 refine zd rfl (fun c25 => ?_) (fun c25 => ?_)
 have hk0a : k < ws.length := by omega
 obtain ⟨x0, hx0⟩ := get_ex hk0a
 have hok := hT.ok
 have hh := hT.hits k
 have hll : (lensGo l 0 (ws.take k)).length = k := by rw [lensGo_len, List.length_take]; omega
 refine zi ?_
 refine zs ?_
 refine xw_block ?_
 refine zr ?_
 refine zm rfl rfl ?_
 refine zp (p_idx_map rfl rfl rfl el_64 hx0) ?_
 refine zp (p_load_pt rfl rfl sc_3) ?_
 refine za rfl rfl ?_
 refine za rfl rfl ?_
 refine znr ?_
 refine zm rfl rfl ?_
 refine zm rfl rfl ?_
 refine zm rfl rfl ?_
 refine XL.call1 rfl rfl (scale_xc _ _ _ (by assumption) (by assumption) (by omega) (by omega)) rfl ?_
 refine zm rfl rfl ?_
 refine zp (p_ext rfl rfl rfl) ?_
 refine zp (p_ext rfl rfl rfl) ?_
 refine za rfl rfl ?_
 refine za rfl rfl ?_
 refine zn ?_
 refine zs ?_
 refine zr ?_
 refine zm rfl rfl ?_
 refine zp (p_neq rfl rfl rfl) ?_
 refine zn ?_
 refine zd rfl (fun c37 => ?_) (fun c37 => ?_)
 refine zr ?_
 refine zm rfl rfl ?_
 refine za rfl rfl ?_
 refine za rfl rfl ?_
 refine zn ?_
 refine zt ?_
 exact ret2 rfl (RV.nil (sz := 1) rfl rfl) (RV.tmp rfl rfl) (r2 (rSl (tlen_2 c17 (by rw [← hgo, scGo_hit hx0 c37]) c37).1) (rI (tlen_2 c17 (by rw [← hgo, scGo_hit hx0 c37]) c37).2))
 refine zi ?_
 refine xw_region (by kernel_rfl) ?_
 refine zp (p_move rfl (by conv => lhs; whnf)) ?_
 refine zm rfl rfl ?_
 refine XL.step rfl (st_slice 41 rfl Tryz.underlying64 sz_3 zero_3 rfl rfl (by omega) (by omega)) ?_
 refine XL.step rfl (st_append rfl elt_64 (.own rfl) (Src.own rfl) (by unfold maxLen; simp; omega) (by simp; omega)) ?_
 refine zp (p_assign rfl (by conv => lhs; whnf)) ?_
 refine zn ?_
 refine xw_region (by kernel_rfl) ?_
 refine zp (p_add rfl rfl rfl (by omega) (by omega)) ?_
 refine zm rfl rfl ?_
 refine zn ?_
 exact k_round (k + 1) (⟨by omega, by rw [← scGo_next hx0 c37]; exact hgo⟩) (by omega) (fz ⟨sr, sr, sr, sr, sr, trivial⟩) (gz ⟨sApp rfl (lensGo_take hx0), trivial⟩)
 have hk0b : k = ws.length := by omega
 have hz : scGo l 0 ws = 0 := by rw [← hgo, hk0b, List.drop_length]; rfl
 have ht : ws.take k = ws := by rw [hk0b, List.take_length]
 refine xw_exit ?_
 refine zr ?_
 refine zp (p_move rfl (by conv => lhs; whnf)) ?_
 refine zp (p_assign rfl (by conv => lhs; whnf)) ?_
 refine za rfl rfl ?_
 refine zn ?_
 refine zt ?_
 refine ret_freeze (i := 21) rfl ?_
 exact ret2 rfl (RV.tmp rfl rfl) (RV.tmp rfl rfl) (r2 (rSl (by rw [ht]; exact (tlen_3 c17 hz).1)) (rI (tlen_3 c17 hz).2))
/-- the unit of a tuplet -/
abbrev tailT (l : List Tp) (i : Nat) : List Tp := (l.take l.length).drop (i + 1)
def unitS (l : List Tp) : Nat → List Int → Int → Option Int
 | _, [], acc => some acc
 | i, w :: r, acc => if scaleE l i w ≠ 0 then none else unitS l (i + 1) r (acc + scaleN l i w)
def segT (t : Tp) (ws : List Int) : List Int := (ws.drop t.first.toNat).take t.count.toNat
def logF (a s : Int) : Option Int := ((List.range 10).find? fun j => decide (s = a * (3870720 / 2 ^ j))).map fun j => (j : Int) - 1
def unitT (l : List Tp) (t : Tp) (ws : List Int) : Option Int := (unitS l t.first.toNat (segT t ws) 0).bind (logF t.actual)
def unitV (l : List Tp) (i : Nat) (ws : List Int) : Option Int := (l[i]?).bind fun t => unitT (tailT l i) t ws
theorem unitV_at {l : List Tp} {i : Nat} {t : Tp} (h : l[i]? = some t) (ws : List Int) : unitV l i ws = unitT (tailT l i) t ws := by rw [unitV, h]; rfl
theorem seg_get {t : Tp} {ws : List Int} {j : Nat} (hj : j < t.count.toNat) : (segT t ws)[j]? = ws[t.first.toNat + j]? := by
 rw [segT, List.getElem?_take, if_pos hj, List.getElem?_drop]
theorem unitS_next {l : List Tp} {i k : Nat} {seg : List Int} {w acc : Int} (h : seg[k]? = some w) (hx : ¬ scaleE l i w ≠ 0) : unitS l i (seg.drop k) acc = unitS l (i + 1) (seg.drop (k + 1)) (acc + scaleN l i w) := by rw [drop_cons h, unitS, if_neg hx]
theorem unitS_none {l : List Tp} {i k : Nat} {seg : List Int} {w acc : Int} (h : seg[k]? = some w) (hx : scaleE l i w ≠ 0) : unitS l i (seg.drop k) acc = none := by rw [drop_cons h, unitS, if_pos hx]
theorem unitS_end {l : List Tp} {i k : Nat} {seg : List Int} {acc : Int} (h : seg.length ≤ k) : unitS l i (seg.drop k) acc = some acc := by rw [List.drop_eq_nil_of_le h, unitS]
theorem find_lt {p : Nat → Bool} {m k : Nat} (hk : k < m) (hp : p k = true) (h : ∀ j, j < k → p j = false) : (List.range m).find? p = some k := by
 rw [List.find?_range_eq_some]
 exact ⟨hp, List.mem_range.2 hk, fun j hj => by simp [h j hj]⟩
theorem logF_at {a s : Int} {k : Nat} (hk : k < 10) (hp : s = a * (3870720 / 2 ^ k)) (h : ∀ j, j < k → ¬ s = a * (3870720 / 2 ^ j)) : logF a s = some ((k : Int) - 1) := by
 rw [logF, find_lt hk (decide_eq_true hp) (fun j hj => decide_eq_false (h j hj))]; rfl
theorem logF_none {a s : Int} (h : ∀ j, j < 10 → ¬ s = a * (3870720 / 2 ^ j)) : logF a s = none := by
 rw [logF, List.find?_eq_none.2 (fun j hj => by simp [h j (List.mem_range.1 hj)])]; rfl
theorem unitT_some {l : List Tp} {t : Tp} {ws : List Int} {s : Int} (h : unitS l t.first.toNat (segT t ws) 0 = some s) : unitT l t ws = logF t.actual s := by rw [unitT, h]; rfl
theorem unitT_none {l : List Tp} {t : Tp} {ws : List Int} (h : unitS l t.first.toNat (segT t ws) 0 = none) : unitT l t ws = none := by rw [unitT, h]; rfl
theorem opt_none {o : Option Int} (h : o = none) : D.tup [dI 0, dB false] = .tup [dI (o.getD 0), dB o.isSome] := by rw [h]; rfl
theorem opt_some {o : Option Int} {x : Int} (h : o = some x) : D.tup [dI x, dB true] = .tup [dI (o.getD 0), dB o.isSome] := by rw [h]; rfl
theorem shr_bd (k : Nat) : 0 ≤ (3870720 : Int) / 2 ^ k ∧ (3870720 : Int) / 2 ^ k ≤ 3870720 := by
 have h : (0 : Int) < 2 ^ k := Int.pow_pos (by omega)
 exact ⟨Int.ediv_nonneg (by omega) (by omega), Int.ediv_le_self _ (by omega)⟩
theorem unit_xc (l : List Tp) (i : Nat) (t : Tp) (ws : List Int) (ht : l[i]? = some t) (hT : Tups l ws.length) : XC Tryz.prog 164 [.sl 4 (l.map Tp.c), .v (.int .i64 i), .sl 1 (ints ws)] (fun r => r = .tup [dI ((unitT (tailT l i) t ws).getD 0), dB (unitT (tailT l i) t ws).isSome]) := by
 have hin := hT.inR t (List.mem_of_getElem? ht)
 have hok := hT.ok t (List.mem_of_getElem? ht)
 have hbd := hT.bd
 have hlen := hT.len
 have hil := (List.getElem?_eq_some_iff.1 ht).1
 have hin2 := hin
 simp only [Tp.inR] at hin2
 have hte : t.e = t.first + t.count := rfl
 obtain ⟨f, hf⟩ : ∃ f : Nat, t.first = f := ⟨t.first.toNat, by omega⟩
 have hf2 : t.first.toNat = f := by omega
 have hsl : (segT t ws).length = t.count.toNat := by rw [segT, List.length_take, List.length_drop]; omega
 have hoks : ∀ x ∈ (l.take l.length).drop (i + 1), x.ok := ok_drop (ok_take hT.ok _) _
 have hhs : ∀ e, hits ((l.take l.length).drop (i + 1)) e ≤ 3 := fun e => Nat.le_trans (hits_drop _ _ e) (Nat.le_trans (hits_take _ _ e) (hT.hits e))
 refine xc_body callable_164 Tryz.func164 rfl rfl (Nat.le_of_ble_eq_true rfl) ?_
 refine zr ?_
 refine za rfl rfl ?_
 refine za rfl rfl ?_
 refine znr ?_
 refine zm rfl rfl ?_
 refine zm rfl rfl ?_
 refine zp (p_idx_map rfl rfl rfl el_23 (ht)) ?_
 refine zp (pure_eq (s' := .d (.agg (Tp.c t))) (p_load_pts rfl rfl agg_102 (Nat.le_of_ble_eq_true rfl)) (by kernel_rfl)) ?_
 refine XL.step rfl (st_allocN 8 (l := [.d (dI 0), .d (dI 0), .d (dI 0), .d (dI 0)]) rfl zero_102 (by kernel_rfl)) ?_
 refine XL.step rfl (st_storeN (l' := [.d (dI t.first), .d (dI t.count), .d (dI t.actual), .d (dI t.normal)]) rfl rfl rfl rfl sz_102 rfl (Nat.le_of_ble_eq_true rfl) (by kernel_rfl)) ?_
 refine znr ?_
 refine za rfl rfl ?_
 refine zn ?_
 refine zs ?_
 refine zr ?_
 refine zp (p_fld_ptr rfl rfl fld_102_0) ?_
 refine zp (p_load_box rfl rfl sc_3 rfl rfl) ?_
 refine za rfl rfl ?_
 refine zn ?_
 refine xw_block ?_
 refine xw_loop (α := Nat × Int) (fun p => p.1 ≤ t.count.toNat ∧ unitS ((l.take l.length).drop (i + 1)) (f + p.1) ((segT t ws).drop p.1) p.2 = unitS ((l.take l.length).drop (i + 1)) f (segT t ws) 0 ∧ 0 ≤ p.2 ∧ p.2 ≤ (p.1 : Int) * 253671505920) (fun p => mkF [(0, .d (.sl 4 (l.map Tp.c))), (1, .d (dI i)), (2, .d (.sl 1 (ints ws))), (8, .ptr 8 0 0), (9, .d (dI p.2)), (10, .d (dI ((f + p.1 : Nat) : Int)))]) (fun p => mkH [(8, .box ((Tp.c t).map S.d))]) (fun p => t.count.toNat - p.1) ((0, 0)) (⟨Nat.zero_le _, by rw [List.drop_zero]; rfl, Int.le_refl _, by simp⟩) ?_ ?_ ?_
 exact fz ⟨sr, sr, sr, sr, sr, .same (sI (by rw [hf]; rfl)), trivial⟩
 exact gz ⟨rfl, trivial⟩
 intro p hk0
 obtain ⟨hk, hgo, hs0, hs1⟩ := hk0
 refine zs ?_
 refine zr ?_
 refine zm rfl rfl ?_
 refine zp (pure_eq (s' := .d (.agg (Tp.c t))) (norm_pure (p_load_boxs rfl rfl agg_102 rfl (Nat.le_of_ble_eq_true rfl))) (by kernel_rfl)) ?_
 refine XL.call1 rfl rfl (tend_xc _ (by assumption)) rfl ?_
 refine zp (p_lss rfl rfl rfl) ?_
 refine zn ?_
 refine zd rfl (fun c23 => ?_) (fun c23 => ?_)
 have hkc : p.1 < t.count.toNat := by omega
 obtain ⟨w, hw⟩ : ∃ w, ws[f + p.1]? = some w := get_ex (by omega)
 have hsw : (segT t ws)[p.1]? = some w := by rw [seg_get hkc, hf2]; exact hw
 have hh := hhs ((f + p.1 : Nat) : Int)
 have hsb := scale_bd (n := ((f + p.1 : Nat) : Int)) (w := w) hoks hh
 refine zi ?_
 refine zs ?_
 refine xw_block ?_
 refine zs ?_
 refine xw_any [] (by kernel_rfl) (by kernel_rfl) (by kernel_rfl) (by decide) ?_
 refine ym rfl rfl ?_
 refine ym rfl rfl ?_
 refine yp (p_add rfl rfl rfl (by omega) (by omega)) ?_
 refine yp (p_slice_map rfl rfl el_23 (Bd.ati (a := i + 1) rfl (by omega)) Bd.no (by omega) (by omega)) ?_
 refine ym rfl rfl ?_
 refine ym rfl rfl ?_
 refine ym rfl rfl ?_
 refine yp (p_idx_map rfl rfl rfl el_64 (hw)) ?_
 refine yp (p_load_pt rfl rfl sc_3) ?_
 refine ChK.cons rfl (CStep.call rfl (scale_xc _ _ _ (by assumption) (by assumption) (by omega) (by omega)) rfl) ?_
 refine ym rfl rfl ?_
 refine yp (p_ext rfl rfl rfl) ?_
 refine yp (p_ext rfl rfl rfl) ?_
 refine ya rfl rfl ?_
 refine ya rfl rfl ?_
 refine ChK.nil ⟨by kernel_rfl, ?_⟩
 refine zs ?_
 refine zr ?_
 refine zm rfl rfl ?_
 refine zp (p_neq rfl rfl rfl) ?_
 refine zn ?_
 refine zd rfl (fun c40 => ?_) (fun c40 => ?_)
 refine zr ?_
 refine za rfl rfl ?_
 refine za rfl rfl ?_
 refine zn ?_
 refine zt ?_
 exact ret2 rfl (RV.tmp rfl rfl) (RV.tmp rfl rfl) (opt_none (unitT_none (by rw [hf2, ← hgo]; exact unitS_none hsw c40)))
 refine zi ?_
 refine xw_region (by kernel_rfl) ?_
 refine zm rfl rfl ?_
 refine zm rfl rfl ?_
 refine zp (p_add rfl rfl rfl (by omega) (by omega)) ?_
 refine za rfl rfl ?_
 refine zn ?_
 refine xw_region (by kernel_rfl) ?_
 refine zm rfl rfl ?_
 refine zp (p_add rfl rfl rfl (by omega) (by omega)) ?_
 refine za rfl rfl ?_
 refine zn ?_
 exact k_round ((p.1 + 1, p.2 + scaleN ((l.take l.length).drop (i + 1)) ((f + p.1 : Nat) : Int) w)) (⟨by simp only; omega, (unitS_next hsw c40).symm.trans hgo, by simp only; omega, by simp only; omega⟩) (by simp only; omega) (fz ⟨sr, sr, sr, sr, sr, sr, trivial⟩) (gz ⟨rfl, trivial⟩)
 have hu : unitS ((l.take l.length).drop (i + 1)) t.first.toNat (segT t ws) 0 = some p.2 := by rw [hf2, ← hgo]; exact unitS_end (by omega)
 refine xw_exit ?_
 refine zs ?_
 refine zr ?_
 refine za rfl rfl ?_
 refine zn ?_
 refine xw_block ?_
 refine xw_loop (α := Nat) (fun k => k ≤ 10 ∧ ∀ j, j < k → ¬ p.2 = t.actual * (3870720 / 2 ^ j)) (fun k => mkF [(8, .ptr 8 0 0), (9, .d (dI p.2)), (13, .d (dI ((k : Int) - 1)))]) (fun k => mkH [(8, .box ((Tp.c t).map S.d))]) (fun k => 10 - k) (0) (⟨Nat.zero_le _, fun j hj => absurd hj (Nat.not_lt_zero _)⟩) ?_ ?_ ?_
 exact fz ⟨sr, sr, sr, trivial⟩
 exact gz ⟨rfl, trivial⟩
 intro k hk2
 obtain ⟨hk, hno⟩ := hk2
 have hkk : ((k : Int) - 1 + 1).toNat = k := by omega
 have hsh := shr_bd k
 refine zs ?_
 refine zr ?_
 refine zm rfl rfl ?_
 refine zp (p_leq rfl rfl rfl) ?_
 refine zn ?_
 refine zd rfl (fun c45 => ?_) (fun c45 => ?_)
 have hml1 : 0 ≤ t.actual * (3870720 / 2 ^ k) := Int.mul_nonneg (by omega) hsh.1
 have hml2 : t.actual * (3870720 / 2 ^ k) ≤ 32 * 3870720 := Int.mul_le_mul (by omega) hsh.2 hsh.1 (by omega)
 refine zi ?_
 refine zs ?_
 refine xw_block ?_
 refine zs ?_
 refine xw_any [] (by kernel_rfl) (by kernel_rfl) (by kernel_rfl) (by decide) ?_
 refine ym rfl rfl ?_
 refine yp (p_fld_ptr rfl rfl fld_102_2) ?_
 refine yp (p_load_box rfl rfl sc_3 rfl rfl) ?_
 refine ym rfl rfl ?_
 refine yp (p_add rfl rfl rfl (by omega) (by omega)) ?_
 refine yp (p_shr rfl rfl rfl (by omega) (by omega)) ?_
 refine yp (p_mul rfl rfl rfl (by rw [hkk]; omega) (by rw [hkk]; omega)) ?_
 refine yp (p_eql rfl rfl rfl) ?_
 refine ChK.nil ⟨by kernel_rfl, ?_⟩
 refine zd rfl (fun c55 => ?_) (fun c55 => ?_)
 refine zr ?_
 refine zm rfl rfl ?_
 refine za rfl rfl ?_
 refine za rfl rfl ?_
 refine zn ?_
 refine zt ?_
 exact ret2 rfl (RV.tmp rfl rfl) (RV.tmp rfl rfl) (opt_some (by rw [unitT_some hu]; exact logF_at (by omega) (by rw [hkk] at c55; exact c55) hno))
 refine zi ?_
 refine xw_region (by kernel_rfl) ?_
 refine zm rfl rfl ?_
 refine zp (p_add rfl rfl rfl (by omega) (by omega)) ?_
 refine za rfl rfl ?_
 refine zn ?_
 exact k_round (k + 1) (⟨by omega, fun j hj => by by_cases e : j = k; (· subst e; rw [hkk] at c55; exact c55); (· exact hno j (by omega))⟩) (by omega) (fz ⟨sr, sr, .same (sI (by omega)), trivial⟩) (gz ⟨rfl, trivial⟩)
 have hke : k = 10 := by omega
 have hnone : logF t.actual p.2 = none := logF_none (fun j hj => hno j (by omega))
 refine xw_exit ?_
 refine zr ?_
 refine za rfl rfl ?_
 refine za rfl rfl ?_
 refine zn ?_
 refine zt ?_
 exact ret2 rfl (RV.tmp rfl rfl) (RV.tmp rfl rfl) (opt_none (by rw [unitT_some hu]; exact hnone))
theorem tlen_tups {l : List Tp} {ws : List Int} (h : ¬ tlenE l ws ≠ 0) : Tups l ws.length := by
 unfold tlenE at h
 split at h
 ·rename_i h2; exact absurd h2 h
 ·rename_i h2; exact tups_of h2
def unitAll (l : List Tp) (ws : List Int) : Prop := ∀ j, j < l.length → (unitV l j ws).isSome = true
instance (l : List Tp) (ws : List Int) : Decidable (unitAll l ws) := by unfold unitAll; exact inferInstance
def tunitE (l : List Tp) (ws : List Int) : Int := if tlenE l ws ≠ 0 then tlenE l ws else if unitAll l ws then 0 else 21
def unitK (l : List Tp) (ws : List Int) (k : Nat) : List Int := (List.range k).map fun j => (unitV l j ws).getD 0
def tunits (l : List Tp) (ws : List Int) : List Int := if tunitE l ws = 0 then unitK l ws l.length else []
theorem unitK_succ {l : List Tp} {ws : List Int} {k : Nat} {t : Tp} (h : l[k]? = some t) : unitK l ws (k + 1) = unitK l ws k ++ [(unitT (tailT l k) t ws).getD 0] := by
 rw [unitK, List.range_succ, List.map_append, List.map_singleton, unitV_at h]; rfl
theorem unitK_len (l : List Tp) (ws : List Int) (k : Nat) : (unitK l ws k).length = k := by rw [unitK, List.length_map, List.length_range]
theorem tu_1 {l : List Tp} {ws : List Int} (h : tlenE l ws ≠ 0) : [] = tunits l ws ∧ tlenE l ws = tunitE l ws := by
 have e : tunitE l ws = tlenE l ws := by rw [tunitE, if_pos h]
 exact ⟨by rw [tunits, e, if_neg h], e.symm⟩
theorem tu_2 {l : List Tp} {ws : List Int} (h : ¬ tlenE l ws ≠ 0) {k : Nat} {t : Tp} (ht : l[k]? = some t) (hn : (!(unitT (tailT l k) t ws).isSome) = true) : [] = tunits l ws ∧ 21 = tunitE l ws := by
 have e : tunitE l ws = 21 := by
  rw [tunitE, if_neg h, if_neg fun ha => ?_]
  have := ha k (List.getElem?_eq_some_iff.1 ht).1
  rw [unitV_at ht] at this
  rw [this] at hn
  cases hn
 exact ⟨by rw [tunits, e, if_neg (by decide)], e.symm⟩
theorem tu_3 {l : List Tp} {ws : List Int} (h : ¬ tlenE l ws ≠ 0) (ha : unitAll l ws) : unitK l ws l.length = tunits l ws ∧ 0 = tunitE l ws := by
 have e : tunitE l ws = 0 := by rw [tunitE, if_neg h, if_pos ha]
 exact ⟨by rw [tunits, e, if_pos rfl], e.symm⟩
theorem units_xc (l : List Tp) (ws : List Int) : XC Tryz.prog 134 [.sl 4 (l.map Tp.c), .sl 1 (ints ws)] (fun r => r = .tup [.sl 1 (ints (tunits l ws)), dI (tunitE l ws)]) := by
 refine xc_body callable_134 Tryz.func134 rfl rfl (Nat.le_of_ble_eq_true rfl) ?_
 refine zr ?_
 refine za rfl rfl ?_
 refine za rfl rfl ?_
 refine zn ?_
 refine zs ?_
 refine zr ?_
 refine zm rfl rfl ?_
 refine zm rfl rfl ?_
 refine XL.call1 rfl rfl (tlengths_xc _ _) rfl ?_
 refine zm rfl rfl ?_
 refine zp (p_ext rfl rfl rfl) ?_
 refine zp (p_ext rfl rfl rfl) ?_
 refine za rfl rfl ?_
 refine za rfl rfl ?_
 refine znr ?_
 refine zm rfl rfl ?_
 refine zp (p_neq rfl rfl rfl) ?_
 refine zn ?_
 refine zd rfl (fun c19 => ?_) (fun c19 => ?_)
 refine zr ?_
 refine zm rfl rfl ?_
 refine za rfl rfl ?_
 refine za rfl rfl ?_
 refine zn ?_
 refine zt ?_
 exact ret2 rfl (RV.nil (sz := 1) rfl rfl) (RV.tmp rfl rfl) (r2 (rSl (tu_1 c19).1) (rI (tu_1 c19).2))
 refine zi ?_
 refine zs ?_
 have hT := tlen_tups c19
 have hbd := hT.bd
 have hlen := hT.len
 refine xw_region (by kernel_rfl) ?_
 refine zm rfl rfl ?_
 refine XL.len rfl rfl rfl Tryz.underlying23 (fun hl22 => ?_)
 refine XL.step rfl (st_make 23 (m := 0) (z := (.int .i64 0)) (zs := [dI 0]) (sz := 1) (bytes := 8) rfl rfl rfl Tryz.underlying64 (by kernel_rfl) (by kernel_rfl) (by kernel_rfl) (by decide) (by decide) (by omega) (by unfold maxLen; omega) (by omega)) ?_
 refine zp (p_assign rfl (by conv => lhs; whnf)) ?_
 refine zn ?_
 refine zs ?_
 refine zr ?_
 refine zm rfl rfl ?_
 refine XL.len rfl rfl rfl Tryz.underlying23 (fun hl25 => ?_)
 refine zm rfl rfl ?_
 refine zn ?_
 refine xw_block ?_
 refine xw_loop (α := Nat) (fun k => k ≤ l.length ∧ ∀ j, j < k → (unitV l j ws).isSome = true) (fun k => mkF [(0, .d (.sl 4 (l.map Tp.c))), (1, .d (.sl 1 (ints ws))), (8, .own 23), (25, .d (dI l.length)), (26, .d (dI k))]) (fun k => mkH [(23, .row 3 1 ((unitK l ws k).map iv))]) (fun k => l.length - k) (0) (⟨Nat.zero_le _, fun j hj => absurd hj (Nat.not_lt_zero _)⟩) ?_ ?_ ?_
 exact fz ⟨sr, sr, sr, sr, sr, trivial⟩
 exact gz ⟨rfl, trivial⟩
 intro k hk0
 obtain ⟨hk, hall⟩ := hk0
 refine zr ?_
 refine zp (p_lss rfl rfl rfl) ?_
 refine zn ?_
 refine zs ?_
 refine zd rfl (fun c27 => ?_) (fun c27 => ?_)
 have hk0a : k < l.length := by omega
 obtain ⟨x0, hx0⟩ := get_ex hk0a
 have hll := unitK_len l ws k
 refine zi ?_
 refine zs ?_
 refine xw_block ?_
 refine zr ?_
 refine zm rfl rfl ?_
 refine za rfl rfl ?_
 refine znr ?_
 refine zm rfl rfl ?_
 refine zm rfl rfl ?_
 refine zm rfl rfl ?_
 refine XL.call1 rfl rfl (unit_xc _ _ _ _ hx0 hT) rfl ?_
 refine zm rfl rfl ?_
 refine zp (p_ext rfl rfl rfl) ?_
 refine zp (p_ext rfl rfl rfl) ?_
 refine za rfl rfl ?_
 refine za rfl rfl ?_
 refine zn ?_
 refine zs ?_
 refine zr ?_
 refine zm rfl rfl ?_
 refine zp (p_not rfl rfl) ?_
 refine zn ?_
 refine xw_cond (by kernel_rfl) rfl (fun c37 => ?_) (fun c37 => ?_)
 refine zr ?_
 refine za rfl rfl ?_
 refine za rfl rfl ?_
 refine zn ?_
 refine zt ?_
 exact ret2 rfl (RV.nil (sz := 1) rfl rfl) (RV.tmp rfl rfl) (r2 (rSl (tu_2 c19 hx0 c37).1) (rI (tu_2 c19 hx0 c37).2))
 refine zi ?_
 refine xw_region (by kernel_rfl) ?_
 refine zp (p_move rfl (by conv => lhs; whnf)) ?_
 refine zm rfl rfl ?_
 refine XL.step rfl (st_slice 40 rfl Tryz.underlying64 sz_3 zero_3 rfl rfl (by omega) (by omega)) ?_
 refine XL.step rfl (st_append rfl elt_64 (.own rfl) (Src.own rfl) (by unfold maxLen; simp; omega) (by simp; omega)) ?_
 refine zp (p_assign rfl (by conv => lhs; whnf)) ?_
 refine zn ?_
 refine xw_region (by kernel_rfl) ?_
 refine zp (p_add rfl rfl rfl (by omega) (by omega)) ?_
 refine zm rfl rfl ?_
 refine zn ?_
 exact k_round (k + 1) (⟨by omega, fun j hj => by by_cases e : j = k; (· subst e; rw [unitV_at hx0]; exact (by simpa using c37)); (· exact hall j (by omega))⟩) (by omega) (fz ⟨sr, sr, sr, sr, sr, trivial⟩) (gz ⟨sApp rfl (unitK_succ hx0), trivial⟩)
 have hk0b : k = l.length := by omega
 have ha : unitAll l ws := fun j hj => hall j (by omega)
 refine xw_exit ?_
 refine zr ?_
 refine zp (p_move rfl (by conv => lhs; whnf)) ?_
 refine zp (p_assign rfl (by conv => lhs; whnf)) ?_
 refine za rfl rfl ?_
 refine zn ?_
 refine zt ?_
 refine ret_freeze (i := 23) rfl ?_
 exact ret2 rfl (RV.tmp rfl rfl) (RV.tmp rfl rfl) (r2 (rSl (by rw [hk0b]; exact (tu_3 c19 ha).1)) (rI (tu_3 c19 ha).2))
def depthS (l : List Tp) (n : Int) : Int := if tupErr l 128 ≠ 0 then 0 else (hits l n : Int)
theorem hits_yes {l : List Tp} {k : Nat} {t : Tp} {n : Int} (h : l[k]? = some t) (ht : t.has n) : hits (l.take (k + 1)) n = hits (l.take k) n + 1 := by rw [take_snoc h, hits_snoc, if_pos ht]
theorem hits_no {l : List Tp} {k : Nat} {t : Tp} {n : Int} (h : l[k]? = some t) (ht : ¬ t.has n) : hits (l.take (k + 1)) n = hits (l.take k) n := by rw [take_snoc h, hits_snoc, if_neg ht]; rfl
theorem depth_xc (l : List Tp) (n : Int) (h0 : 0 ≤ n) (h1 : n ≤ 128) : XC Tryz.prog 94 [.sl 4 (l.map Tp.c), .v (.int .i64 n)] (fun r => r = dI (depthS l n)) := by
 refine xc_body callable_94 Tryz.func94 rfl rfl (Nat.le_of_ble_eq_true rfl) ?_
 refine zr ?_
 refine za rfl rfl ?_
 refine zn ?_
 refine zs ?_
 refine zr ?_
 refine zm rfl rfl ?_
 refine XL.call1 rfl rfl (tcheck_xc _ _) rfl ?_
 refine zp (p_neq rfl rfl rfl) ?_
 refine zn ?_
 refine zd rfl (fun c10 => ?_) (fun c10 => ?_)
 refine zr ?_
 refine za rfl rfl ?_
 refine zn ?_
 refine zt ?_
 exact z1 rfl rfl (rI (by rw [depthS, if_pos c10]))
 refine zi ?_
 refine zs ?_
 have hT := tups_of c10
 refine xw_region (by kernel_rfl) ?_
 refine za rfl rfl ?_
 refine zn ?_
 refine zs ?_
 refine zr ?_
 refine zm rfl rfl ?_
 refine XL.len rfl rfl rfl Tryz.underlying23 (fun hl12 => ?_)
 refine zm rfl rfl ?_
 refine zn ?_
 refine xw_block ?_
 refine xw_loop (α := Nat) (fun k => k ≤ l.length) (fun k => mkF [(1, .d (dI n)), (4, .d (dI 0)), (5, .d (dI (hits (l.take k) n : Int))), (11, .d (.sl 4 (l.map Tp.c))), (12, .d (dI l.length)), (13, .d (dI k))]) (fun k => mkH []) (fun k => l.length - k) (0) (Nat.zero_le _) ?_ ?_ ?_
 exact fz ⟨sr, sr, sr, sr, sr, sr, trivial⟩
 exact HSub.nil
 intro k hk0
 refine zr ?_
 refine zp (p_lss rfl rfl rfl) ?_
 refine zn ?_
 refine zs ?_
 refine zd rfl (fun c14 => ?_) (fun c14 => ?_)
 have hk0a : k < l.length := by omega
 obtain ⟨x0, hx0⟩ := get_ex hk0a
 have hok := hT.ok x0 (List.mem_of_getElem? hx0)
 have hle := Nat.le_trans (hits_take l k n) (hT.hits n)
 refine zi ?_
 refine zs ?_
 refine xw_block ?_
 refine zr ?_
 refine zp (p_idx_map rfl rfl rfl el_23 hx0) ?_
 refine zp (pure_eq (s' := .d (.agg (Tp.c x0))) (p_load_pts rfl rfl agg_102 (Nat.le_of_ble_eq_true rfl)) (by kernel_rfl)) ?_
 refine XL.step rfl (st_allocN 7 (l := [.d (dI 0), .d (dI 0), .d (dI 0), .d (dI 0)]) rfl zero_102 (by kernel_rfl)) ?_
 refine XL.step rfl (st_storeN (l' := [.d (dI x0.first), .d (dI x0.count), .d (dI x0.actual), .d (dI x0.normal)]) rfl rfl rfl rfl sz_102 rfl (Nat.le_of_ble_eq_true rfl) (by kernel_rfl)) ?_
 refine znr ?_
 refine zp (pure_eq (s' := .d (.agg (Tp.c x0))) (norm_pure (p_load_boxs rfl rfl agg_102 rfl (Nat.le_of_ble_eq_true rfl))) (by kernel_rfl)) ?_
 refine zm rfl rfl ?_
 refine XL.call1 rfl rfl (contains_xc _ _ (by assumption) (by omega) (by omega)) rfl ?_
 refine zn ?_
 refine zd rfl (fun c19 => ?_) (fun c19 => ?_)
 refine xw_region (by kernel_rfl) ?_
 refine zm rfl rfl ?_
 refine zp (p_add rfl rfl rfl (by omega) (by omega)) ?_
 refine za rfl rfl ?_
 refine zn ?_
 refine xw_region (by kernel_rfl) ?_
 refine zp (p_add rfl rfl rfl (by omega) (by omega)) ?_
 refine zm rfl rfl ?_
 refine zn ?_
 exact k_round (k + 1) (by omega) (by omega) (fz ⟨sr, sr, .same (sI (by rw [hits_yes hx0 c19]; rfl)), sr, sr, sr, trivial⟩) (HSub.nil)
 refine zi ?_
 refine xw_region (by kernel_rfl) ?_
 refine zp (p_add rfl rfl rfl (by omega) (by omega)) ?_
 refine zm rfl rfl ?_
 refine zn ?_
 exact k_round (k + 1) (by omega) (by omega) (fz ⟨sr, sr, .same (sI (by rw [hits_no hx0 c19])), sr, sr, sr, trivial⟩) (HSub.nil)
 have hk0b : k = l.length := by omega
 have ht : l.take k = l := by rw [hk0b, List.take_length]
 refine xw_exit ?_
 refine zr ?_
 refine zm rfl rfl ?_
 refine za rfl rfl ?_
 refine zn ?_
 refine zt ?_
 exact z1 rfl rfl (rI (by rw [depthS, if_neg c10, ht]))
end Go.Proofs.YtcihalbakenleaaGreat
namespace Go.Proofs.YtcihalbakenleaaGreat
open Go.RowKit
/-- does an operation wait for another one directly? -/
def edgeB (ops : Array Oper) (j i : Nat) : Bool := match ops[j]? with
 | some o => o.after.toList.any fun e => Region.binds .any e && Nat.beq e.on i
 | none => false
def backB (ops : Array Oper) : Bool := (List.range ops.size).all fun j => match ops[j]? with
 | some o => o.after.toList.all fun e => !Region.binds .any e || Nat.blt e.on j
 | none => true
/-- from p on the operations come one by one, each behind all that stand before it -/
def sufB (ops : Array Oper) (p : Nat) : Bool :=
 backB ops && ((List.range p).all fun k => (List.range (p + 1)).any fun k' => Nat.blt k k' && edgeB ops k' k) && ((List.range ops.size).all fun j => !Nat.blt p j || edgeB ops j (j - 1))
theorem edgeB_spec {ops : Array Oper} {j i : Nat} (h : edgeB ops j i = true) : ∃ o e, ops[j]? = some o ∧ e ∈ o.after ∧ Region.binds .any e = true ∧ e.on = i := by
 unfold edgeB at h
 cases ho : ops[j]? with
 | none => rw [ho] at h; cases h
 | some o =>
  rw [ho] at h
  simp only [List.any_eq_true, Bool.and_eq_true] at h
  obtain ⟨e, he, hb, h2⟩ := h
  exact ⟨o, e, rfl, by simpa using he, hb, Nat.eq_of_beq_eq_true h2⟩
theorem backB_spec {ops : Array Oper} (h : backB ops = true) {j : Nat} {o : Oper} (ho : ops[j]? = some o) {e : Edge} (he : e ∈ o.after) (hb : Region.binds .any e = true) : e.on < j := by
 unfold backB at h
 have hj : j < ops.size := (Array.getElem?_eq_some_iff.1 ho).1
 have h1 := List.all_eq_true.1 h j (List.mem_range.2 hj)
 rw [ho] at h1
 have h2 := List.all_eq_true.1 h1 e (by simpa using he)
 rw [hb] at h2
 exact blt_lt (by simpa using h2)
theorem wp_region_suf {P : Program} {ops : Array Oper} {Q : Exit → Act → World → Prop} {id : Nat} {a : Act} {w : World} {I : Array Bool → Act → World → Prop} (p : Nat) (suf : List Oper) (hm : P.follows .mixedOrders = true)
  (hops : ∀ j, suf[j]? = ops[p + j]?) (hsz : ops.size = p + suf.length) (hne : 0 < suf.length) (hS : sufB ops p = true) (h0 : I (Array.replicate ops.size false) a w.drew)
  (hinv : ∀ listed a w, I listed a w → listed.size = ops.size ∧ (∀ j o e, ops[j]? = some o → listed.getD j false = true → e ∈ o.after → Region.binds .any e = true → listed.getD e.on false = true) ∧ ∀ k, p ≤ k → listed.getD k false = false)
  (hstep : ∀ listed a w, I listed a w → ∀ i ∈ Region.ready .any ops listed, i < p → wpOp P ops Q i (fun a' w' => I (listed.setIfInBounds i true) a' w') a w)
  (hdone : ∀ listed a w, I listed a w → (∀ k, k < p → listed.getD k false = true) → wpList P ops Q suf a w) : (Code.region id ops true).wp P Q a w := by
 unfold sufB at hS
 rw [Bool.and_eq_true, Bool.and_eq_true] at hS
 obtain ⟨⟨hback, hpre⟩, hchain⟩ := hS
 have hch : ∀ j, p < j → j < ops.size → edgeB ops j (j - 1) = true := by
  intro j h1 h2
  have h3 := List.all_eq_true.1 hchain j (List.mem_range.2 h2)
  have h4 : Nat.blt p j = true := by rw [Nat.blt_eq]; exact h1
  rw [h4] at h3
  simpa using h3
 have hall : ∀ listed a w, I listed a w → p ∈ Region.ready .any ops listed → ∀ k, k < p → listed.getD k false = true := by
  intro listed a w hI hp k hk
  obtain ⟨_, hdown, _⟩ := hinv _ _ _ hI
  obtain ⟨_, _, o, ho, hdeps⟩ := ready_parts hp
  have key : ∀ d k, k < p → p - k ≤ d → listed.getD k false = true := by
   intro d
   induction d with
   | zero => intro k h1 h2; omega
   | succ d ih =>
    intro k h1 h2
    have h3 := List.all_eq_true.1 hpre k (List.mem_range.2 h1)
    simp only [List.any_eq_true, Bool.and_eq_true, List.mem_range] at h3
    obtain ⟨k', h4, h5, h6⟩ := h3
    have h5 := blt_lt h5
    obtain ⟨o', e, g1, g2, g3, g4⟩ := edgeB_spec h6
    by_cases e' : k' = p
    ·subst e'
     rw [ho] at g1; cases g1
     rw [← g4]; exact hdeps e g2 g3
    ·rw [← g4]
     exact hdown k' o' e g1 (ih k' (by omega) (by omega)) g2 g3
  exact key (p - k) k hk (Nat.le_refl _)
 let J : Array Bool → Act → World → Prop := fun listed a w => I listed a w ∨ ∃ m, m ≤ suf.length ∧ listed.size = ops.size ∧ (∀ k, k < ops.size → (listed.getD k false = true ↔ k < p + m)) ∧ wpList P ops Q (suf.drop m) a w
 -- one operation of the end
 have hone : ∀ (listed : Array Bool) (a : Act) (w : World) (m : Nat), m < suf.length → listed.size = ops.size → (∀ k, k < ops.size → (listed.getD k false = true ↔ k < p + m)) → wpList P ops Q (suf.drop m) a w →
   wpOp P ops Q (p + m) (fun a' w' => J (listed.setIfInBounds (p + m) true) a' w') a w := by
  intro listed a w m hm' hl hk hw
  have ho : suf[m]? = some suf[m] := List.getElem?_eq_getElem hm'
  have hd : suf.drop m = suf[m] :: suf.drop (m + 1) := List.drop_eq_getElem_cons hm'
  rw [hd] at hw
  unfold wpOp
  rw [← hops m, ho]
  simp only
  unfold wpList at hw
  have hJ : ∀ a' w', wpList P ops Q (suf.drop (m + 1)) a' w' → J (listed.setIfInBounds (p + m) true) a' w' := by
   intro a' w' h
   refine .inr ⟨m + 1, hm', by simpa using hl, fun k hk' => ?_, h⟩
   by_cases e : k = p + m
   ·subst e
    simp [Array.getD_eq_getD_getElem?, show p + m < listed.size by omega]
   ·rw [show (listed.setIfInBounds (p + m) true).getD k false = listed.getD k false from by simp [Array.getD_eq_getD_getElem?, Array.getElem?_setIfInBounds_ne (fun h => e h.symm)]]
    rw [hk k hk']
    omega
  split at hw
  ·rename_i hwant
   rw [if_pos hwant]
   rcases hw with h | h
   ·exact .inl (Oper.wp_mono hJ h)
   ·exact .inr h
  ·rename_i hwant
   rw [if_neg hwant]
   exact hJ _ _ hw
 refine wp_region_inv (I := J) hm (.inl h0) ?_ ?_
 ·rintro listed a w (hI | ⟨m, hm', hl, hk, hw⟩) i hi
  ·obtain ⟨hl, hdown, hun⟩ := hinv _ _ _ hI
   obtain ⟨h1, h2, o, ho, hdeps⟩ := ready_parts hi
   by_cases hip : i < p
   ·exact wpOp_mono (fun _ _ h => .inl h) (hstep _ _ _ hI i hi hip)
   ·by_cases e : i = p
    ·subst e
     have ha := hall _ _ _ hI hi
     have := hone listed a w 0 hne hl (fun k hk => by
      by_cases hkp : k < i
      ·simp [ha k hkp, hkp]
      ·simp [hun k (by omega), hkp]) (by rw [List.drop_zero]; exact hdone _ _ _ hI ha)
     rwa [Nat.add_zero] at this
    ·exfalso
     obtain ⟨o', e', g1, g2, g3, g4⟩ := edgeB_spec (hch i (by omega) h1)
     rw [ho] at g1; cases g1
     have := hdeps e' g2 g3
     rw [g4, hun (i - 1) (by omega)] at this
     cases this
  ·obtain ⟨h1, h2, o, ho, hdeps⟩ := ready_parts hi
   have h2' : listed.getD i false = false := by rw [← getD_bool true (by omega)]; exact h2
   have hge : ¬ i < p + m := fun h => by have := (hk i h1).2 h; rw [h2'] at this; cases this
   have hi' : i = p + m := by
    by_cases e : i = p + m
    ·exact e
    ·exfalso
     obtain ⟨o', e', g1, g2, g3, g4⟩ := edgeB_spec (hch i (by omega) h1)
     rw [ho] at g1; cases g1
     have := hdeps e' g2 g3
     rw [g4] at this
     have := (hk (i - 1) (by omega)).1 this
     omega
   subst hi'
   exact hone listed a w m (by omega) hl hk hw
 ·rintro listed a w (hI | ⟨m, hm', hl, hk, hw⟩) hr
  ·exfalso
   obtain ⟨hl, hdown, hun⟩ := hinv _ _ _ hI
   have key : ∀ k, k ≤ p → listed.getD k false = true := by
    intro k
    induction k using Nat.strongRecOn with
    | _ k ih =>
     intro hkp
     cases hlk : listed.getD k false with
     | true => rfl
     | false =>
      exfalso
      have hks : k < ops.size := by omega
      have ho : ops[k]? = some ops[k] := Array.getElem?_eq_getElem hks
      have : k ∈ Region.ready .any ops listed := mem_ready.2 ⟨by rw [getD_bool true (by omega)]; exact hlk, ops[k], ho, fun e he hb => by
       have hlt := backB_spec hback ho he hb
       exact ih e.on hlt (by omega)⟩
      rw [hr] at this; cases this
   have := key p (Nat.le_refl _)
   rw [hun p (Nat.le_refl _)] at this
   cases this
  ·by_cases e : m = suf.length
   ·subst e
    rw [List.drop_length] at hw
    exact hw
   ·exfalso
    have hks : p + m < ops.size := by omega
    have ho : ops[p + m]? = some ops[p + m] := Array.getElem?_eq_getElem hks
    have hun : listed.getD (p + m) false = false := by
     cases h : listed.getD (p + m) false with
     | false => rfl
     | true => have := (hk _ hks).1 h; omega
    have : p + m ∈ Region.ready .any ops listed := mem_ready.2 ⟨by rw [getD_bool true (by omega)]; exact hun, ops[p + m], ho, fun e he hb => by
     have hlt := backB_spec hback ho he hb
     exact (hk e.on (by omega)).2 hlt⟩
    rw [hr] at this; cases this
theorem xw_drawS {P : Program} {n id : Nat} {pre suf : List Oper} {ops : Array Oper} {K : Kont} {f f' : Fr} {h h' : Xh} {L : List (List Nat × S)} (sites : List Nat) (hopsE : ops = (pre ++ suf).toArray) (hne : 0 < suf.length) (hm : P.follows .mixedOrders = true) (hin : pre.all (inN n) = true) (hin2 : suf.all (inN n) = true)
  (hreg : regB ops pre = true) (hS : sufB ops pre.length = true)
  (hc : Ch P n ops pre (fkills f sites) (hkills h sites) L f' h') (hids : L.flatMap (·.1) = sites) (hnd : sites.Nodup) (hk : XL P n ops suf K f' h') : XW P n (.region id ops true) K f h := by
 have hops : ∀ j, j < pre.length → ops[j]? = pre[j]? := fun j hj => by rw [hopsE]; simp [List.getElem?_append_left hj]
 have hops2 : ∀ j, suf[j]? = ops[pre.length + j]? := fun j => by rw [hopsE, List.getElem?_toArray, List.getElem?_append_right (by omega), Nat.add_sub_cancel_left]
 have hsize : ops.size = pre.length + suf.length := by rw [hopsE]; simp
 intro E H β a w hs hf
 obtain ⟨hs1, hf1⟩ := kills_ok sites β f h hs hf
 obtain ⟨hok, hfin⟩ := hc.ok
 obtain ⟨hle, hnew⟩ := hc.heap
 have hlen := hc.len
 generalize hf0 : fkills f sites = f0 at *
 -- the sites of one operation are no other's
 have huniq : ∀ (k k' : Nat) (ids ids' : List Nat) (s s' : S) (i : Nat), L[k]? = some (ids, s) → L[k']? = some (ids', s') → i ∈ ids → i ∈ ids' → k = k' := by
  rw [← hids] at hnd
  clear hids hnew hc hok hfin hlen
  induction L with
  | nil => intro k k' ids ids' s s' i h1; simp at h1
  | cons q L ih =>
   rw [List.flatMap_cons, List.nodup_append] at hnd
   intro k k' ids ids' s s' i h1 h2 h3 h4
   cases k with
   | zero =>
    cases k' with
    | zero => rfl
    | succ k' =>
     simp at h1 h2
     subst h1
     exact absurd rfl (hnd.2.2 i h3 i (List.mem_flatMap.2 ⟨_, List.mem_of_getElem? h2, h4⟩))
   | succ k =>
    cases k' with
    | zero =>
     simp at h1 h2
     subst h2
     exact absurd rfl (hnd.2.2 i h4 i (List.mem_flatMap.2 ⟨_, List.mem_of_getElem? h1, h3⟩))
    | succ k' => exact congrArg (· + 1) (ih hnd.2.1 k k' ids ids' s s' i (by simpa using h1) (by simpa using h2) h3 h4)
 have hs2 : Sim E H (bkills β sites) h' w := by
  have emp : ∀ i x L0, h' i = some x → bkills β sites i = some L0 → hkills h sites i = some x := fun i x L0 e1 e2 => by
   rcases hnew i x e1 with e | e
   ·exact e
   ·rw [hids] at e
    rw [bkills_mem sites β i e.1] at e2; cases e2
  exact ⟨hs1.below, hs1.ext, hs1.new, hs1.imm, fun i x L0 e1 e2 => hs1.obj i x L0 (emp i x L0 e1 e2) e2, fun i x L0 e1 e2 => hs1.sep i x L0 (emp i x L0 e1 e2) e2,
   fun i j x x' L1 L2 b hij e1 e1' e2 e2' => hs1.inj i j x x' L1 L2 b hij (emp i x L1 e1 e2) (emp j x' L2 e1' e2') e2 e2',
   fun i x e1 hg => by
    rcases hnew i x e1 with e | e
    ·exact hs1.dom i x e hg
    ·rw [e.2] at hg; cases hg⟩
 refine wp_region_suf (I := fun listed a w => (listed.size = ops.size ∧ (∀ j o e, ops[j]? = some o → listed.getD j false = true → e ∈ o.after → Region.binds .any e = true → listed.getD e.on false = true) ∧ ∀ k, pre.length ≤ k → listed.getD k false = false) ∧
   ∃ H β, Sim E H β h' w ∧ FV n H β a (curK f0 pre L (fun j => listed.getD j false) pre.length) ∧ ∀ (k : Nat) (ids : List Nat) (s : S), L[k]? = some (ids, s) → listed.getD k false = false → ∀ i ∈ ids, β i = none) pre.length suf hm hops2 hsize hne hS ?_ (fun _ _ _ h => h.1) ?_ ?_
 ·have hrep : ∀ j, (Array.replicate ops.size false).getD j false = false := fun j => by rw [Array.getD_eq_getD_getElem?, Array.getElem?_replicate]; split <;> rfl
  refine ⟨⟨by simp, fun j o e _ hj => ?_, fun k _ => hrep k⟩, H, bkills β sites, hs2.drew, ?_, fun k ids s hk _ i hi => bkills_mem sites β i (by rw [← hids]; exact List.mem_flatMap.2 ⟨_, List.mem_of_getElem? hk, hi⟩)⟩
  ·have : (Array.replicate ops.size false).getD j false = false := by
    rw [Array.getD_eq_getD_getElem?, Array.getElem?_replicate]; split <;> rfl
   rw [this] at hj; cases hj
  ·have e0 : ∀ k, curK f0 pre L (fun j => (Array.replicate ops.size false).getD j false) k = f0 := by
    intro k
    induction k with
    | zero => rfl
    | succ k ih =>
     have hz : (Array.replicate ops.size false).getD k false = false := by
      rw [Array.getD_eq_getD_getElem?, Array.getElem?_replicate]; split <;> rfl
     unfold curK
     cases pre[k]? with
     | none => exact ih
     | some o =>
      cases L[k]? with
      | none => exact ih
      | some q => simp only [hz, cond_false]; exact ih
   rw [e0]
   exact hf1
 ·rintro listed a w ⟨⟨hsz, hdown, hunp⟩, H, β, hsim, hfv, hun⟩ i hi hip
  obtain ⟨hil, hunl, o, ho, hdeps⟩ := ready_parts hi
  have hil' : i < pre.length := hip
  have hol : pre[i]? = some o := by rw [← hops i hip]; exact ho
  obtain ⟨⟨ids, s⟩, hLi⟩ : ∃ q, L[i]? = some q := ⟨_, List.getElem?_eq_getElem (by omega)⟩
  have hunl' : listed.getD i false = false := by rw [← getD_bool true (by omega)]; exact hunl
  have hdown' : ∀ j o e, ops[j]? = some o → (fun j => listed.getD j false) j = true → e ∈ o.after → Region.binds .any e = true → (fun j => listed.getD j false) e.on = true := fun j o e h1 h2 h3 h4 => hdown j o e (by simpa using h1) h2 h3 h4
  -- who shares a slot with i and comes before is listed, who comes behind is not
  have hwl : ∀ j, waits ops 3 i j = true → listed.getD j false = true := by
   intro j hw
   unfold waits at hw
   rw [ho] at hw
   simp only [List.any_eq_true, Bool.and_eq_true, Bool.or_eq_true] at hw
   obtain ⟨e, he, hb, h2⟩ := hw
   have hl := hdeps e (by simpa using he) hb
   rcases h2 with h2 | h2
   ·rw [← Nat.eq_of_beq_eq_true h2]; exact hl
   ·exact waits_listed hdown' 2 e.on j h2 hl
  have hlo : ∀ t, t ∈ namesOf ops o → ∀ j o', j < i → pre[j]? = some o' → o'.dst = some t → listed.getD j false = true := by
   intro t ht j o' hj hj' hd
   exact hwl j (regB_spec hreg hj hj' hol (by unfold clash; rw [hd]; simp [memN_mem ht]))
  have hhi : ∀ t, t ∈ namesOf ops o → ∀ j o', i < j → pre[j]? = some o' → o'.dst = some t → listed.getD j false = false := by
   intro t ht j o' hj hj' hd
   cases hlj : listed.getD j false with
   | false => rfl
   | true =>
    have hw := regB_spec hreg hj hol hj' (by unfold clash; rw [hd]; simp [memN_mem ht])
    have := waits_listed hdown' 3 j i hw hlj
    rw [hunl'] at this; cases this
  have hcur : ∀ t, t ∈ namesOf ops o → curK f0 pre L (fun j => listed.getD j false) pre.length t = curK f0 pre L allL i t := by
   intro t ht
   have h1 : ∀ j o', i ≤ j → pre[j]? = some o' → o'.dst = some t → (fun j => listed.getD j false) j = false := by
    intro j o' hj hj' hd
    by_cases e : j = i
    ·subst e; exact hunl'
    ·exact hhi t ht j o' (by omega) hj' hd
   rw [curK_stay h1 pre.length (by omega), curK_same (hlo t ht) i (Nat.le_refl _)]
  have hin' : inN n o = true := List.all_eq_true.1 hin o (List.mem_of_getElem? hol)
  have hoin := hin'
  unfold inN at hoin
  rw [Bool.and_eq_true] at hoin
  have hop : ∀ x ∈ o.op.operands, VS H β (a.eval x) (ev (curK f0 pre L allL i) x) := by
   intro x hx
   have h1 := hfv.operands hin' x hx
   cases x with
   | tmp t =>
    have ht : t ∈ namesOf ops o := by
     unfold namesOf Oper.looksAt
     simp only [List.mem_append, List.mem_filterMap]
     exact .inr (.inl ⟨.tmp t, by simpa using hx, rfl⟩)
    have := hcur t ht
    simp only [ev] at h1 ⊢
    rw [← this]
    exact h1
   | _ => exact h1
  have hguard : ∀ b, wantB ops (curK f0 pre L allL i) n o.guard = some b → Region.wanted o (yielded ops a.tmps) = b := by
   intro b hb
   refine wantB_spec hfv ?_
   rw [← hb]
   unfold wantB
   cases hg : o.guard with
   | none => rfl
   | some g =>
    obtain ⟨j, want⟩ := g
    simp only
    cases ht : (ops[j]?).bind (·.dst) with
    | none => rfl
    | some t =>
     simp only
     have htn : t ∈ namesOf ops o := by
      unfold namesOf Oper.looksAt
      rw [hg]
      simp only [List.mem_append]
      exact .inr (.inr (by rw [ht]; simp))
     rw [hcur t htn]
  have hlisted' : ∀ j, (listed.setIfInBounds i true).getD j false = if j = i then true else listed.getD j false := by
   intro j
   by_cases e : j = i
   ·subst e
    simp [Array.getD_eq_getD_getElem?, show j < listed.size by omega]
   ·rw [if_neg e]
    simp [Array.getD_eq_getD_getElem?, Array.getElem?_setIfInBounds_ne (fun h => e h.symm)]
  have hdown2 : ∀ j o' e, ops[j]? = some o' → (listed.setIfInBounds i true).getD j false = true → e ∈ o'.after → Region.binds .any e = true → (listed.setIfInBounds i true).getD e.on false = true := by
   intro j o' e hj hl he hb
   rw [hlisted'] at hl ⊢
   split
   ·rfl
   ·by_cases ej : j = i
    ·subst ej
     rw [ho] at hj; cases hj
     exact hdeps e he hb
    ·rw [if_neg ej] at hl
     exact hdown j o' e hj hl he hb
  -- what the slots hold behind it
  have hslot : ∀ (H' : Hp) (β' : Bt) (u : Value), FV n H' β' a (curK f0 pre L (fun j => listed.getD j false) pre.length) → VS H' β' u s → FV n H' β' (a.put o.dst u) (curK f0 pre L (fun j => (listed.setIfInBounds i true).getD j false) pre.length) := by
   intro H' β' u hfv' hu
   have hp := hfv'.put hu o.dst hoin.2
   refine ⟨hp.defers, hp.size, fun t ht => ?_⟩
   have h1 := hp.slot t ht
   have hsame : ∀ j, j ≠ i → (fun j => (listed.setIfInBounds i true).getD j false) j = (fun j => listed.getD j false) j := fun j hj => by simp only; rw [hlisted', if_neg hj]
   by_cases hd : o.dst = some t
   ·have ht' : t ∈ namesOf ops o := by unfold namesOf; simp [hd]
    have e1 : curK f0 pre L (fun j => (listed.setIfInBounds i true).getD j false) pre.length t = curK f0 pre L (fun j => (listed.setIfInBounds i true).getD j false) (i + 1) t := by
     refine curK_stay (fun j o' hj hj' hd' => ?_) pre.length (by omega)
     show (listed.setIfInBounds i true).getD j false = false
     rw [hlisted', if_neg (by omega)]
     exact hhi t ht' j o' (by omega) hj' hd'
    have e2 : curK f0 pre L (fun j => (listed.setIfInBounds i true).getD j false) (i + 1) t = s := by
     unfold curK
     rw [hol, hLi]
     have hb : (listed.setIfInBounds i true).getD i false = true := by rw [hlisted', if_pos rfl]
     simp only [hb, cond_true, fput, hd, fset, nbeq_same]
    have e3 : fput (curK f0 pre L (fun j => listed.getD j false) pre.length) o.dst s t = s := by rw [hd]; simp only [fput, fset, nbeq_same, cond_true]
    rw [e1, e2]
    rw [e3] at h1
    exact h1
   ·have e1 := curK_other (f := f0) (L := L) (lst := fun j => listed.getD j false) (t := t) hsame (fun o' h => by rw [hol] at h; cases h; exact hd) pre.length
    have e3 : fput (curK f0 pre L (fun j => listed.getD j false) pre.length) o.dst s t = curK f0 pre L (fun j => listed.getD j false) pre.length t := by
     cases hdd : o.dst with
     | none => rfl
     | some t' =>
      have : t' ≠ t := fun e => hd (by rw [hdd, e])
      simp only [fput, fset, nbeq_ne this, cond_false]
    rw [e1]
    rw [e3] at h1
    exact h1
  have hun2 : ∀ (β' : Bt), (∀ j, j ∉ ids → β' j = β j) → ∀ (k : Nat) (ids' : List Nat) (s' : S), L[k]? = some (ids', s') → (listed.setIfInBounds i true).getD k false = false → ∀ j ∈ ids', β' j = none := by
   intro β' hβ' k ids' s' hk hl j hj
   rw [hlisted'] at hl
   by_cases e : k = i
   ·rw [if_pos e] at hl; cases hl
   ·rw [if_neg e] at hl
    rw [hβ' j (fun hc => e (huniq k i ids' ids s' s j hk hLi hj hc))]
    exact hun k ids' s' hk hl j hj
  have hsz' : (listed.setIfInBounds i true).size = ops.size := by simpa using hsz
  have hunp2 : ∀ k, pre.length ≤ k → (listed.setIfInBounds i true).getD k false = false := fun k hk => by rw [hlisted', if_neg (by omega)]; exact hunp k hk
  unfold wpOp
  rw [ho]
  simp only
  rcases hok i o ids s hol hLi with ⟨hw, hcalm⟩ | ⟨hw, rfl, rfl⟩
  ·rw [if_pos (hguard _ hw)]
   refine .inl (wp_weak (hcalm E H β a w hsim (hun i ids s hLi hunl') hop) ?_)
   rintro a' w' ⟨H', β', u, rfl, k1, k2, k3, k4, k5⟩
   exact ⟨⟨hsz', hdown2, hunp2⟩, H', β', k1, hslot H' β' u (hfv.mono k2 k3) k5, hun2 β' k4⟩
  ·rw [if_neg (by rw [hguard _ hw]; simp)]
   exact ⟨⟨hsz', hdown2, hunp2⟩, H, β, hsim, hslot H β undef hfv (.d (.v _)), hun2 β fun _ _ => rfl⟩
 ·rintro listed a w ⟨⟨hsz, hdown, hunp⟩, H, β, hsim, hfv, hun⟩ hall
  refine hk hin2 E H β a w hsim ?_
  have e : ∀ k, k ≤ pre.length → curK f0 pre L (fun j => listed.getD j false) k = curK f0 pre L allL k := by
   intro k
   induction k with
   | zero => intro _; rfl
   | succ k ih =>
    intro hk'
    unfold curK
    rw [ih (by omega)]
    cases pre[k]? with
    | none => rfl
    | some o =>
     cases L[k]? with
     | none => rfl
     | some q => simp only [hall k (by omega), allL]
  rw [e pre.length (Nat.le_refl _), hfin] at hfv
  exact hfv
theorem xw_anyS {P : Program} {n id : Nat} {pre suf : List Oper} {ops : Array Oper} {K : Kont} {f : Fr} {h : Xh} (sites : List Nat) (hopsE : ops = (pre ++ suf).toArray) (hne : 0 < suf.length) (hm : P.follows .mixedOrders = true) (hin : pre.all (inN n) = true) (hin2 : suf.all (inN n) = true)
  (hreg : regB ops pre = true) (hS : sufB ops pre.length = true) (hnd : sites.Nodup)
  (hc : ChK P n ops pre (fkills f sites) (hkills h sites) [] (fun L f' h' => L.flatMap (·.1) = sites ∧ XL P n ops suf K f' h')) : XW P n (.region id ops true) K f h := by
 obtain ⟨L, f', h', k1, k2, k3⟩ := hc
 exact xw_drawS sites hopsE hne hm hin hin2 hreg hS k1 k2 hnd k3
theorem xw_anyP {P : Program} {n id : Nat} {l : List Oper} {K : Kont} {f : Fr} {h : Xh} (p : Nat) (sites : List Nat) (hm : P.follows .mixedOrders = true) (hin : l.all (inN n) = true) (hreg : regB l.toArray (l.take p) = true) (hS : (Nat.blt p l.length && sufB l.toArray p) = true) (hnd : sites.Nodup)
  (hc : ChK P n l.toArray (l.take p) (fkills f sites) (hkills h sites) [] (fun L f' h' => L.flatMap (·.1) = sites ∧ XL P n l.toArray (l.drop p) K f' h')) : XW P n (.region id l.toArray true) K f h := by
 rw [Bool.and_eq_true] at hS
 have hp := blt_lt hS.1
 rw [← List.take_append_drop p l, List.all_append, Bool.and_eq_true] at hin
 exact xw_anyS sites (by rw [List.take_append_drop]) (by rw [List.length_drop]; omega) hm hin.1 hin.2 hreg (by rw [List.length_take, Nat.min_eq_left (by omega)]; exact hS.2) hnd hc
theorem sSet {e : TypeId} {sz k : Nat} {α : Type} {g : α → List D} {l l' : List α} {a : α} {ds : List D} (hd : ds = g a) (hl : l' = l.set k a) : some (XO.row e sz ((l.map g).set k ds)) = some (XO.row e sz (l'.map g)) := by rw [hl, hd, List.map_set]
end Go.Proofs.YtcihalbakenleaaGreat
namespace Go.Proofs.YtcihalbakenleaaGreat
open Go.RowKit
def tot (l : List Int) : Int := l.foldl (· + ·) 0
theorem tot_snoc (l : List Int) (x : Int) : tot (l ++ [x]) = tot l + x := by unfold tot; rw [List.foldl_append]; rfl
theorem tot_take {l : List Int} {k : Nat} {x : Int} (h : l[k]? = some x) : tot (l.take (k + 1)) = tot (l.take k) + x := by rw [take_snoc h, tot_snoc]
/-- lengths of the events of a voice -/
structure Nums (l : List Int) : Prop where
 len : l.length ≤ 128
 bd : ∀ x ∈ l, 0 ≤ x ∧ x ≤ 253671505920
theorem tot_bd0 {l : List Int} : (∀ x ∈ l, 0 ≤ x ∧ x ≤ 253671505920) → 0 ≤ tot l ∧ tot l ≤ (l.length : Int) * 253671505920 := by
 refine snoc_ind (p := fun l => (∀ x ∈ l, 0 ≤ x ∧ x ≤ 253671505920) → 0 ≤ tot l ∧ tot l ≤ (l.length : Int) * 253671505920) (fun _ => by simp [tot]) (fun l x ih h => ?_) l
 have h1 := ih fun y hy => h y (List.mem_append_left _ hy)
 have h2 := h x (List.mem_append_right _ (List.mem_singleton.2 rfl))
 rw [tot_snoc, List.length_append, List.length_singleton, Int.natCast_add, Int.add_mul]
 omega
theorem Nums.tot {l : List Int} (h : Nums l) : 0 ≤ Go.Proofs.YtcihalbakenleaaGreat.tot l ∧ Go.Proofs.YtcihalbakenleaaGreat.tot l ≤ 32469952757760 := by
 have := tot_bd0 h.bd
 have := h.len
 omega
theorem Nums.take {l : List Int} (h : Nums l) (k : Nat) : Nums (l.take k) := ⟨Nat.le_trans (List.length_take_le' _ _) h.len, fun x hx => h.bd x (List.mem_of_mem_take hx)⟩
def Evs (l : List Ev) : Prop := ∀ e ∈ l, e.art ≤ 9223372036854775807
def wrS (l : List Ev) : List Int := l.map Ev.len
theorem total_xc (l : List Int) (h : Nums l) : XC Tryz.prog 61 [.sl 1 (ints l)] (fun r => r = dI (tot l)) := by
 refine xc_body callable_61 Tryz.func61 rfl rfl (Nat.le_of_ble_eq_true rfl) ?_
 refine zr ?_
 refine za rfl rfl ?_
 refine znr ?_
 refine za rfl rfl ?_
 refine zn ?_
 refine zs ?_
 refine zr ?_
 refine zm rfl rfl ?_
 refine XL.len rfl rfl rfl Tryz.underlying64 (fun hl7 => ?_)
 refine zm rfl rfl ?_
 refine zn ?_
 refine xw_block ?_
 refine xw_loop (α := Nat) (fun k => k ≤ l.length) (fun k => mkF [(2, .d (dI 0)), (3, .d (dI (tot (l.take k)))), (6, .d (.sl 1 (ints l))), (7, .d (dI l.length)), (8, .d (dI k))]) (fun k => mkH []) (fun k => l.length - k) (0) (Nat.zero_le _) ?_ ?_ ?_
 exact fz ⟨sr, sr, sr, sr, sr, trivial⟩
 exact HSub.nil
 intro k hk0
 refine zr ?_
 refine zp (p_lss rfl rfl rfl) ?_
 refine zn ?_
 refine zs ?_
 refine zd rfl (fun c9 => ?_) (fun c9 => ?_)
 have hk0a : k < l.length := by omega
 obtain ⟨x0, hx0⟩ := get_ex hk0a
 have h1 := (h.take k).tot
 have h2 := h.bd x0 (List.mem_of_getElem? hx0)
 refine zi ?_
 refine zs ?_
 refine xw_block ?_
 refine zr ?_
 refine zp (p_idx_map rfl rfl rfl el_64 hx0) ?_
 refine zp (p_load_pt rfl rfl sc_3) ?_
 refine za rfl rfl ?_
 refine zng ?_
 refine zm rfl rfl ?_
 refine zm rfl rfl ?_
 refine zp (p_add rfl rfl rfl (by omega) (by omega)) ?_
 refine za rfl rfl ?_
 refine zn ?_
 refine xw_region (by kernel_rfl) ?_
 refine zp (p_add rfl rfl rfl (by omega) (by omega)) ?_
 refine zm rfl rfl ?_
 refine zn ?_
 exact k_round (k + 1) (by omega) (by omega) (fz ⟨sr, .same (sI (by rw [tot_take hx0])), sr, sr, sr, trivial⟩) (HSub.nil)
 have hk0b : k = l.length := by omega
 have ht : l.take k = l := by rw [hk0b, List.take_length]
 refine xw_exit ?_
 refine zr ?_
 refine zm rfl rfl ?_
 refine za rfl rfl ?_
 refine zn ?_
 refine zt ?_
 exact z1 rfl rfl (rI (by rw [ht]))
/-- onsets, as far as they stand -/
def onsR (l : List Int) (k : Nat) : List Int := (List.range l.length).map fun j => if j < k then tot (l.take j) else 0
def onsS (l : List Int) : List Int := (List.range l.length).map fun j => tot (l.take j)
theorem onsR_len (l : List Int) (k : Nat) : (onsR l k).length = l.length := by rw [onsR, List.length_map, List.length_range]
theorem onsR_one (l : List Int) : List.replicate l.length (0 : Int) = onsR l 1 := by
 rw [onsR]
 refine List.ext_getElem? fun j => ?_
 rw [List.getElem?_replicate, List.getElem?_map]
 by_cases h : j < l.length
 ·rw [if_pos h, List.getElem?_range h, Option.map_some]
  congr 1
  split
  ·have : j = 0 := by omega
   subst this; rfl
  ·rfl
 ·rw [if_neg h, List.getElem?_eq_none (by rw [List.length_range]; omega)]; rfl
theorem onsR_get {l : List Int} {j k : Nat} (h : j < k) (hj : j < l.length) : (onsR l k)[j]? = some (tot (l.take j)) := by
 rw [onsR, List.getElem?_map, List.getElem?_range hj, Option.map_some, if_pos h]
theorem onsR_set {l : List Int} {k : Nat} (hk : k < l.length) : (onsR l k).set k (tot (l.take k)) = onsR l (k + 1) := by
 refine List.ext_getElem? fun j => ?_
 rw [List.getElem?_set]
 split
 ·rename_i h
  subst h
  rw [if_pos (by rw [onsR_len]; exact hk), onsR_get (by omega) hk]
 ·rename_i h
  rw [onsR, onsR, List.getElem?_map, List.getElem?_map]
  by_cases hj : j < l.length
  ·rw [List.getElem?_range hj, Option.map_some, Option.map_some]
   congr 1
   by_cases e : j < k
   ·rw [if_pos e, if_pos (by omega)]
   ·rw [if_neg e, if_neg (by omega)]
  ·rw [List.getElem?_eq_none (by rw [List.length_range]; omega)]; rfl
theorem onsR_end {l : List Int} {k : Nat} (hk : l.length ≤ k) : onsR l k = onsS l := by
 rw [onsR, onsS]
 refine List.map_congr_left fun j hj => ?_
 rw [if_pos (by have := List.mem_range.1 hj; omega)]
theorem onsets_xc (l : List Int) (h : Nums l) : XC Tryz.prog 69 [.sl 1 (ints l)] (fun r => r = .sl 1 (ints (onsS l))) := by
 have hll := h.len
 refine xc_body callable_69 Tryz.func69 rfl rfl (Nat.le_of_ble_eq_true rfl) ?_
 refine zr ?_
 refine za rfl rfl ?_
 refine znr ?_
 refine zm rfl rfl ?_
 refine XL.len rfl rfl rfl Tryz.underlying64 (fun hl6 => ?_)
 refine XL.step rfl (st_make 7 (z := (.int .i64 0)) (zs := [dI 0]) (sz := 1) (bytes := 8) rfl rfl rfl Tryz.underlying64 (by kernel_rfl) (by kernel_rfl) (by kernel_rfl) (by decide) (by decide) (by omega) (by unfold maxLen; omega) (by omega)) ?_
 refine zp (p_assign rfl (by conv => lhs; whnf)) ?_
 refine zn ?_
 refine zs ?_
 refine zr ?_
 refine za rfl rfl ?_
 refine zn ?_
 refine xw_block ?_
 refine xw_loop (α := Nat) (fun k => 1 ≤ k ∧ k ≤ l.length + 1) (fun k => mkF [(0, .d (.sl 1 (ints l))), (2, .d (.v (.slice none 0 0))), (3, .own 7), (4, .d (dI k))]) (fun k => mkH [(7, .row 3 1 ((onsR l k).map iv))]) (fun k => l.length + 1 - k) (1) (⟨Nat.le_refl _, by omega⟩) ?_ ?_ ?_
 exact fz ⟨sr, sr, sr, sr, trivial⟩
 exact gz ⟨by rw [← onsR_one, List.map_replicate]; rfl, trivial⟩
 intro k hk0
 refine zs ?_
 refine zr ?_
 refine zm rfl rfl ?_
 refine zm rfl rfl ?_
 refine XL.len rfl rfl rfl Tryz.underlying64 (fun hl10 => ?_)
 refine zp (p_lss rfl rfl rfl) ?_
 refine zn ?_
 refine zd rfl (fun c11 => ?_) (fun c11 => ?_)
 have hkl : k < l.length := by omega
 have h1 := (h.take (k - 1)).tot
 obtain ⟨x, hx⟩ : ∃ x, l[k - 1]? = some x := get_ex (by omega)
 have h2 := h.bd x (List.mem_of_getElem? hx)
 have ho := onsR_get (l := l) (k := k) (j := k - 1) (by omega) (by omega)
 have hol := onsR_len l k
 obtain ⟨z, hz⟩ : ∃ z, (onsR l k)[k]? = some z := get_ex (by omega)
 have htk : tot (l.take k) = tot (l.take (k - 1)) + x := by have := tot_take hx; rwa [Nat.sub_add_cancel (by omega)] at this
 refine zi ?_
 refine zs ?_
 refine xw_block ?_
 refine xw_anyP 13 [] (by kernel_rfl) (by kernel_rfl) (by kernel_rfl) (by kernel_rfl) (by decide) ?_
 refine yp (p_move rfl (by conv => lhs; whnf)) ?_
 refine ym rfl rfl ?_
 refine yp (p_move rfl (by conv => lhs; whnf)) ?_
 refine ym rfl rfl ?_
 refine yp (p_sub rfl rfl rfl (by omega) (by omega)) ?_
 refine yp (p_idx_owni rfl rfl rfl ((by omega : (k : Int) - 1 = ((k - 1 : Nat) : Int))) rfl el_64 (by omega)) ?_
 refine yp (p_load_row rfl rfl sc_3 rfl (map_get (ho)) rfl) ?_
 refine ym rfl rfl ?_
 refine ym rfl rfl ?_
 refine yp (p_sub rfl rfl rfl (by omega) (by omega)) ?_
 refine yp (p_idx_mapi rfl rfl rfl ((by omega : (k : Int) - 1 = ((k - 1 : Nat) : Int))) el_64 (hx)) ?_
 refine yp (p_load_pt rfl rfl sc_3) ?_
 refine yp (p_add rfl rfl rfl (by omega) (by omega)) ?_
 refine ChK.nil ⟨by kernel_rfl, ?_⟩
 refine zp (p_idx_ownm rfl rfl rfl rfl el_64 (by omega)) ?_
 refine XL.step rfl (st_store_row rfl rfl rfl (map_get hz) rfl rfl sz_3 rfl (Nat.le_of_ble_eq_true rfl)) ?_
 refine zn ?_
 refine xw_region (by kernel_rfl) ?_
 refine zm rfl rfl ?_
 refine zp (p_add rfl rfl rfl (by omega) (by omega)) ?_
 refine za rfl rfl ?_
 refine zn ?_
 exact k_round (k + 1) (by omega) (by omega) (fz ⟨sr, sr, sr, sr, trivial⟩) (gz ⟨sSet (a := tot (l.take k)) (by rw [htk]; rfl) (onsR_set hkl).symm, trivial⟩)
 have he := onsR_end (l := l) (k := k) (by omega)
 refine xw_exit ?_
 refine zr ?_
 refine zp (p_move rfl (by conv => lhs; whnf)) ?_
 refine zp (p_assign rfl (by conv => lhs; whnf)) ?_
 refine zn ?_
 refine zt ?_
 refine ret_freeze (i := 7) rfl ?_
 exact z1 rfl rfl (rSl he)
end Go.Proofs.YtcihalbakenleaaGreat
namespace Go.Proofs.YtcihalbakenleaaGreat
open Go.RowKit
/-- a list that is filled from its begin -/
def fillR (f : Nat → Int) (n k : Nat) : List Int := (List.range n).map fun j => if j < k then f j else 0
theorem fillR_len (f : Nat → Int) (n k : Nat) : (fillR f n k).length = n := by rw [fillR, List.length_map, List.length_range]
theorem fillR_zero (f : Nat → Int) (n : Nat) : List.replicate n (0 : Int) = fillR f n 0 := by
 rw [fillR]
 refine List.ext_getElem? fun j => ?_
 rw [List.getElem?_replicate, List.getElem?_map]
 by_cases h : j < n
 ·rw [if_pos h, List.getElem?_range h, Option.map_some, if_neg (by omega)]
 ·rw [if_neg h, List.getElem?_eq_none (by rw [List.length_range]; omega)]; rfl
theorem fillR_set {f : Nat → Int} {n k : Nat} (hk : k < n) : fillR f n (k + 1) = (fillR f n k).set k (f k) := by
 refine List.ext_getElem? fun j => ?_
 rw [List.getElem?_set]
 split
 ·rename_i h
  subst h
  rw [if_pos (by rw [fillR_len]; exact hk), fillR, List.getElem?_map, List.getElem?_range hk, Option.map_some, if_pos (by omega)]
 ·rename_i h
  rw [fillR, fillR, List.getElem?_map, List.getElem?_map]
  by_cases hj : j < n
  ·rw [List.getElem?_range hj, Option.map_some, Option.map_some]
   congr 1
   by_cases e : j < k
   ·rw [if_pos e, if_pos (by omega)]
   ·rw [if_neg e, if_neg (by omega)]
  ·rw [List.getElem?_eq_none (by rw [List.length_range]; omega)]; rfl
theorem fillR_end {f : Nat → Int} {n k : Nat} (hk : n ≤ k) : fillR f n k = (List.range n).map f := by
 rw [fillR]
 refine List.map_congr_left fun j hj => ?_
 rw [if_pos (by have := List.mem_range.1 hj; omega)]
def lenAt (l : List Ev) (j : Nat) : Int := ((l[j]?).map Ev.len).getD 0
theorem lenAt_at {l : List Ev} {k : Nat} {e : Ev} (h : l[k]? = some e) : lenAt l k = e.len := by rw [lenAt, h]; rfl
theorem lenAt_all (l : List Ev) : (List.range l.length).map (lenAt l) = wrS l := by
 refine List.ext_getElem? fun j => ?_
 rw [List.getElem?_map, wrS, List.getElem?_map]
 by_cases hj : j < l.length
 ·rw [List.getElem?_range hj, Option.map_some, lenAt, List.getElem?_eq_getElem hj]; rfl
 ·rw [List.getElem?_eq_none (by rw [List.length_range]; omega), List.getElem?_eq_none (by omega)]; rfl
theorem vwritten_xc (l : List Ev) (hE : Evs l) (hlen : l.length ≤ 128) : XC Tryz.prog 132 [.sl 13 (l.map Ev.c)] (fun r => r = .sl 1 (ints (wrS l))) := by
 refine xc_body callable_132 Tryz.func132 rfl rfl (Nat.le_of_ble_eq_true rfl) ?_
 refine zr ?_
 refine za rfl rfl ?_
 refine znr ?_
 refine zm rfl rfl ?_
 refine XL.len rfl rfl rfl Tryz.underlying22 (fun hl7 => ?_)
 refine XL.step rfl (st_make 8 (z := (.int .i64 0)) (zs := [dI 0]) (sz := 1) (bytes := 8) rfl rfl rfl Tryz.underlying64 (by kernel_rfl) (by kernel_rfl) (by kernel_rfl) (by decide) (by decide) (by omega) (by unfold maxLen; omega) (by omega)) ?_
 refine zp (p_assign rfl (by conv => lhs; whnf)) ?_
 refine zn ?_
 refine zs ?_
 refine zr ?_
 refine zm rfl rfl ?_
 refine XL.len rfl rfl rfl Tryz.underlying22 (fun hl10 => ?_)
 refine zm rfl rfl ?_
 refine zn ?_
 refine xw_block ?_
 refine xw_loop (α := Nat) (fun k => k ≤ l.length) (fun k => mkF [(2, .d (.v (.slice none 0 0))), (3, .own 8), (9, .d (.sl 13 (l.map Ev.c))), (10, .d (dI l.length)), (11, .d (dI k))]) (fun k => mkH [(8, .row 3 1 ((fillR (lenAt l) l.length k).map iv))]) (fun k => l.length - k) (0) (Nat.zero_le _) ?_ ?_ ?_
 exact fz ⟨sr, sr, sr, sr, sr, trivial⟩
 exact gz ⟨by rw [← fillR_zero, List.map_replicate]; rfl, trivial⟩
 intro k hk0
 refine zr ?_
 refine zp (p_lss rfl rfl rfl) ?_
 refine zn ?_
 refine zs ?_
 refine zd rfl (fun c12 => ?_) (fun c12 => ?_)
 have hk0a : k < l.length := by omega
 obtain ⟨x0, hx0⟩ := get_ex hk0a
 have he := hE x0 (List.mem_of_getElem? hx0)
 have hfl := fillR_len (lenAt l) l.length k
 obtain ⟨z, hz⟩ : ∃ z, (fillR (lenAt l) l.length k)[k]? = some z := get_ex (by omega)
 refine zi ?_
 refine zs ?_
 refine xw_block ?_
 refine zr ?_
 refine zm rfl rfl ?_
 refine zp (p_idx_map rfl rfl rfl el_22 hx0) ?_
 refine zp (pure_eq (s' := .d (.agg (Ev.c x0))) (p_load_pts rfl rfl agg_60 (Nat.le_of_ble_eq_true rfl)) (by kernel_rfl)) ?_
 refine XL.step rfl (st_allocN 5 (l := [.d (dI 0), .d (dI 0), .d (dI 0), .d (dI 0), .d (dI 0), .d (.v (.slice none 0 0)), .d (.v (.slice none 0 0)), .d (dI 0), .d (dI 0), .d (dI 0), .d (.v (.slice none 0 0)), .d (dI 0), .d (dI 0)]) rfl zero_60 (by kernel_rfl)) ?_
 refine za rfl rfl ?_
 refine XL.step rfl (st_storeN (l' := [.d (dI x0.site), .d (dI x0.num), .d (dI x0.kind), .d (dI x0.v.log), .d (dI x0.v.dots), .d (.sl 5 (x0.heads.map Hd.c)), .d (.sl 5 (x0.graces.map Gr.c)), .d (dI x0.art), .d (dI x0.orn), .d (dI x0.dyn), .d (.sl 2 (x0.lyr.map Sy.c)), .d (dI x0.stem), .d (dI x0.beam)]) rfl rfl rfl rfl sz_60 rfl (Nat.le_of_ble_eq_true rfl) (by kernel_rfl)) ?_
 refine zng ?_
 refine zp (p_move rfl (by conv => lhs; whnf)) ?_
 refine zm rfl rfl ?_
 refine zp (pure_eq (s' := .d (.agg (Ev.c x0))) (norm_pure (p_load_boxs rfl rfl agg_60 rfl (Nat.le_of_ble_eq_true rfl))) (by kernel_rfl)) ?_
 refine XL.call1 rfl rfl (written_xc _ (by assumption)) rfl ?_
 refine zm rfl rfl ?_
 refine zp (p_ext rfl rfl rfl) ?_
 refine zp (p_ext rfl rfl rfl) ?_
 refine zp (p_idx_ownm rfl rfl rfl rfl el_64 (by omega)) ?_
 refine XL.step rfl (st_store_row rfl rfl rfl (map_get hz) rfl rfl sz_3 rfl (Nat.le_of_ble_eq_true rfl)) ?_
 refine zn ?_
 refine xw_region (by kernel_rfl) ?_
 refine zp (p_add rfl rfl rfl (by omega) (by omega)) ?_
 refine zm rfl rfl ?_
 refine zn ?_
 exact k_round (k + 1) (by omega) (by omega) (fz ⟨sr, sr, sr, sr, sr, trivial⟩) (gz ⟨sSet (a := lenAt l k) (by rw [lenAt_at hx0]; rfl) (fillR_set hk0a), trivial⟩)
 have hk0b : k = l.length := by omega
 have he := fillR_end (f := lenAt l) (n := l.length) (k := k) (by omega)
 refine xw_exit ?_
 refine zr ?_
 refine zp (p_move rfl (by conv => lhs; whnf)) ?_
 refine zp (p_assign rfl (by conv => lhs; whnf)) ?_
 refine zn ?_
 refine zt ?_
 refine ret_freeze (i := 8) rfl ?_
 exact z1 rfl rfl (rSl (by rw [he, lenAt_all]))
def Vo.whole (v : Vo) : Prop := match v.evs with | [] => False | e :: _ => e.kind = 3
instance (v : Vo) : Decidable v.whole := by unfold Vo.whole; cases v.evs <;> exact inferInstance
theorem whole_at {v : Vo} {e : Ev} (h : v.evs[0]? = some e) : v.whole ↔ e.kind = 3 := by
 unfold Vo.whole
 cases hv : v.evs with
 | nil => rw [hv] at h; cases h
 | cons x l => rw [hv] at h; cases h; exact Iff.rfl
theorem whole_no {v : Vo} (h : ¬ 0 < (v.evs.length : Int)) : ¬ v.whole := by
 unfold Vo.whole
 cases hv : v.evs with
 | nil => exact fun h => h
 | cons x l => rw [hv] at h; simp at h
def Vo.absent (v : Vo) : Prop := v.evs.length = 0 ∧ v.tups.length = 0
instance (v : Vo) : Decidable v.absent := by unfold Vo.absent; exact inferInstance
theorem whole_xc (v : Vo) : XC Tryz.prog 87 [.agg (Vo.c v)] (fun r => r = dB (decide v.whole)) := by
 refine xc_body callable_87 Tryz.func87 rfl rfl (Nat.le_of_ble_eq_true rfl) ?_
 refine zr ?_
 refine XL.step rfl (st_boxN 1 (l := [.d (.sl 13 (v.evs.map Ev.c)), .d (.sl 4 (v.tups.map Tp.c))]) rfl rfl (by kernel_rfl)) ?_
 refine za rfl rfl ?_
 refine znr ?_
 refine zp (p_fld_ptr rfl rfl fld_25_0) ?_
 refine zp (p_load_box rfl rfl sc_22 rfl rfl) ?_
 refine XL.len rfl rfl rfl Tryz.underlying22 (fun hl5 => ?_)
 refine zp (p_gtr rfl rfl rfl) ?_
 refine zm rfl rfl ?_
 refine XL.dec 7 rfl (fun g7 => ?_) (fun g7 => ?_)
 obtain ⟨e, he⟩ : ∃ e, v.evs[0]? = some e := get_ex (by omega)
 refine zp (p_fld_ptr rfl rfl fld_25_0) ?_
 refine zp (p_load_box rfl rfl sc_22 rfl rfl) ?_
 refine zp (p_idx_map (k := 0) rfl rfl rfl el_22 (he)) ?_
 refine zp (p_fld_pt rfl rfl fld_60_1) ?_
 refine zp (p_load_pt rfl rfl sc_3) ?_
 refine zp (p_eql rfl rfl rfl) ?_
 refine zq rfl rfl rfl ?_
 refine za rfl rfl ?_
 refine zn ?_
 refine zt ?_
 exact z1 rfl rfl (rB (by rw [decide_eq_decide]; exact (whole_at he).symm))
 refine zk 6 rfl ?_
 refine zq rfl rfl rfl ?_
 refine za rfl rfl ?_
 refine zn ?_
 refine zt ?_
 exact z1 rfl rfl (rB (by rw [eq_comm, decide_eq_false_iff_not]; exact whole_no g7))
theorem vabsent_xc (v : Vo) : XC Tryz.prog 47 [.agg (Vo.c v)] (fun r => r = dB (decide v.absent)) := by
 refine xc_body callable_47 Tryz.func47 rfl rfl (Nat.le_of_ble_eq_true rfl) ?_
 refine zr ?_
 refine XL.step rfl (st_boxN 1 (l := [.d (.sl 13 (v.evs.map Ev.c)), .d (.sl 4 (v.tups.map Tp.c))]) rfl rfl (by kernel_rfl)) ?_
 refine za rfl rfl ?_
 refine znr ?_
 refine zp (p_fld_ptr rfl rfl fld_25_0) ?_
 refine zp (p_load_box rfl rfl sc_22 rfl rfl) ?_
 refine XL.len rfl rfl rfl Tryz.underlying22 (fun hl5 => ?_)
 refine zp (p_eql rfl rfl rfl) ?_
 refine zm rfl rfl ?_
 refine XL.dec 7 rfl (fun g7 => ?_) (fun g7 => ?_)
 refine zp (p_fld_ptr rfl rfl fld_25_1) ?_
 refine zp (p_load_box rfl rfl sc_23 rfl rfl) ?_
 refine XL.len rfl rfl rfl Tryz.underlying23 (fun hl10 => ?_)
 refine zp (p_eql rfl rfl rfl) ?_
 refine zq rfl rfl rfl ?_
 refine za rfl rfl ?_
 refine zn ?_
 refine zt ?_
 exact z1 rfl rfl (rB (by rw [decide_eq_decide]; unfold Vo.absent; omega))
 refine zk 4 rfl ?_
 refine zq rfl rfl rfl ?_
 refine za rfl rfl ?_
 refine zn ?_
 refine zt ?_
 exact z1 rfl rfl (rB (by rw [eq_comm, decide_eq_false_iff_not]; unfold Vo.absent; omega))
/-- the first error of the events of a voice with n of them -/
def inGo (n : Nat) : Nat → List Ev → Int
 | _, [] => 0
 | k, e :: r => if e.err ≠ 0 then e.err else if e.kind = 3 ∧ (0 < k ∨ 1 < n) then 11 else inGo n (k + 1) r
def innE (v : Vo) : Int :=
 if inGo v.evs.length 0 v.evs ≠ 0 then inGo v.evs.length 0 v.evs else if tlenE v.tups (wrS v.evs) ≠ 0 then tlenE v.tups (wrS v.evs) else if tunitE v.tups (wrS v.evs) ≠ 0 then 21 else 0
def innL (v : Vo) : List Int := if innE v = 0 then tlens v.tups (wrS v.evs) else []
theorem inGo_err {n k : Nat} {l : List Ev} {e : Ev} (h : l[k]? = some e) (he : e.err ≠ 0) : inGo n k (l.drop k) = e.err := by rw [drop_cons h, inGo, if_pos he]
theorem inGo_kind {n k : Nat} {l : List Ev} {e : Ev} (h : l[k]? = some e) (he : ¬ e.err ≠ 0) (hk : e.kind = 3 ∧ (0 < k ∨ 1 < n)) : inGo n k (l.drop k) = 11 := by rw [drop_cons h, inGo, if_neg he, if_pos hk]
theorem inGo_next {n k : Nat} {l : List Ev} {e : Ev} (h : l[k]? = some e) (he : ¬ e.err ≠ 0) (hk : ¬ (e.kind = 3 ∧ (0 < k ∨ 1 < n))) : inGo n k (l.drop k) = inGo n (k + 1) (l.drop (k + 1)) := by rw [drop_cons h, inGo, if_neg he, if_neg hk]
theorem inn_1 {v : Vo} {e : Int} (he : e = inGo v.evs.length 0 v.evs) (hn : e ≠ 0) : [] = innL v ∧ e = innE v := by
 have e2 : innE v = e := by rw [innE, ← he, if_pos hn]
 exact ⟨by rw [innL, e2, if_neg hn], e2.symm⟩
theorem inn_2 {v : Vo} (h : inGo v.evs.length 0 v.evs = 0) (hn : tlenE v.tups (wrS v.evs) ≠ 0) : [] = innL v ∧ tlenE v.tups (wrS v.evs) = innE v := by
 have e2 : innE v = tlenE v.tups (wrS v.evs) := by rw [innE, if_neg (by omega), if_pos hn]
 exact ⟨by rw [innL, e2, if_neg hn], e2.symm⟩
theorem inn_3 {v : Vo} (h : inGo v.evs.length 0 v.evs = 0) (h2 : ¬ tlenE v.tups (wrS v.evs) ≠ 0) (hn : tunitE v.tups (wrS v.evs) ≠ 0) : [] = innL v ∧ 21 = innE v := by
 have e2 : innE v = 21 := by rw [innE, if_neg (by omega), if_neg h2, if_pos hn]
 exact ⟨by rw [innL, e2, if_neg (by decide)], e2.symm⟩
theorem inn_4 {v : Vo} (h : inGo v.evs.length 0 v.evs = 0) (h2 : ¬ tlenE v.tups (wrS v.evs) ≠ 0) (h3 : ¬ tunitE v.tups (wrS v.evs) ≠ 0) : tlens v.tups (wrS v.evs) = innL v ∧ 0 = innE v := by
 have e2 : innE v = 0 := by rw [innE, if_neg (by omega), if_neg h2, if_neg h3]
 exact ⟨by rw [innL, e2, if_pos rfl], e2.symm⟩
theorem inner_xc (v : Vo) (hE : Evs v.evs) (hlen : v.evs.length ≤ 128) : XC Tryz.prog 88 [.agg (Vo.c v)] (fun r => r = .tup [.sl 1 (ints (innL v)), dI (innE v)]) := by
 refine xc_body callable_88 Tryz.func88 rfl rfl (Nat.le_of_ble_eq_true rfl) ?_
 refine zr ?_
 refine XL.step rfl (st_boxN 1 (l := [.d (.sl 13 (v.evs.map Ev.c)), .d (.sl 4 (v.tups.map Tp.c))]) rfl rfl (by kernel_rfl)) ?_
 refine za rfl rfl ?_
 refine za rfl rfl ?_
 refine zn ?_
 refine zs ?_
 refine zr ?_
 refine zp (p_fld_ptr rfl rfl fld_25_0) ?_
 refine zp (p_load_box rfl rfl sc_22 rfl rfl) ?_
 refine XL.len rfl rfl rfl Tryz.underlying22 (fun hl14 => ?_)
 refine zm rfl rfl ?_
 refine zn ?_
 refine xw_block ?_
 refine xw_loop (α := Nat) (fun k => k ≤ v.evs.length ∧ inGo v.evs.length k (v.evs.drop k) = inGo v.evs.length 0 v.evs) (fun k => mkF [(1, .ptr 1 0 0), (13, .d (.sl 13 (v.evs.map Ev.c))), (14, .d (dI v.evs.length)), (15, .d (dI k))]) (fun k => mkH [(1, .box ((Vo.c v).map S.d))]) (fun k => v.evs.length - k) (0) (⟨Nat.zero_le _, by rw [List.drop_zero]⟩) ?_ ?_ ?_
 exact fz ⟨sr, sr, sr, sr, trivial⟩
 exact gz ⟨rfl, trivial⟩
 intro k hk0
 obtain ⟨hk, hgo⟩ := hk0
 refine zr ?_
 refine zp (p_lss rfl rfl rfl) ?_
 refine zn ?_
 refine zs ?_
 refine zd rfl (fun c16 => ?_) (fun c16 => ?_)
 have hk0a : k < v.evs.length := by omega
 obtain ⟨x0, hx0⟩ := get_ex hk0a
 have he := hE x0 (List.mem_of_getElem? hx0)
 refine zi ?_
 refine zs ?_
 refine xw_block ?_
 refine zr ?_
 refine zm rfl rfl ?_
 refine zp (p_idx_map rfl rfl rfl el_22 hx0) ?_
 refine zp (pure_eq (s' := .d (.agg (Ev.c x0))) (p_load_pts rfl rfl agg_60 (Nat.le_of_ble_eq_true rfl)) (by kernel_rfl)) ?_
 refine XL.step rfl (st_allocN 5 (l := [.d (dI 0), .d (dI 0), .d (dI 0), .d (dI 0), .d (dI 0), .d (.v (.slice none 0 0)), .d (.v (.slice none 0 0)), .d (dI 0), .d (dI 0), .d (dI 0), .d (.v (.slice none 0 0)), .d (dI 0), .d (dI 0)]) rfl zero_60 (by kernel_rfl)) ?_
 refine za rfl rfl ?_
 refine XL.step rfl (st_storeN (l' := [.d (dI x0.site), .d (dI x0.num), .d (dI x0.kind), .d (dI x0.v.log), .d (dI x0.v.dots), .d (.sl 5 (x0.heads.map Hd.c)), .d (.sl 5 (x0.graces.map Gr.c)), .d (dI x0.art), .d (dI x0.orn), .d (dI x0.dyn), .d (.sl 2 (x0.lyr.map Sy.c)), .d (dI x0.stem), .d (dI x0.beam)]) rfl rfl rfl rfl sz_60 rfl (Nat.le_of_ble_eq_true rfl) (by kernel_rfl)) ?_
 refine zn ?_
 refine zs ?_
 refine zr ?_
 refine zp (pure_eq (s' := .d (.agg (Ev.c x0))) (norm_pure (p_load_boxs rfl rfl agg_60 rfl (Nat.le_of_ble_eq_true rfl))) (by kernel_rfl)) ?_
 refine XL.call1 rfl rfl (echeck_xc _ (by assumption)) rfl ?_
 refine za rfl rfl ?_
 refine znr ?_
 refine zm rfl rfl ?_
 refine zp (p_neq rfl rfl rfl) ?_
 refine zn ?_
 refine zd rfl (fun c23 => ?_) (fun c23 => ?_)
 refine zr ?_
 refine zm rfl rfl ?_
 refine za rfl rfl ?_
 refine za rfl rfl ?_
 refine zn ?_
 refine zt ?_
 exact ret2 rfl (RV.nil (sz := 1) rfl rfl) (RV.tmp rfl rfl) (r2 (rSl (inn_1 (by rw [← hgo, inGo_err hx0 c23]) c23).1) (rI (inn_1 (by rw [← hgo, inGo_err hx0 c23]) c23).2))
 refine zi ?_
 refine zr ?_
 refine zp (p_fld_ptr rfl rfl fld_60_1) ?_
 refine zp (p_load_box rfl rfl sc_3 rfl rfl) ?_
 refine zp (p_eql rfl rfl rfl) ?_
 refine zm rfl rfl ?_
 refine XL.dec 28 rfl (fun g28 => ?_) (fun g28 => ?_)
 refine zm rfl rfl ?_
 refine zp (p_gtr rfl rfl rfl) ?_
 refine zm rfl rfl ?_
 refine XL.dec 31 rfl (fun g31 => ?_) (fun g31 => ?_)
 refine zk 4 rfl ?_
 refine zq rfl rfl rfl ?_
 refine zq rfl rfl rfl ?_
 refine zn ?_
 refine xw_true (by kernel_rfl) rfl ?_
 refine zr ?_
 refine za rfl rfl ?_
 refine za rfl rfl ?_
 refine zn ?_
 refine zt ?_
 exact ret2 rfl (RV.nil (sz := 1) rfl rfl) (RV.tmp rfl rfl) (r2 (rSl (inn_1 (e := 11) (by rw [← hgo, inGo_kind hx0 c23 (by omega)]) (by decide)).1) (rI (inn_1 (by rw [← hgo, inGo_kind hx0 c23 (by omega)]) (by decide)).2))
 refine zp (p_fld_ptr rfl rfl fld_25_0) ?_
 refine zp (p_load_box rfl rfl sc_22 rfl rfl) ?_
 refine XL.len rfl rfl rfl Tryz.underlying22 (fun hl34 => ?_)
 refine zp (p_gtr rfl rfl rfl) ?_
 refine zq rfl rfl rfl ?_
 refine zq rfl rfl rfl ?_
 refine zn ?_
 refine zd rfl (fun c37 => ?_) (fun c37 => ?_)
 refine zr ?_
 refine za rfl rfl ?_
 refine za rfl rfl ?_
 refine zn ?_
 refine zt ?_
 exact ret2 rfl (RV.nil (sz := 1) rfl rfl) (RV.tmp rfl rfl) (r2 (rSl (inn_1 (e := 11) (by rw [← hgo, inGo_kind hx0 c23 (by omega)]) (by decide)).1) (rI (inn_1 (by rw [← hgo, inGo_kind hx0 c23 (by omega)]) (by decide)).2))
 refine zi ?_
 refine xw_region (by kernel_rfl) ?_
 refine zp (p_add rfl rfl rfl (by omega) (by omega)) ?_
 refine zm rfl rfl ?_
 refine zn ?_
 exact k_round (k + 1) (⟨by omega, by rw [← inGo_next hx0 c23 (by omega)]; exact hgo⟩) (by omega) (fz ⟨sr, sr, sr, sr, trivial⟩) (gz ⟨rfl, trivial⟩)
 refine zk 8 rfl ?_
 refine zq rfl rfl rfl ?_
 refine zn ?_
 refine xw_false (by kernel_rfl) rfl ?_
 refine zi ?_
 refine xw_region (by kernel_rfl) ?_
 refine zp (p_add rfl rfl rfl (by omega) (by omega)) ?_
 refine zm rfl rfl ?_
 refine zn ?_
 exact k_round (k + 1) (⟨by omega, by rw [← inGo_next hx0 c23 (by omega)]; exact hgo⟩) (by omega) (fz ⟨sr, sr, sr, sr, trivial⟩) (gz ⟨rfl, trivial⟩)
 have hk0b : k = v.evs.length := by omega
 have hz : inGo v.evs.length 0 v.evs = 0 := by rw [← hgo, hk0b, List.drop_length]; rfl
 refine xw_exit ?_
 refine zr ?_
 refine zp (p_fld_ptr rfl rfl fld_25_0) ?_
 refine zp (p_load_box rfl rfl sc_22 rfl rfl) ?_
 refine XL.call1 rfl rfl (vwritten_xc _ (by assumption) (by omega)) rfl ?_
 refine za rfl rfl ?_
 refine znr ?_
 refine zp (p_fld_ptr rfl rfl fld_25_1) ?_
 refine zp (p_load_box rfl rfl sc_23 rfl rfl) ?_
 refine zm rfl rfl ?_
 refine XL.call1 rfl rfl (tlengths_xc _ _) rfl ?_
 refine zm rfl rfl ?_
 refine zp (p_ext rfl rfl rfl) ?_
 refine zp (p_ext rfl rfl rfl) ?_
 refine za rfl rfl ?_
 refine za rfl rfl ?_
 refine zn ?_
 refine zs ?_
 refine zr ?_
 refine zm rfl rfl ?_
 refine zp (p_neq rfl rfl rfl) ?_
 refine zn ?_
 refine zd rfl (fun c50 => ?_) (fun c50 => ?_)
 refine zr ?_
 refine zm rfl rfl ?_
 refine za rfl rfl ?_
 refine za rfl rfl ?_
 refine zn ?_
 refine zt ?_
 exact ret2 rfl (RV.nil (sz := 1) rfl rfl) (RV.tmp rfl rfl) (r2 (rSl (inn_2 hz c50).1) (rI (inn_2 hz c50).2))
 refine zi ?_
 refine zs ?_
 refine zr ?_
 refine zp (p_fld_ptr rfl rfl fld_25_1) ?_
 refine zp (p_load_box rfl rfl sc_23 rfl rfl) ?_
 refine zm rfl rfl ?_
 refine XL.call1 rfl rfl (units_xc _ _) rfl ?_
 refine zm rfl rfl ?_
 refine zp (p_ext rfl rfl rfl) ?_
 refine zp (p_ext rfl rfl rfl) ?_
 refine za rfl rfl ?_
 refine za rfl rfl ?_
 refine znr ?_
 refine zm rfl rfl ?_
 refine zp (p_neq rfl rfl rfl) ?_
 refine zn ?_
 refine zd rfl (fun c60 => ?_) (fun c60 => ?_)
 refine zr ?_
 refine za rfl rfl ?_
 refine za rfl rfl ?_
 refine zn ?_
 refine zt ?_
 exact ret2 rfl (RV.nil (sz := 1) rfl rfl) (RV.tmp rfl rfl) (r2 (rSl (inn_3 hz c50 c60).1) (rI (inn_3 hz c50 c60).2))
 refine zi ?_
 refine zr ?_
 refine zm rfl rfl ?_
 refine za rfl rfl ?_
 refine za rfl rfl ?_
 refine zn ?_
 refine zt ?_
 exact ret2 rfl (RV.tmp rfl rfl) (RV.tmp rfl rfl) (r2 (rSl (inn_4 hz c50 c60).1) (rI (inn_4 hz c50 c60).2))
/-- lengths and the error but ErrLength; checked: with it -/
def lenE (v : Vo) (L : Int) : Int :=
 if L < 1 ∨ 15482880 < L then 2 else if 128 < v.evs.length then 9 else
 if v.whole ∧ v.evs.length = 1 then (match v.evs with | [] => 0 | e :: _ => if e.err ≠ 0 then e.err else if 0 < v.tups.length then 21 else 0) else innE v
def lenL (v : Vo) (L : Int) : List Int := if lenE v L ≠ 0 then [] else if v.whole ∧ v.evs.length = 1 then [L] else innL v
def ckE (v : Vo) (L : Int) : Int := if lenE v L = 0 ∧ 0 < (lenL v L).length ∧ tot (lenL v L) ≠ L then 20 else lenE v L
def ckL (v : Vo) (L : Int) : List Int := if ckE v L ≠ 0 then [] else lenL v L
theorem len_a {v : Vo} {L : Int} (h : L < 1 ∨ 15482880 < L) : [] = lenL v L ∧ 2 = lenE v L := by
 have e : lenE v L = 2 := by rw [lenE, if_pos h]
 exact ⟨by rw [lenL, e, if_pos (by decide)], e.symm⟩
theorem len_b {v : Vo} {L : Int} (h : ¬ L < 1) (h' : ¬ 15482880 < L) (h2 : 128 < (v.evs.length : Int)) : [] = lenL v L ∧ 9 = lenE v L := by
 have e : lenE v L = 9 := by rw [lenE, if_neg (by omega), if_pos (by omega)]
 exact ⟨by rw [lenL, e, if_pos (by decide)], e.symm⟩
theorem len_c {v : Vo} {L : Int} (h : ¬ L < 1) (h' : ¬ 15482880 < L) (h2 : ¬ 128 < (v.evs.length : Int)) (hw : v.whole) (h1 : (v.evs.length : Int) = 1) {e : Ev} (he : v.evs[0]? = some e) :
  lenE v L = (if e.err ≠ 0 then e.err else if 0 < v.tups.length then 21 else 0) := by
 rw [lenE, if_neg (by omega), if_neg (by omega), if_pos ⟨hw, by omega⟩]
 cases hv : v.evs with
 | nil => rw [hv] at he; cases he
 | cons x l => rw [hv] at he; cases he; rfl
theorem len_d {v : Vo} {L : Int} (h : ¬ L < 1) (h' : ¬ 15482880 < L) (h2 : ¬ 128 < (v.evs.length : Int)) (hw : ¬ (v.whole ∧ (v.evs.length : Int) = 1)) : innL v = lenL v L ∧ innE v = lenE v L := by
 have hw' : ¬ (v.whole ∧ v.evs.length = 1) := fun k => hw ⟨k.1, by omega⟩
 have e : lenE v L = innE v := by rw [lenE, if_neg (by omega), if_neg (by omega), if_neg hw']
 refine ⟨?_, e.symm⟩
 rw [lenL, e, if_neg hw']
 split
 ·rename_i hn; rw [innL, if_neg hn]
 ·rfl
theorem len_c1 {v : Vo} {L a : Int} (h : lenE v L = a) (ha : a ≠ 0) : [] = lenL v L ∧ a = lenE v L := ⟨by rw [lenL, h, if_pos ha], h.symm⟩
theorem len_c2 {v : Vo} {L : Int} (h : lenE v L = 0) (hw : v.whole) (h1 : (v.evs.length : Int) = 1) : [L] = lenL v L ∧ 0 = lenE v L := ⟨by rw [lenL, h, if_neg (by decide), if_pos ⟨hw, by omega⟩], h.symm⟩
theorem lengths_xc (v : Vo) (L : Int) (hE : Evs v.evs) : XC Tryz.prog 71 [.agg (Vo.c v), .v (.int .i64 L)] (fun r => r = .tup [.sl 1 (ints (lenL v L)), dI (lenE v L)]) := by
 refine xc_body callable_71 Tryz.func71 rfl rfl (Nat.le_of_ble_eq_true rfl) ?_
 refine zr ?_
 refine XL.step rfl (st_boxN 2 (l := [.d (.sl 13 (v.evs.map Ev.c)), .d (.sl 4 (v.tups.map Tp.c))]) rfl rfl (by kernel_rfl)) ?_
 refine za rfl rfl ?_
 refine za rfl rfl ?_
 refine zn ?_
 refine zs ?_
 refine xw_block ?_
 refine zr ?_
 refine zm rfl rfl ?_
 refine zp (p_lss rfl rfl rfl) ?_
 refine zm rfl rfl ?_
 refine XL.dec 10 rfl (fun g10 => ?_) (fun g10 => ?_)
 refine zk 2 rfl ?_
 refine zq rfl rfl rfl ?_
 refine za rfl rfl ?_
 refine zn ?_
 refine xw_true (by kernel_rfl) rfl ?_
 refine zr ?_
 refine za rfl rfl ?_
 refine za rfl rfl ?_
 refine zn ?_
 refine zt ?_
 exact ret2 rfl (RV.nil (sz := 1) rfl rfl) (RV.tmp rfl rfl) (r2 (rSl (len_a (v := v) (by omega)).1) (rI (len_a (v := v) (by omega)).2))
 refine zm rfl rfl ?_
 refine zp (p_gtr rfl rfl rfl) ?_
 refine zq rfl rfl rfl ?_
 refine za rfl rfl ?_
 refine zn ?_
 refine zd rfl (fun c7 => ?_) (fun c7 => ?_)
 refine zr ?_
 refine za rfl rfl ?_
 refine za rfl rfl ?_
 refine zn ?_
 refine zt ?_
 exact ret2 rfl (RV.nil (sz := 1) rfl rfl) (RV.tmp rfl rfl) (r2 (rSl (len_a (v := v) (by omega)).1) (rI (len_a (v := v) (by omega)).2))
 refine zr ?_
 refine zp (p_fld_ptr rfl rfl fld_25_0) ?_
 refine zp (p_load_box rfl rfl sc_22 rfl rfl) ?_
 refine XL.len rfl rfl rfl Tryz.underlying22 (fun hl17 => ?_)
 refine zp (p_gtr rfl rfl rfl) ?_
 refine za rfl rfl ?_
 refine zn ?_
 refine zd rfl (fun c14 => ?_) (fun c14 => ?_)
 refine zr ?_
 refine za rfl rfl ?_
 refine za rfl rfl ?_
 refine zn ?_
 refine zt ?_
 exact ret2 rfl (RV.nil (sz := 1) rfl rfl) (RV.tmp rfl rfl) (r2 (rSl (len_b g10 c7 c14).1) (rI (len_b g10 c7 c14).2))
 refine zi ?_
 refine zs ?_
 refine zr ?_
 refine zp (pure_eq (s' := .d (.agg (Vo.c v))) (norm_pure (p_load_boxs rfl rfl agg_25 rfl (Nat.le_of_ble_eq_true rfl))) (by kernel_rfl)) ?_
 refine XL.call1 rfl rfl (whole_xc _) rfl ?_
 refine zm rfl rfl ?_
 refine XL.dec 21 rfl (fun g21 => ?_) (fun g21 => ?_)
 refine zp (p_fld_ptr rfl rfl fld_25_0) ?_
 refine zp (p_load_box rfl rfl sc_22 rfl rfl) ?_
 refine XL.len rfl rfl rfl Tryz.underlying22 (fun hl24 => ?_)
 refine zp (p_eql rfl rfl rfl) ?_
 refine zq rfl rfl rfl ?_
 refine zn ?_
 refine zd rfl (fun c26 => ?_) (fun c26 => ?_)
 refine zs ?_
 refine zs ?_
 obtain ⟨e, hxe⟩ : ∃ e, v.evs[0]? = some e := get_ex (by omega)
 have he := hE e (List.mem_of_getElem? hxe)
 have hle := len_c (L := L) g10 c7 c14 g21 c26 hxe
 refine xw_region (by kernel_rfl) ?_
 refine zp (p_fld_ptr rfl rfl fld_25_0) ?_
 refine zp (p_load_box rfl rfl sc_22 rfl rfl) ?_
 refine zp (p_idx_map (k := 0) rfl rfl rfl el_22 (hxe)) ?_
 refine zp (pure_eq (s' := .d (.agg (Ev.c e))) (p_load_pts rfl rfl agg_60 (Nat.le_of_ble_eq_true rfl)) (by kernel_rfl)) ?_
 refine XL.call1 rfl rfl (echeck_xc _ (by assumption)) rfl ?_
 refine za rfl rfl ?_
 refine znr ?_
 refine zm rfl rfl ?_
 refine zp (p_neq rfl rfl rfl) ?_
 refine zn ?_
 refine zd rfl (fun c33 => ?_) (fun c33 => ?_)
 refine zr ?_
 refine zm rfl rfl ?_
 refine za rfl rfl ?_
 refine za rfl rfl ?_
 refine zn ?_
 refine zt ?_
 exact ret2 rfl (RV.nil (sz := 1) rfl rfl) (RV.tmp rfl rfl) (r2 (rSl (len_c1 (by rw [hle, if_pos c33]) c33).1) (rI (len_c1 (by rw [hle, if_pos c33]) c33).2))
 refine zi ?_
 refine zs ?_
 refine zr ?_
 refine zp (p_fld_ptr rfl rfl fld_25_1) ?_
 refine zp (p_load_box rfl rfl sc_23 rfl rfl) ?_
 refine XL.len rfl rfl rfl Tryz.underlying23 (fun hl37 => ?_)
 refine zp (p_gtr rfl rfl rfl) ?_
 refine zn ?_
 refine zd rfl (fun c38 => ?_) (fun c38 => ?_)
 refine zr ?_
 refine za rfl rfl ?_
 refine za rfl rfl ?_
 refine zn ?_
 refine zt ?_
 exact ret2 rfl (RV.nil (sz := 1) rfl rfl) (RV.tmp rfl rfl) (r2 (rSl (len_c1 (a := 21) (by rw [hle, if_neg c33, if_pos (by omega)]) (by decide)).1) (rI (len_c1 (a := 21) (by rw [hle, if_neg c33, if_pos (by omega)]) (by decide)).2))
 refine zi ?_
 refine zr ?_
 refine zm rfl rfl ?_
 refine XL.step rfl (st_slice 40 rfl Tryz.underlying64 sz_3 zero_3 rfl rfl (by omega) (by omega)) ?_
 refine zp (p_assign rfl (by conv => lhs; whnf)) ?_
 refine za rfl rfl ?_
 refine zn ?_
 refine zt ?_
 refine ret_freeze (i := 40) rfl ?_
 exact ret2 rfl (RV.tmp rfl rfl) (RV.tmp rfl rfl) (r2 (rSl (l := [L]) (g := iv) (len_c2 (by rw [hle, if_neg c33, if_neg (by omega)]) g21 c26).1) (rI (len_c2 (by rw [hle, if_neg c33, if_neg (by omega)]) g21 c26).2))
 refine zi ?_
 refine zr ?_
 refine zp (pure_eq (s' := .d (.agg (Vo.c v))) (norm_pure (p_load_boxs rfl rfl agg_25 rfl (Nat.le_of_ble_eq_true rfl))) (by kernel_rfl)) ?_
 refine XL.call1 rfl rfl (inner_xc _ (by assumption) (by omega)) rfl ?_
 refine zp (p_ext rfl rfl rfl) ?_
 refine zp (p_ext rfl rfl rfl) ?_
 refine za rfl rfl ?_
 refine za rfl rfl ?_
 refine zn ?_
 refine zt ?_
 exact ret2 rfl (RV.tmp rfl rfl) (RV.tmp rfl rfl) (r2 (rSl (len_d g10 c7 c14 (fun h => c26 h.2)).1) (rI (len_d g10 c7 c14 (fun h => c26 h.2)).2))
 refine zk 4 rfl ?_
 refine zq rfl rfl rfl ?_
 refine zn ?_
 refine xw_false (by kernel_rfl) rfl ?_
 refine zi ?_
 refine zr ?_
 refine zp (pure_eq (s' := .d (.agg (Vo.c v))) (norm_pure (p_load_boxs rfl rfl agg_25 rfl (Nat.le_of_ble_eq_true rfl))) (by kernel_rfl)) ?_
 refine XL.call1 rfl rfl (inner_xc _ (by assumption) (by omega)) rfl ?_
 refine zp (p_ext rfl rfl rfl) ?_
 refine zp (p_ext rfl rfl rfl) ?_
 refine za rfl rfl ?_
 refine za rfl rfl ?_
 refine zn ?_
 refine zt ?_
 exact ret2 rfl (RV.tmp rfl rfl) (RV.tmp rfl rfl) (r2 (rSl (len_d g10 c7 c14 (fun h => g21 h.1)).1) (rI (len_d g10 c7 c14 (fun h => g21 h.1)).2))
end Go.Proofs.YtcihalbakenleaaGreat
namespace Go.Proofs.YtcihalbakenleaaGreat
open Go.RowKit
theorem nums_go {l : List Tp} {n : Int} (hT : Tups l n) (ws : List Int) : ∀ i x, x ∈ lensGo l i ws → 0 ≤ x ∧ x ≤ 253671505920 := by
 induction ws with
 | nil => intro i x h; cases h
 | cons w r ih =>
  intro i x h
  rw [lensGo] at h
  rcases List.mem_cons.1 h with e | e
  ·rw [e]; exact scale_bd hT.ok (hT.hits i)
  ·exact ih _ _ e
theorem nums_tlens (l : List Tp) (ws : List Int) : Nums (tlens l ws) := by
 unfold tlens
 split
 ·rename_i h
  have hT := tlen_tups (show ¬ tlenE l ws ≠ 0 by omega)
  have hb := hT.bd
  exact ⟨by rw [lensGo_len]; omega, nums_go hT ws 0⟩
 ·exact ⟨by simp, fun x h => by cases h⟩
theorem nums_nil : Nums [] := ⟨by simp, fun x h => by cases h⟩
theorem nums_innL (v : Vo) : Nums (innL v) := by
 unfold innL
 split
 ·exact nums_tlens _ _
 ·exact nums_nil
theorem nums_lenL (v : Vo) (L : Int) : Nums (lenL v L) := by
 unfold lenL
 split
 ·exact nums_nil
 ·rename_i h
  split
  ·refine ⟨by simp, fun x hx => ?_⟩
   rw [List.mem_singleton.1 hx]
   unfold lenE at h
   split at h
   ·omega
   ·omega
  ·exact nums_innL v
theorem nums_ckL (v : Vo) (L : Int) : Nums (ckL v L) := by
 unfold ckL
 split
 ·exact nums_nil
 ·exact nums_lenL v L
theorem ck_1 {v : Vo} {L : Int} (h0 : lenE v L = 0) (h1 : 0 < ((lenL v L).length : Int)) (h2 : tot (lenL v L) ≠ L) : [] = ckL v L ∧ 20 = ckE v L := by
 have e : ckE v L = 20 := by rw [ckE, if_pos ⟨h0, by omega, h2⟩]
 exact ⟨by rw [ckL, e, if_pos (by decide)], e.symm⟩
theorem ck_2 {v : Vo} {L : Int} (h0 : lenE v L = 0) (h : ¬ (0 < ((lenL v L).length : Int) ∧ tot (lenL v L) ≠ L)) : lenL v L = ckL v L ∧ 0 = ckE v L := by
 have e : ckE v L = 0 := by rw [ckE, if_neg (fun k => h ⟨by omega, k.2.2⟩), h0]
 exact ⟨by rw [ckL, e, if_neg (by decide)], e.symm⟩
theorem ck_3 {v : Vo} {L : Int} (h : lenE v L ≠ 0) : [] = ckL v L ∧ lenE v L = ckE v L := by
 have e : ckE v L = lenE v L := by rw [ckE, if_neg (fun k => h k.1)]
 exact ⟨by rw [ckL, e, if_pos h], e.symm⟩
theorem checked_xc (v : Vo) (L : Int) (hE : Evs v.evs) : XC Tryz.prog 68 [.agg (Vo.c v), .v (.int .i64 L)] (fun r => r = .tup [.sl 1 (ints (ckL v L)), dI (ckE v L)]) := by
 have hN := nums_lenL v L
 refine xc_body callable_68 Tryz.func68 rfl rfl (Nat.le_of_ble_eq_true rfl) ?_
 refine zr ?_
 refine XL.step rfl (st_boxN 2 (l := [.d (.sl 13 (v.evs.map Ev.c)), .d (.sl 4 (v.tups.map Tp.c))]) rfl rfl (by kernel_rfl)) ?_
 refine za rfl rfl ?_
 refine za rfl rfl ?_
 refine znr ?_
 refine zp (pure_eq (s' := .d (.agg (Vo.c v))) (norm_pure (p_load_boxs rfl rfl agg_25 rfl (Nat.le_of_ble_eq_true rfl))) (by kernel_rfl)) ?_
 refine zm rfl rfl ?_
 refine XL.call1 rfl rfl (lengths_xc _ _ (by assumption)) rfl ?_
 refine zm rfl rfl ?_
 refine zp (p_ext rfl rfl rfl) ?_
 refine zp (p_ext rfl rfl rfl) ?_
 refine za rfl rfl ?_
 refine za rfl rfl ?_
 refine zn ?_
 refine zs ?_
 refine zr ?_
 refine zm rfl rfl ?_
 refine zp (p_eql rfl rfl rfl) ?_
 refine zm rfl rfl ?_
 refine XL.dec 16 rfl (fun g16 => ?_) (fun g16 => ?_)
 refine zm rfl rfl ?_
 refine XL.len rfl rfl rfl Tryz.underlying64 (fun hl18 => ?_)
 refine zp (p_gtr rfl rfl rfl) ?_
 refine zq rfl rfl rfl ?_
 refine zm rfl rfl ?_
 refine XL.dec 21 rfl (fun g21 => ?_) (fun g21 => ?_)
 refine zm rfl rfl ?_
 refine XL.call1 rfl rfl (total_xc _ (by assumption)) rfl ?_
 refine zm rfl rfl ?_
 refine zp (p_neq rfl rfl rfl) ?_
 refine zq rfl rfl rfl ?_
 refine zn ?_
 refine zd rfl (fun c26 => ?_) (fun c26 => ?_)
 refine xw_region (by kernel_rfl) ?_
 refine za rfl rfl ?_
 refine zn ?_
 refine zs ?_
 refine zr ?_
 refine zm rfl rfl ?_
 refine zp (p_neq rfl rfl rfl) ?_
 refine zn ?_
 refine zd rfl (fun c28 => ?_) (fun c28 => ?_)
 refine zr ?_
 refine zm rfl rfl ?_
 refine za rfl rfl ?_
 refine za rfl rfl ?_
 refine zn ?_
 refine zt ?_
 exact ret2 rfl (RV.nil (sz := 1) rfl rfl) (RV.tmp rfl rfl) (r2 (rSl (ck_1 g16 g21 c26).1) (rI (ck_1 g16 g21 c26).2))
 refine zi ?_
 refine zr ?_
 refine zm rfl rfl ?_
 refine za rfl rfl ?_
 refine za rfl rfl ?_
 refine zn ?_
 refine zt ?_
 exact ret2 rfl (RV.tmp rfl rfl) (RV.tmp rfl rfl) (by exfalso; omega)
 refine zi ?_
 refine zs ?_
 refine zr ?_
 refine zm rfl rfl ?_
 refine zp (p_neq rfl rfl rfl) ?_
 refine zn ?_
 refine zd rfl (fun c28 => ?_) (fun c28 => ?_)
 refine zr ?_
 refine zm rfl rfl ?_
 refine za rfl rfl ?_
 refine za rfl rfl ?_
 refine zn ?_
 refine zt ?_
 exact ret2 rfl (RV.nil (sz := 1) rfl rfl) (RV.tmp rfl rfl) (by exfalso; omega)
 refine zi ?_
 refine zr ?_
 refine zm rfl rfl ?_
 refine za rfl rfl ?_
 refine za rfl rfl ?_
 refine zn ?_
 refine zt ?_
 exact ret2 rfl (RV.tmp rfl rfl) (RV.tmp rfl rfl) (r2 (rSl (ck_2 g16 (fun h => c26 h.2)).1) (rI (ck_2 g16 (fun h => c26 h.2)).2))
 refine zk 4 rfl ?_
 refine zq rfl rfl rfl ?_
 refine zn ?_
 refine xw_false (by kernel_rfl) rfl ?_
 refine zi ?_
 refine zs ?_
 refine zr ?_
 refine zm rfl rfl ?_
 refine zp (p_neq rfl rfl rfl) ?_
 refine zn ?_
 refine zd rfl (fun c28 => ?_) (fun c28 => ?_)
 refine zr ?_
 refine zm rfl rfl ?_
 refine za rfl rfl ?_
 refine za rfl rfl ?_
 refine zn ?_
 refine zt ?_
 exact ret2 rfl (RV.nil (sz := 1) rfl rfl) (RV.tmp rfl rfl) (by exfalso; omega)
 refine zi ?_
 refine zr ?_
 refine zm rfl rfl ?_
 refine za rfl rfl ?_
 refine za rfl rfl ?_
 refine zn ?_
 refine zt ?_
 exact ret2 rfl (RV.tmp rfl rfl) (RV.tmp rfl rfl) (r2 (rSl (ck_2 g16 (fun h => g21 h.1)).1) (rI (ck_2 g16 (fun h => g21 h.1)).2))
 refine zk 3 rfl ?_
 refine zq rfl rfl rfl ?_
 refine zm rfl rfl ?_
 refine zk 4 rfl ?_
 refine zq rfl rfl rfl ?_
 refine zn ?_
 refine xw_false (by kernel_rfl) rfl ?_
 refine zi ?_
 refine zs ?_
 refine zr ?_
 refine zm rfl rfl ?_
 refine zp (p_neq rfl rfl rfl) ?_
 refine zn ?_
 refine zd rfl (fun c28 => ?_) (fun c28 => ?_)
 refine zr ?_
 refine zm rfl rfl ?_
 refine za rfl rfl ?_
 refine za rfl rfl ?_
 refine zn ?_
 refine zt ?_
 exact ret2 rfl (RV.nil (sz := 1) rfl rfl) (RV.tmp rfl rfl) (r2 (rSl (ck_3 g16).1) (rI (ck_3 g16).2))
 refine zi ?_
 refine zr ?_
 refine zm rfl rfl ?_
 refine za rfl rfl ?_
 refine za rfl rfl ?_
 refine zn ?_
 refine zt ?_
 exact ret2 rfl (RV.tmp rfl rfl) (RV.tmp rfl rfl) (by exfalso; omega)
theorem Lengths_xc (v : Vo) (L : Int) (hE : Evs v.evs) : XC Tryz.prog 27 [.agg (Vo.c v), .v (.int .i64 L)] (fun r => r = .tup [.sl 1 (ints (ckL v L)), dI (ckE v L)]) := by
 refine xc_body callable_27 Tryz.func27 rfl rfl (Nat.le_of_ble_eq_true rfl) ?_
 refine zr ?_
 refine XL.step rfl (st_boxN 2 (l := [.d (.sl 13 (v.evs.map Ev.c)), .d (.sl 4 (v.tups.map Tp.c))]) rfl rfl (by kernel_rfl)) ?_
 refine za rfl rfl ?_
 refine za rfl rfl ?_
 refine znr ?_
 refine zp (pure_eq (s' := .d (.agg (Vo.c v))) (norm_pure (p_load_boxs rfl rfl agg_25 rfl (Nat.le_of_ble_eq_true rfl))) (by kernel_rfl)) ?_
 refine zm rfl rfl ?_
 refine XL.call1 rfl rfl (checked_xc _ _ (by assumption)) rfl ?_
 refine zp (p_ext rfl rfl rfl) ?_
 refine zp (p_ext rfl rfl rfl) ?_
 refine za rfl rfl ?_
 refine za rfl rfl ?_
 refine zn ?_
 refine zt ?_
 exact ret2 rfl (RV.tmp rfl rfl) (RV.tmp rfl rfl) (rfl)
theorem Check_xc (v : Vo) (L : Int) (hE : Evs v.evs) : XC Tryz.prog 30 [.agg (Vo.c v), .v (.int .i64 L)] (fun r => r = dI (ckE v L)) := by
 refine xc_body callable_30 Tryz.func30 rfl rfl (Nat.le_of_ble_eq_true rfl) ?_
 refine zr ?_
 refine XL.step rfl (st_boxN 2 (l := [.d (.sl 13 (v.evs.map Ev.c)), .d (.sl 4 (v.tups.map Tp.c))]) rfl rfl (by kernel_rfl)) ?_
 refine za rfl rfl ?_
 refine znr ?_
 refine zp (pure_eq (s' := .d (.agg (Vo.c v))) (norm_pure (p_load_boxs rfl rfl agg_25 rfl (Nat.le_of_ble_eq_true rfl))) (by kernel_rfl)) ?_
 refine zm rfl rfl ?_
 refine XL.call1 rfl rfl (checked_xc _ _ (by assumption)) rfl ?_
 refine zm rfl rfl ?_
 refine zp (p_ext rfl rfl rfl) ?_
 refine zp (p_ext rfl rfl rfl) ?_
 refine za rfl rfl ?_
 refine za rfl rfl ?_
 refine znr ?_
 refine zm rfl rfl ?_
 refine za rfl rfl ?_
 refine zn ?_
 refine zt ?_
 exact z1 rfl rfl (rfl)
/-- the last event with a length whose onset is no later than a tick: its index, its onset -/
def atS (l : List Int) (t : Int) : Nat → Int × Int
 | 0 => (0, 0)
 | k + 1 => match l[k]? with
  | some x => if tot (l.take k) ≤ t ∧ 0 < x then (k, tot (l.take k)) else atS l t k
  | none => atS l t k
theorem at_hit {l : List Int} {t x : Int} {k : Nat} (h : l[k]? = some x) (h1 : tot (l.take k) ≤ t) (h2 : 0 < x) : atS l t (k + 1) = ((k : Int), tot (l.take k)) := by simp only [atS, h]; rw [if_pos ⟨h1, h2⟩]
theorem at_miss {l : List Int} {t x : Int} {k : Nat} (h : l[k]? = some x) (h1 : ¬ (tot (l.take k) ≤ t ∧ 0 < x)) : atS l t (k + 1) = atS l t k := by simp only [atS, h]; rw [if_neg h1]
def atE (v : Vo) (L t : Int) : Int := if ckE v L ≠ 0 then ckE v L else if (ckL v L).length = 0 then 10 else if t < 0 ∨ L ≤ t then 2 else 0
def atV (v : Vo) (L t : Int) : Int × Int := if atE v L t ≠ 0 then (0, 0) else atS (ckL v L) t (ckL v L).length
theorem onsS_get {l : List Int} {k : Nat} {x : Int} (h : (onsS l)[k]? = some x) : x = tot (l.take k) := by
 have hk := (List.getElem?_eq_some_iff.1 h).1
 rw [onsS, List.length_map, List.length_range] at hk
 rw [onsS, List.getElem?_map, List.getElem?_range hk] at h
 cases h; rfl
theorem onsS_len (l : List Int) : (onsS l).length = l.length := by rw [onsS, List.length_map, List.length_range]
theorem at_e {v : Vo} {L t a : Int} (h : atE v L t = a) (ha : a ≠ 0) : 0 = (atV v L t).1 ∧ 0 = (atV v L t).2 ∧ a = atE v L t := by
 have e : atV v L t = (0, 0) := by rw [atV, h, if_pos ha]
 rw [e]; exact ⟨rfl, rfl, h.symm⟩
theorem at_1 {v : Vo} {L t : Int} (h : ckE v L ≠ 0) : atE v L t = ckE v L := by rw [atE, if_pos h]
theorem at_2 {v : Vo} {L t : Int} (h : ¬ ckE v L ≠ 0) (h2 : ((ckL v L).length : Int) = 0) : atE v L t = 10 := by rw [atE, if_neg h, if_pos (by omega)]
theorem at_3 {v : Vo} {L t : Int} (h : ¬ ckE v L ≠ 0) (h2 : ¬ ((ckL v L).length : Int) = 0) (h3 : t < 0 ∨ L ≤ t) : atE v L t = 2 := by rw [atE, if_neg h, if_neg (by omega), if_pos h3]
theorem at_4 {v : Vo} {L t : Int} (h : ¬ ckE v L ≠ 0) (h2 : ¬ ((ckL v L).length : Int) = 0) (h3 : ¬ (t < 0 ∨ L ≤ t)) : atS (ckL v L) t (ckL v L).length = atV v L t ∧ 0 = atE v L t := by
 have e : atE v L t = 0 := by rw [atE, if_neg h, if_neg (by omega), if_neg h3]
 exact ⟨by rw [atV, e, if_neg (by decide)], e.symm⟩
theorem At_xc (v : Vo) (L t : Int) (hE : Evs v.evs) : XC Tryz.prog 22 [.agg (Vo.c v), .v (.int .i64 L), .v (.int .i64 t)] (fun r => r = .tup [dI (atV v L t).1, dI (atV v L t).2, dI (atE v L t)]) := by
 have hN := nums_ckL v L
 have hol := onsS_len (ckL v L)
 refine xc_body callable_22 Tryz.func22 rfl rfl (Nat.le_of_ble_eq_true rfl) ?_
 refine zr ?_
 refine XL.step rfl (st_boxN 3 (l := [.d (.sl 13 (v.evs.map Ev.c)), .d (.sl 4 (v.tups.map Tp.c))]) rfl rfl (by kernel_rfl)) ?_
 refine za rfl rfl ?_
 refine za rfl rfl ?_
 refine za rfl rfl ?_
 refine znr ?_
 refine zp (pure_eq (s' := .d (.agg (Vo.c v))) (norm_pure (p_load_boxs rfl rfl agg_25 rfl (Nat.le_of_ble_eq_true rfl))) (by kernel_rfl)) ?_
 refine zm rfl rfl ?_
 refine XL.call1 rfl rfl (checked_xc _ _ (by assumption)) rfl ?_
 refine zm rfl rfl ?_
 refine zp (p_ext rfl rfl rfl) ?_
 refine zp (p_ext rfl rfl rfl) ?_
 refine za rfl rfl ?_
 refine za rfl rfl ?_
 refine zn ?_
 refine zs ?_
 refine xw_block ?_
 refine zr ?_
 refine zm rfl rfl ?_
 refine zp (p_neq rfl rfl rfl) ?_
 refine za rfl rfl ?_
 refine zn ?_
 refine zd rfl (fun c18 => ?_) (fun c18 => ?_)
 refine zr ?_
 refine zm rfl rfl ?_
 refine za rfl rfl ?_
 refine za rfl rfl ?_
 refine za rfl rfl ?_
 refine zn ?_
 refine zt ?_
 exact ret3 rfl (RV.tmp rfl rfl) (RV.tmp rfl rfl) (RV.tmp rfl rfl) (r3 (rI (at_e (t := t) (at_1 c18) c18).1) (rI (at_e (t := t) (at_1 c18) c18).2.1) (rI (at_e (t := t) (at_1 c18) c18).2.2))
 refine zr ?_
 refine zm rfl rfl ?_
 refine XL.len rfl rfl rfl Tryz.underlying64 (fun hl24 => ?_)
 refine zp (p_eql rfl rfl rfl) ?_
 refine za rfl rfl ?_
 refine zn ?_
 refine zd rfl (fun c22 => ?_) (fun c22 => ?_)
 refine zr ?_
 refine za rfl rfl ?_
 refine za rfl rfl ?_
 refine za rfl rfl ?_
 refine zn ?_
 refine zt ?_
 exact ret3 rfl (RV.tmp rfl rfl) (RV.tmp rfl rfl) (RV.tmp rfl rfl) (r3 (rI (at_e (t := t) (at_2 c18 c22) (by decide)).1) (rI (at_e (t := t) (at_2 c18 c22) (by decide)).2.1) (rI (at_e (t := t) (at_2 c18 c22) (by decide)).2.2))
 refine zr ?_
 refine zm rfl rfl ?_
 refine zp (p_lss rfl rfl rfl) ?_
 refine zm rfl rfl ?_
 refine XL.dec 29 rfl (fun g29 => ?_) (fun g29 => ?_)
 refine zk 3 rfl ?_
 refine zq rfl rfl rfl ?_
 refine za rfl rfl ?_
 refine zn ?_
 refine xw_true (by kernel_rfl) rfl ?_
 refine zr ?_
 refine za rfl rfl ?_
 refine za rfl rfl ?_
 refine za rfl rfl ?_
 refine zn ?_
 refine zt ?_
 exact ret3 rfl (RV.tmp rfl rfl) (RV.tmp rfl rfl) (RV.tmp rfl rfl) (r3 (rI (at_e (at_3 c18 c22 (by omega)) (by decide)).1) (rI (at_e (at_3 c18 c22 (by omega)) (by decide)).2.1) (rI (at_e (at_3 c18 c22 (by omega)) (by decide)).2.2))
 refine zm rfl rfl ?_
 refine zm rfl rfl ?_
 refine zp (p_geq rfl rfl rfl) ?_
 refine zq rfl rfl rfl ?_
 refine za rfl rfl ?_
 refine zn ?_
 refine zd rfl (fun c26 => ?_) (fun c26 => ?_)
 refine zr ?_
 refine za rfl rfl ?_
 refine za rfl rfl ?_
 refine za rfl rfl ?_
 refine zn ?_
 refine zt ?_
 exact ret3 rfl (RV.tmp rfl rfl) (RV.tmp rfl rfl) (RV.tmp rfl rfl) (r3 (rI (at_e (at_3 c18 c22 (by omega)) (by decide)).1) (rI (at_e (at_3 c18 c22 (by omega)) (by decide)).2.1) (rI (at_e (at_3 c18 c22 (by omega)) (by decide)).2.2))
 refine zi ?_
 refine zs ?_
 refine zr ?_
 refine zm rfl rfl ?_
 refine XL.call1 rfl rfl (onsets_xc _ (by assumption)) rfl ?_
 refine XL.len rfl rfl rfl Tryz.underlying64 (fun hl36 => ?_)
 refine zm rfl rfl ?_
 refine zn ?_
 refine xw_block ?_
 refine xw_loop (α := Nat) (fun k => k ≤ (onsS (ckL v L)).length) (fun k => mkF [(2, .d (dI t)), (6, .d (dI (atS (ckL v L) t k).1)), (7, .d (dI (atS (ckL v L) t k).2)), (8, .d (dI (ckE v L))), (9, .d (.sl 1 (ints (ckL v L)))), (35, .d (.sl 1 (ints (onsS (ckL v L))))), (36, .d (dI (onsS (ckL v L)).length)), (37, .d (dI k))]) (fun k => mkH []) (fun k => (onsS (ckL v L)).length - k) (0) (Nat.zero_le _) ?_ ?_ ?_
 exact fz ⟨sr, sr, sr, sr, sr, sr, sr, sr, trivial⟩
 exact HSub.nil
 intro k hk1
 refine zr ?_
 refine zp (p_lss rfl rfl rfl) ?_
 refine zn ?_
 refine zs ?_
 refine zd rfl (fun c38 => ?_) (fun c38 => ?_)
 have hk1a : k < (onsS (ckL v L)).length := by omega
 obtain ⟨x1, hx1⟩ := get_ex hk1a
 have hxe := onsS_get hx1
 obtain ⟨y, hy⟩ : ∃ y, (ckL v L)[k]? = some y := get_ex (by omega)
 refine zi ?_
 refine zs ?_
 refine xw_block ?_
 refine zr ?_
 refine zm rfl rfl ?_
 refine zp (p_idx_map rfl rfl rfl el_64 hx1) ?_
 refine zp (p_load_pt rfl rfl sc_3) ?_
 refine za rfl rfl ?_
 refine za rfl rfl ?_
 refine znr ?_
 refine zm rfl rfl ?_
 refine zm rfl rfl ?_
 refine zp (p_leq rfl rfl rfl) ?_
 refine zm rfl rfl ?_
 refine XL.dec 45 rfl (fun g45 => ?_) (fun g45 => ?_)
 refine zm rfl rfl ?_
 refine zm rfl rfl ?_
 refine zp (p_idx_map rfl rfl rfl el_64 (hy)) ?_
 refine zp (p_load_pt rfl rfl sc_3) ?_
 refine zp (p_gtr rfl rfl rfl) ?_
 refine zq rfl rfl rfl ?_
 refine zn ?_
 refine zd rfl (fun c51 => ?_) (fun c51 => ?_)
 refine xw_region (by kernel_rfl) ?_
 refine zm rfl rfl ?_
 refine zm rfl rfl ?_
 refine za rfl rfl ?_
 refine za rfl rfl ?_
 refine zn ?_
 refine xw_region (by kernel_rfl) ?_
 refine zp (p_add rfl rfl rfl (by omega) (by omega)) ?_
 refine zm rfl rfl ?_
 refine zn ?_
 exact k_round (k + 1) (by omega) (by omega) (fz ⟨sr, .same (sI (by rw [at_hit hy (by rw [← onsS_get hx1]; exact g45) c51])), .same (sI (by rw [at_hit hy (by rw [← onsS_get hx1]; exact g45) c51]; exact onsS_get hx1)), sr, sr, sr, sr, sr, trivial⟩) (HSub.nil)
 refine zi ?_
 refine xw_region (by kernel_rfl) ?_
 refine zp (p_add rfl rfl rfl (by omega) (by omega)) ?_
 refine zm rfl rfl ?_
 refine zn ?_
 exact k_round (k + 1) (by omega) (by omega) (fz ⟨sr, .same (sI (by rw [at_miss hy (fun h => c51 h.2)])), .same (sI (by rw [at_miss hy (fun h => c51 h.2)])), sr, sr, sr, sr, sr, trivial⟩) (HSub.nil)
 refine zk 5 rfl ?_
 refine zq rfl rfl rfl ?_
 refine zn ?_
 refine xw_false (by kernel_rfl) rfl ?_
 refine zi ?_
 refine xw_region (by kernel_rfl) ?_
 refine zp (p_add rfl rfl rfl (by omega) (by omega)) ?_
 refine zm rfl rfl ?_
 refine zn ?_
 exact k_round (k + 1) (by omega) (by omega) (fz ⟨sr, .same (sI (by rw [at_miss hy (fun h => g45 (by rw [onsS_get hx1]; exact h.1))])), .same (sI (by rw [at_miss hy (fun h => g45 (by rw [onsS_get hx1]; exact h.1))])), sr, sr, sr, sr, sr, trivial⟩) (HSub.nil)
 have hk1b : k = (onsS (ckL v L)).length := by omega
 have hke : k = (ckL v L).length := by omega
 refine xw_exit ?_
 refine zr ?_
 refine zm rfl rfl ?_
 refine zm rfl rfl ?_
 refine za rfl rfl ?_
 refine za rfl rfl ?_
 refine za rfl rfl ?_
 refine zn ?_
 refine zt ?_
 exact ret3 rfl (RV.tmp rfl rfl) (RV.tmp rfl rfl) (RV.tmp rfl rfl) (r3 (rI (by rw [hke, (at_4 c18 c22 (by omega)).1])) (rI (by rw [hke, (at_4 c18 c22 (by omega)).1])) (rI (at_4 c18 c22 (by omega)).2))
end Go.Proofs.YtcihalbakenleaaGreat
namespace Go.Proofs.YtcihalbakenleaaGreat
open Go.RowKit
set_option maxRecDepth 4000
set_option maxHeartbeats 4000000 in
theorem eqin_26 (d : Nat) (w : World) (a0 a1 a2 a3 a4 a5 b0 b1 b2 b3 b4 b5 : Int) : (Op.equalIn (d + 2) 26 (.agg #[.int .i64 a0, .int .i64 a1, .int .i64 a2, .int .i64 a3, .int .i64 a4, .int .i64 a5]) (.agg #[.int .i64 b0, .int .i64 b1, .int .i64 b2, .int .i64 b3, .int .i64 b4, .int .i64 b5])).run Tryz.prog w =
  .ok (decide (a0 = b0 ∧ a1 = b1 ∧ a2 = b2 ∧ a3 = b3 ∧ a4 = b4 ∧ a5 = b5)) w := by
 rw [show d + 2 = (d + 1) + 1 from rfl]
 have hp : ∀ (cs : Array Value) (k : Nat) (v : Value), cs[k]? = some v → (part 3 cs k).run Tryz.prog w = .ok v w := fun cs k v h => part1 sc_3 w h
 have he : ∀ a b : Int, (Op.equalIn (d + 1) 3 (.int .i64 a) (.int .i64 b)).run Tryz.prog w = .ok (decide (a = b)) w := fun a b => eqc_int d 3 Tryz.underlying3 a b
 have ha0 := hp (#[.int .i64 a0, .int .i64 a1, .int .i64 a2, .int .i64 a3, .int .i64 a4, .int .i64 a5]) ((0) * 1) (.int .i64 a0) rfl
 have hb0 := hp (#[.int .i64 b0, .int .i64 b1, .int .i64 b2, .int .i64 b3, .int .i64 b4, .int .i64 b5]) ((0) * 1) (.int .i64 b0) rfl
 have ha1 := hp (#[.int .i64 a0, .int .i64 a1, .int .i64 a2, .int .i64 a3, .int .i64 a4, .int .i64 a5]) ((0 + 1) * 1) (.int .i64 a1) rfl
 have hb1 := hp (#[.int .i64 b0, .int .i64 b1, .int .i64 b2, .int .i64 b3, .int .i64 b4, .int .i64 b5]) ((0 + 1) * 1) (.int .i64 b1) rfl
 have ha2 := hp (#[.int .i64 a0, .int .i64 a1, .int .i64 a2, .int .i64 a3, .int .i64 a4, .int .i64 a5]) ((0 + 1 + 1) * 1) (.int .i64 a2) rfl
 have hb2 := hp (#[.int .i64 b0, .int .i64 b1, .int .i64 b2, .int .i64 b3, .int .i64 b4, .int .i64 b5]) ((0 + 1 + 1) * 1) (.int .i64 b2) rfl
 have ha3 := hp (#[.int .i64 a0, .int .i64 a1, .int .i64 a2, .int .i64 a3, .int .i64 a4, .int .i64 a5]) ((0 + 1 + 1 + 1) * 1) (.int .i64 a3) rfl
 have hb3 := hp (#[.int .i64 b0, .int .i64 b1, .int .i64 b2, .int .i64 b3, .int .i64 b4, .int .i64 b5]) ((0 + 1 + 1 + 1) * 1) (.int .i64 b3) rfl
 have ha4 := hp (#[.int .i64 a0, .int .i64 a1, .int .i64 a2, .int .i64 a3, .int .i64 a4, .int .i64 a5]) ((0 + 1 + 1 + 1 + 1) * 1) (.int .i64 a4) rfl
 have hb4 := hp (#[.int .i64 b0, .int .i64 b1, .int .i64 b2, .int .i64 b3, .int .i64 b4, .int .i64 b5]) ((0 + 1 + 1 + 1 + 1) * 1) (.int .i64 b4) rfl
 have ha5 := hp (#[.int .i64 a0, .int .i64 a1, .int .i64 a2, .int .i64 a3, .int .i64 a4, .int .i64 a5]) ((0 + 1 + 1 + 1 + 1 + 1) * 1) (.int .i64 a5) rfl
 have hb5 := hp (#[.int .i64 b0, .int .i64 b1, .int .i64 b2, .int .i64 b3, .int .i64 b4, .int .i64 b5]) ((0 + 1 + 1 + 1 + 1 + 1) * 1) (.int .i64 b5) rfl
 clear hp
 generalize hd : d + 1 = d1 at *
 generalize hA : (#[.int .i64 a0, .int .i64 a1, .int .i64 a2, .int .i64 a3, .int .i64 a4, .int .i64 a5] : Array Value) = A at *
 generalize hB : (#[.int .i64 b0, .int .i64 b1, .int .i64 b2, .int .i64 b3, .int .i64 b4, .int .i64 b5] : Array Value) = B at *
 unfold Op.equalIn
 simp only [Sem.run_bind, run_underlying Tryz.underlying26, Result.andThen_ok, sizeB.run sz_3]
 simp only [Std.Legacy.Range.forIn_eq_forIn_range', Std.Legacy.Range.size, List.range', List.forIn_cons, List.forIn_nil]
 by_cases e0 : a0 = b0
 rotate_left
 ·simp_all
 by_cases e1 : a1 = b1
 rotate_left
 ·simp_all
 by_cases e2 : a2 = b2
 rotate_left
 ·simp_all
 by_cases e3 : a3 = b3
 rotate_left
 ·simp_all
 by_cases e4 : a4 = b4
 rotate_left
 ·simp_all
 by_cases e5 : a5 = b5
 rotate_left
 ·simp_all
 ·simp_all
theorem p_eql_26 {t' : TypeId} {o : Oper} {e : Operand → S} {h : Xh} {x y : Operand} {a0 : Int} {a1 : Int} {a2 : Int} {a3 : Int} {a4 : Int} {a5 : Int} {b0 : Int} {b1 : Int} {b2 : Int} {b3 : Int} {b4 : Int} {b5 : Int} (ho : o.op = .binOp .eql 26 x y t') (hx : e x = .d (.agg [.v (.int .i64 a0), .v (.int .i64 a1), .v (.int .i64 a2), .v (.int .i64 a3), .v (.int .i64 a4), .v (.int .i64 a5)])) (hy : e y = .d (.agg [.v (.int .i64 b0), .v (.int .i64 b1), .v (.int .i64 b2), .v (.int .i64 b3), .v (.int .i64 b4), .v (.int .i64 b5)])) : Pure Tryz.prog o e h (.d (.v (.bool (decide (a0 = b0 ∧ a1 = b1 ∧ a2 = b2 ∧ a3 = b3 ∧ a4 = b4 ∧ a5 = b5))))) := by
 refine p_binagg ho hx hy rfl rfl (by kernel_rfl) fun w => ?_
 refine (run_eql_struct w 26 #[.int .i64 a0, .int .i64 a1, .int .i64 a2, .int .i64 a3, .int .i64 a4, .int .i64 a5] #[.int .i64 b0, .int .i64 b1, .int .i64 b2, .int .i64 b3, .int .i64 b4, .int .i64 b5]).trans ?_
 have hq := eqin_26 9998 w a0 a1 a2 a3 a4 a5 b0 b1 b2 b3 b4 b5
 simp only [Nat.reduceAdd] at hq
 rw [hq]
 simp only [Result.andThen_ok]
theorem p_neq_26 {t' : TypeId} {o : Oper} {e : Operand → S} {h : Xh} {x y : Operand} {a0 : Int} {a1 : Int} {a2 : Int} {a3 : Int} {a4 : Int} {a5 : Int} {b0 : Int} {b1 : Int} {b2 : Int} {b3 : Int} {b4 : Int} {b5 : Int} (ho : o.op = .binOp .neq 26 x y t') (hx : e x = .d (.agg [.v (.int .i64 a0), .v (.int .i64 a1), .v (.int .i64 a2), .v (.int .i64 a3), .v (.int .i64 a4), .v (.int .i64 a5)])) (hy : e y = .d (.agg [.v (.int .i64 b0), .v (.int .i64 b1), .v (.int .i64 b2), .v (.int .i64 b3), .v (.int .i64 b4), .v (.int .i64 b5)])) : Pure Tryz.prog o e h (.d (.v (.bool (decide (¬ (a0 = b0 ∧ a1 = b1 ∧ a2 = b2 ∧ a3 = b3 ∧ a4 = b4 ∧ a5 = b5)))))) := by
 refine p_binagg ho hx hy rfl rfl (by kernel_rfl) fun w => ?_
 refine (run_neq_struct w 26 #[.int .i64 a0, .int .i64 a1, .int .i64 a2, .int .i64 a3, .int .i64 a4, .int .i64 a5] #[.int .i64 b0, .int .i64 b1, .int .i64 b2, .int .i64 b3, .int .i64 b4, .int .i64 b5]).trans ?_
 have hq := eqin_26 9998 w a0 a1 a2 a3 a4 a5 b0 b1 b2 b3 b4 b5
 simp only [Nat.reduceAdd] at hq
 rw [hq]
 simp only [Result.andThen_ok, decide_not]
end Go.Proofs.YtcihalbakenleaaGreat
namespace Go.Proofs.YtcihalbakenleaaGreat
open Go.RowKit
theorem gs_get {m : Me} {k : Nat} {g : Int} (h : m.gs[k]? = some g) : [dI m.g0, dI m.g1, dI m.g2, dI m.g3, dI m.g4, dI m.g5][k]? = some (dI g) := by
 have : (m.gs.map dI)[k]? = some (dI g) := by rw [List.getElem?_map, h]; rfl
 exact this
def Me.flat (m : Me) : Prop := m.g0 = 0 ∧ m.g1 = 0 ∧ m.g2 = 0 ∧ m.g3 = 0 ∧ m.g4 = 0 ∧ m.g5 = 0
instance (m : Me) : Decidable m.flat := by unfold Me.flat; exact inferInstance
def gGo (k : Nat) (s n : Int) : List Int → Option (Int × Int)
 | [] => some (s, n)
 | g :: r => if g < 0 ∨ 64 < g ∨ (0 < g ∧ (k : Int) ≠ n) then none else if 0 < g then gGo (k + 1) (s + g) (n + 1) r else gGo (k + 1) s n r
def gOk (c : Int) (o : Option (Int × Int)) : Prop := match o with | some p => p.1 = c ∧ 2 ≤ p.2 | none => False
instance (c : Int) (o : Option (Int × Int)) : Decidable (gOk c o) := by unfold gOk; cases o <;> exact inferInstance
def Me.grouped (m : Me) : Prop := m.flat ∨ gOk m.count (gGo 0 0 0 m.gs)
instance (m : Me) : Decidable m.grouped := by unfold Me.grouped; exact inferInstance
theorem gGo_none {m : Me} {k : Nat} {g s n : Int} (h : m.gs[k]? = some g) (hb : g < 0 ∨ 64 < g ∨ (0 < g ∧ (k : Int) ≠ n)) : gGo k s n (m.gs.drop k) = none := by rw [drop_cons h, gGo, if_pos hb]
theorem gGo_yes {m : Me} {k : Nat} {g s n : Int} (h : m.gs[k]? = some g) (hb : ¬ (g < 0 ∨ 64 < g ∨ (0 < g ∧ (k : Int) ≠ n))) (hg : 0 < g) : gGo k s n (m.gs.drop k) = gGo (k + 1) (s + g) (n + 1) (m.gs.drop (k + 1)) := by rw [drop_cons h, gGo, if_neg hb, if_pos hg]
theorem gGo_no {m : Me} {k : Nat} {g s n : Int} (h : m.gs[k]? = some g) (hb : ¬ (g < 0 ∨ 64 < g ∨ (0 < g ∧ (k : Int) ≠ n))) (hg : ¬ 0 < g) : gGo k s n (m.gs.drop k) = gGo (k + 1) s n (m.gs.drop (k + 1)) := by rw [drop_cons h, gGo, if_neg hb, if_neg hg]
theorem grp_yes {m : Me} (h : m.grouped) : true = decide m.grouped := by rw [decide_eq_true h]
theorem grp_no {m : Me} (h1 : ¬ m.flat) (h : gGo 0 0 0 m.gs = none) : false = decide m.grouped := by rw [decide_eq_false]; exact fun k => k.elim h1 (by rw [h]; exact fun k => k)
theorem grp_at {m : Me} (h1 : ¬ m.flat) {s n : Int} (h : gGo 0 0 0 m.gs = some (s, n)) : m.grouped ↔ s = m.count ∧ 2 ≤ n := by
 unfold Me.grouped
 rw [h]
 exact ⟨fun k => k.elim (fun k => absurd k h1) fun k => k, fun k => .inr k⟩
theorem grouped_xc (m : Me) : XC Tryz.prog 138 [.agg (Me.c m)] (fun r => r = dB (decide m.grouped)) := by
 refine xc_body callable_138 Tryz.func138 rfl rfl (Nat.le_of_ble_eq_true rfl) ?_
 refine zr ?_
 refine XL.step rfl (st_boxN 1 (l := [.d (dI m.count), .d (dI m.unit), .d (dI m.g0), .d (dI m.g1), .d (dI m.g2), .d (dI m.g3), .d (dI m.g4), .d (dI m.g5)]) rfl rfl (by kernel_rfl)) ?_
 refine za rfl rfl ?_
 refine zn ?_
 refine zs ?_
 refine zr ?_
 refine zp (p_fld_ptr rfl rfl fld_28_2) ?_
 refine zp (pure_eq (s' := .d (.agg [dI m.g0, dI m.g1, dI m.g2, dI m.g3, dI m.g4, dI m.g5])) (norm_pure (p_load_boxs rfl rfl agg_26 rfl (Nat.le_of_ble_eq_true rfl))) (by kernel_rfl)) ?_
 refine zp (pure_eq (s' := .d (.agg [dI 0, dI 0, dI 0, dI 0, dI 0, dI 0])) (norm_pure (p_buildarr rfl Tryz.underlying26 sz_3 zero_26 rfl)) (by kernel_rfl)) ?_
 refine zp (p_eql_26 rfl rfl rfl) ?_
 refine zn ?_
 refine zd rfl (fun c10 => ?_) (fun c10 => ?_)
 refine zr ?_
 refine za rfl rfl ?_
 refine zn ?_
 refine zt ?_
 exact z1 rfl rfl (rB (grp_yes (.inl c10)))
 refine zi ?_
 refine zr ?_
 refine za rfl rfl ?_
 refine za rfl rfl ?_
 refine zn ?_
 refine zs ?_
 refine zr ?_
 refine zp (p_fld_ptr rfl rfl fld_28_2) ?_
 refine zp (pure_eq (s' := .d (.agg [dI m.g0, dI m.g1, dI m.g2, dI m.g3, dI m.g4, dI m.g5])) (norm_pure (p_load_boxs rfl rfl agg_26 rfl (Nat.le_of_ble_eq_true rfl))) (by kernel_rfl)) ?_
 refine zm rfl rfl ?_
 refine zn ?_
 refine xw_block ?_
 refine xw_loop (α := Nat × Int × Int) (fun p => p.1 ≤ 6 ∧ gGo p.1 p.2.1 p.2.2 (m.gs.drop p.1) = gGo 0 0 0 m.gs ∧ 0 ≤ p.2.1 ∧ p.2.1 ≤ 64 * p.1 ∧ 0 ≤ p.2.2 ∧ p.2.2 ≤ p.1) (fun p => mkF [(1, .ptr 1 0 0), (3, .d (dI p.2.1)), (4, .d (dI p.2.2)), (12, .d (.agg [dI m.g0, dI m.g1, dI m.g2, dI m.g3, dI m.g4, dI m.g5])), (13, .d (dI p.1))]) (fun p => mkH [(1, .box ((Me.c m).map S.d))]) (fun p => 6 - p.1) ((0, 0, 0)) (⟨Nat.zero_le _, rfl, by simp, by simp, by simp, by simp⟩) ?_ ?_ ?_
 exact fz ⟨sr, sr, sr, sr, sr, trivial⟩
 exact gz ⟨rfl, trivial⟩
 intro p hk0
 obtain ⟨hk, hgo, hs0, hs1, hn0, hn1⟩ := hk0
 refine zr ?_
 refine zp (p_lss rfl rfl rfl) ?_
 refine zn ?_
 refine zs ?_
 refine zd rfl (fun c14 => ?_) (fun c14 => ?_)
 obtain ⟨g, hg⟩ : ∃ g, m.gs[p.1]? = some g := get_ex (by show p.1 < 6; omega)
 refine zi ?_
 refine zs ?_
 refine xw_block ?_
 refine zr ?_
 refine zm rfl rfl ?_
 refine zp (p_index1i (k := p.1) rfl rfl rfl rfl Tryz.underlying26 sc_3 sz_3 (by omega) (gs_get hg)) ?_
 refine za rfl rfl ?_
 refine za rfl rfl ?_
 refine zn ?_
 refine xw_block ?_
 refine zr ?_
 refine zm rfl rfl ?_
 refine zp (p_lss rfl rfl rfl) ?_
 refine zm rfl rfl ?_
 refine XL.dec 20 rfl (fun g20 => ?_) (fun g20 => ?_)
 refine zk 2 rfl ?_
 refine zq rfl rfl rfl ?_
 refine zm rfl rfl ?_
 refine zk 7 rfl ?_
 refine zq rfl rfl rfl ?_
 refine za rfl rfl ?_
 refine zn ?_
 refine xw_true (by kernel_rfl) rfl ?_
 refine zr ?_
 refine za rfl rfl ?_
 refine zn ?_
 refine zt ?_
 exact z1 rfl rfl (rB (grp_no c10 (by rw [← hgo]; exact gGo_none hg (by omega))))
 refine zm rfl rfl ?_
 refine zp (p_gtr rfl rfl rfl) ?_
 refine zq rfl rfl rfl ?_
 refine zm rfl rfl ?_
 refine XL.dec 24 rfl (fun g24 => ?_) (fun g24 => ?_)
 refine zk 7 rfl ?_
 refine zq rfl rfl rfl ?_
 refine za rfl rfl ?_
 refine zn ?_
 refine xw_true (by kernel_rfl) rfl ?_
 refine zr ?_
 refine za rfl rfl ?_
 refine zn ?_
 refine zt ?_
 exact z1 rfl rfl (rB (grp_no c10 (by rw [← hgo]; exact gGo_none hg (by omega))))
 refine zm rfl rfl ?_
 refine zp (p_gtr rfl rfl rfl) ?_
 refine zm rfl rfl ?_
 refine XL.dec 27 rfl (fun g27 => ?_) (fun g27 => ?_)
 refine zm rfl rfl ?_
 refine zm rfl rfl ?_
 refine zp (p_neq rfl rfl rfl) ?_
 refine zq rfl rfl rfl ?_
 refine zq rfl rfl rfl ?_
 refine za rfl rfl ?_
 refine zn ?_
 refine zd rfl (fun c17 => ?_) (fun c17 => ?_)
 refine zr ?_
 refine za rfl rfl ?_
 refine zn ?_
 refine zt ?_
 exact z1 rfl rfl (rB (grp_no c10 (by rw [← hgo]; exact gGo_none hg (by omega))))
 refine zr ?_
 refine zm rfl rfl ?_
 refine zp (p_gtr rfl rfl rfl) ?_
 refine za rfl rfl ?_
 refine zn ?_
 refine zd rfl (fun c33 => ?_) (fun c33 => ?_)
 refine xw_region (by kernel_rfl) ?_
 refine zm rfl rfl ?_
 refine zm rfl rfl ?_
 refine zp (p_add rfl rfl rfl (by omega) (by omega)) ?_
 refine zm rfl rfl ?_
 refine zp (p_add rfl rfl rfl (by omega) (by omega)) ?_
 refine za rfl rfl ?_
 refine za rfl rfl ?_
 refine zn ?_
 refine xw_region (by kernel_rfl) ?_
 refine zp (p_add rfl rfl rfl (by omega) (by omega)) ?_
 refine zm rfl rfl ?_
 refine zn ?_
 exact k_round ((p.1 + 1, p.2.1 + g, p.2.2 + 1)) (⟨by simp only; omega, by rw [← gGo_yes hg (by omega) c33]; exact hgo, by simp only; omega, by simp only; omega, by simp only; omega, by simp only; omega⟩) (by simp only; omega) (fz ⟨sr, sr, sr, sr, sr, trivial⟩) (gz ⟨rfl, trivial⟩)
 refine zi ?_
 refine xw_region (by kernel_rfl) ?_
 refine zp (p_add rfl rfl rfl (by omega) (by omega)) ?_
 refine zm rfl rfl ?_
 refine zn ?_
 exfalso; omega
 refine zk 3 rfl ?_
 refine zq rfl rfl rfl ?_
 refine zq rfl rfl rfl ?_
 refine za rfl rfl ?_
 refine zn ?_
 refine xw_false (by kernel_rfl) rfl ?_
 refine zr ?_
 refine zm rfl rfl ?_
 refine zp (p_gtr rfl rfl rfl) ?_
 refine za rfl rfl ?_
 refine zn ?_
 refine zd rfl (fun c33 => ?_) (fun c33 => ?_)
 refine xw_region (by kernel_rfl) ?_
 refine zm rfl rfl ?_
 refine zm rfl rfl ?_
 refine zp (p_add rfl rfl rfl (by omega) (by omega)) ?_
 refine zm rfl rfl ?_
 refine zp (p_add rfl rfl rfl (by omega) (by omega)) ?_
 refine za rfl rfl ?_
 refine za rfl rfl ?_
 refine zn ?_
 refine xw_region (by kernel_rfl) ?_
 refine zp (p_add rfl rfl rfl (by omega) (by omega)) ?_
 refine zm rfl rfl ?_
 refine zn ?_
 exfalso; omega
 refine zi ?_
 refine xw_region (by kernel_rfl) ?_
 refine zp (p_add rfl rfl rfl (by omega) (by omega)) ?_
 refine zm rfl rfl ?_
 refine zn ?_
 exact k_round ((p.1 + 1, p.2.1, p.2.2)) (⟨by simp only; omega, by rw [← gGo_no hg (by omega) c33]; exact hgo, by simp only; omega, by simp only; omega, by simp only; omega, by simp only; omega⟩) (by simp only; omega) (fz ⟨sr, sr, sr, sr, sr, trivial⟩) (gz ⟨rfl, trivial⟩)
 have hke : p.1 = 6 := by omega
 have hend : gGo 0 0 0 m.gs = some (p.2.1, p.2.2) := by rw [← hgo, hke]; rfl
 refine xw_exit ?_
 refine zr ?_
 refine zm rfl rfl ?_
 refine zp (p_fld_ptr rfl rfl fld_28_0) ?_
 refine zp (p_load_box rfl rfl sc_3 rfl rfl) ?_
 refine zp (p_eql rfl rfl rfl) ?_
 refine zm rfl rfl ?_
 refine XL.dec 46 rfl (fun g46 => ?_) (fun g46 => ?_)
 refine zm rfl rfl ?_
 refine zp (p_geq rfl rfl rfl) ?_
 refine zq rfl rfl rfl ?_
 refine za rfl rfl ?_
 refine zn ?_
 refine zt ?_
 exact z1 rfl rfl (rB (by rw [decide_eq_decide, grp_at c10 hend]; exact ⟨fun h => ⟨g46, h⟩, fun h => h.2⟩))
 refine zk 2 rfl ?_
 refine zq rfl rfl rfl ?_
 refine za rfl rfl ?_
 refine zn ?_
 refine zt ?_
 exact z1 rfl rfl (rB (by rw [eq_comm, decide_eq_false_iff_not, grp_at c10 hend]; exact fun h => g46 h.1))
def Me.pow (m : Me) : Prop := ((m.unit.toNat &&& (m.unit - 1).toNat : Nat) : Int) = 0
instance (m : Me) : Decidable m.pow := by unfold Me.pow; exact inferInstance
/-- the error of a time signature -/
def Me.err (m : Me) : Int := if m.count < 1 ∨ 64 < m.count then 2 else if m.unit < 1 ∨ 64 < m.unit ∨ ¬ m.pow then 17 else if ¬ m.grouped then 19 else 0
theorem me_1 {m : Me} (h : m.count < 1 ∨ 64 < m.count) : 2 = m.err := by rw [Me.err, if_pos h]
theorem me_2 {m : Me} (h : ¬ (m.count < 1 ∨ 64 < m.count)) (h2 : m.unit < 1 ∨ 64 < m.unit ∨ ¬ m.pow) : 17 = m.err := by rw [Me.err, if_neg h, if_pos h2]
theorem me_3 {m : Me} (h : ¬ (m.count < 1 ∨ 64 < m.count)) (h2 : ¬ (m.unit < 1 ∨ 64 < m.unit ∨ ¬ m.pow)) (h3 : ¬ m.grouped) : 19 = m.err := by rw [Me.err, if_neg h, if_neg h2, if_pos h3]
theorem me_4 {m : Me} (h : ¬ (m.count < 1 ∨ 64 < m.count)) (h2 : ¬ (m.unit < 1 ∨ 64 < m.unit ∨ ¬ m.pow)) (h3 : m.grouped) : 0 = m.err := by rw [Me.err, if_neg h, if_neg h2, if_neg (fun k => k h3)]
theorem not_or3 {a b c : Prop} (h1 : ¬ a) (h2 : ¬ b) (h3 : ¬ c) : ¬ (a ∨ b ∨ c) := fun k => k.elim h1 fun k => k.elim h2 h3
theorem not_or2 {a b : Prop} (h1 : ¬ a) (h2 : ¬ b) : ¬ (a ∨ b) := fun k => k.elim h1 h2
theorem mcheck_xc (m : Me) : XC Tryz.prog 93 [.agg (Me.c m)] (fun r => r = dI m.err) := by
 refine xc_body callable_93 Tryz.func93 rfl rfl (Nat.le_of_ble_eq_true rfl) ?_
 refine zr ?_
 refine XL.step rfl (st_boxN 1 (l := [.d (dI m.count), .d (dI m.unit), .d (dI m.g0), .d (dI m.g1), .d (dI m.g2), .d (dI m.g3), .d (dI m.g4), .d (dI m.g5)]) rfl rfl (by kernel_rfl)) ?_
 refine za rfl rfl ?_
 refine zn ?_
 refine zs ?_
 refine xw_block ?_
 refine zr ?_
 refine zp (p_fld_ptr rfl rfl fld_28_0) ?_
 refine zp (p_load_box rfl rfl sc_3 rfl rfl) ?_
 refine zp (p_lss rfl rfl rfl) ?_
 refine zm rfl rfl ?_
 refine XL.dec 7 rfl (fun g7 => ?_) (fun g7 => ?_)
 refine zk 3 rfl ?_
 refine zq rfl rfl rfl ?_
 refine za rfl rfl ?_
 refine zn ?_
 refine xw_true (by kernel_rfl) rfl ?_
 refine zr ?_
 refine za rfl rfl ?_
 refine zn ?_
 refine zt ?_
 exact z1 rfl rfl (rI (me_1 (.inl g7)))
 refine zp (p_fld_ptr rfl rfl fld_28_0) ?_
 refine zp (p_load_box rfl rfl sc_3 rfl rfl) ?_
 refine zp (p_gtr rfl rfl rfl) ?_
 refine zq rfl rfl rfl ?_
 refine za rfl rfl ?_
 refine zn ?_
 refine zd rfl (fun c3 => ?_) (fun c3 => ?_)
 refine zr ?_
 refine za rfl rfl ?_
 refine zn ?_
 refine zt ?_
 exact z1 rfl rfl (rI (me_1 (.inr c3)))
 refine zr ?_
 refine zp (p_fld_ptr rfl rfl fld_28_1) ?_
 refine zp (p_load_box rfl rfl sc_3 rfl rfl) ?_
 refine zp (p_lss rfl rfl rfl) ?_
 refine zm rfl rfl ?_
 refine XL.dec 16 rfl (fun g16 => ?_) (fun g16 => ?_)
 refine zk 3 rfl ?_
 refine zq rfl rfl rfl ?_
 refine zm rfl rfl ?_
 refine zk 7 rfl ?_
 refine zq rfl rfl rfl ?_
 refine za rfl rfl ?_
 refine zn ?_
 refine xw_true (by kernel_rfl) rfl ?_
 refine zr ?_
 refine za rfl rfl ?_
 refine zn ?_
 refine zt ?_
 exact z1 rfl rfl (rI (me_2 (not_or2 g7 c3) (.inl g16)))
 refine zp (p_fld_ptr rfl rfl fld_28_1) ?_
 refine zp (p_load_box rfl rfl sc_3 rfl rfl) ?_
 refine zp (p_gtr rfl rfl rfl) ?_
 refine zq rfl rfl rfl ?_
 refine zm rfl rfl ?_
 refine XL.dec 21 rfl (fun g21 => ?_) (fun g21 => ?_)
 refine zk 7 rfl ?_
 refine zq rfl rfl rfl ?_
 refine za rfl rfl ?_
 refine zn ?_
 refine xw_true (by kernel_rfl) rfl ?_
 refine zr ?_
 refine za rfl rfl ?_
 refine zn ?_
 refine zt ?_
 exact z1 rfl rfl (rI (me_2 (not_or2 g7 c3) (.inr (.inl g21))))
 refine zp (p_fld_ptr rfl rfl fld_28_1) ?_
 refine zp (p_load_box rfl rfl sc_3 rfl rfl) ?_
 refine zp (p_fld_ptr rfl rfl fld_28_1) ?_
 refine zp (p_load_box rfl rfl sc_3 rfl rfl) ?_
 refine zp (p_sub rfl rfl rfl (by omega) (by omega)) ?_
 refine zp (p_and rfl rfl rfl (by omega) (by omega) (by omega) (by omega)) ?_
 refine zp (p_neq rfl rfl rfl) ?_
 refine zq rfl rfl rfl ?_
 refine za rfl rfl ?_
 refine zn ?_
 refine zd rfl (fun c12 => ?_) (fun c12 => ?_)
 refine zr ?_
 refine za rfl rfl ?_
 refine zn ?_
 refine zt ?_
 exact z1 rfl rfl (rI (me_2 (not_or2 g7 c3) (.inr (.inr c12))))
 refine zr ?_
 refine zp (pure_eq (s' := .d (.agg (Me.c m))) (norm_pure (p_load_boxs rfl rfl agg_28 rfl (Nat.le_of_ble_eq_true rfl))) (by kernel_rfl)) ?_
 refine XL.call1 rfl rfl (grouped_xc _) rfl ?_
 refine zp (p_notdec rfl rfl) ?_
 refine za rfl rfl ?_
 refine zn ?_
 refine zd rfl (fun c30 => ?_) (fun c30 => ?_)
 refine zr ?_
 refine za rfl rfl ?_
 refine zn ?_
 refine zt ?_
 exact z1 rfl rfl (rI (me_3 (not_or2 g7 c3) (not_or3 g16 g21 c12) c30))
 refine zi ?_
 refine zr ?_
 refine za rfl rfl ?_
 refine zn ?_
 refine zt ?_
 exact z1 rfl rfl (rI (me_4 (not_or2 g7 c3) (not_or3 g16 g21 c12) (Decidable.not_not.1 c30)))
/-- a time signature that passes the check -/
structure Mok (m : Me) : Prop where
 count : 1 ≤ m.count ∧ m.count ≤ 64
 unit : 1 ≤ m.unit ∧ m.unit ≤ 64
 pow : m.pow
 grp : m.grouped
theorem mok_of {m : Me} (h : ¬ m.err ≠ 0) : Mok m := by
 have h0 : m.err = 0 := by omega
 unfold Me.err at h0
 split at h0
 ·omega
 ·split at h0
  ·omega
  ·rename_i h2
   split at h0
   ·omega
   ·rename_i h3
    exact ⟨by omega, ⟨by omega, by omega⟩, Decidable.not_not.1 fun k => h2 (.inr (.inr k)), Decidable.not_not.1 h3⟩
def Me.u (m : Me) : Int := 1935360 / m.unit
def Me.len (m : Me) : Int := m.count * m.u
theorem Mok.u {m : Me} (h : Mok m) : 1 ≤ m.u ∧ m.u ≤ 1935360 := by
 have := h.unit
 unfold Me.u
 exact ⟨(Int.le_ediv_iff_mul_le (by omega)).2 (by omega), Int.ediv_le_self _ (by omega)⟩
theorem Mok.len {m : Me} (h : Mok m) : 1 ≤ m.len ∧ m.len ≤ 123863040 := by
 have h1 := h.u
 have h2 := h.count
 unfold Me.len
 have h3 : 1 * 1 ≤ m.count * m.u := Int.mul_le_mul h2.1 h1.1 (by omega) (by omega)
 have h4 : m.count * m.u ≤ 64 * 1935360 := Int.mul_le_mul h2.2 h1.2 (by omega) (by omega)
 omega
theorem munit_xc (m : Me) (h : Mok m) : XC Tryz.prog 177 [.agg (Me.c m)] (fun r => r = dI m.u) := by
 have hu := h.unit
 refine xc_body callable_177 Tryz.func177 rfl rfl (Nat.le_of_ble_eq_true rfl) ?_
 refine zr ?_
 refine XL.step rfl (st_boxN 1 (l := [.d (dI m.count), .d (dI m.unit), .d (dI m.g0), .d (dI m.g1), .d (dI m.g2), .d (dI m.g3), .d (dI m.g4), .d (dI m.g5)]) rfl rfl (by kernel_rfl)) ?_
 refine za rfl rfl ?_
 refine znr ?_
 refine zp (p_fld_ptr rfl rfl fld_28_1) ?_
 refine zp (p_load_box rfl rfl sc_3 rfl rfl) ?_
 refine zp (p_quo rfl rfl rfl (by omega) (by omega) (by omega)) ?_
 refine za rfl rfl ?_
 refine zn ?_
 refine zt ?_
 exact z1 rfl rfl (rI rfl)
theorem mlength_xc (m : Me) (h : Mok m) : XC Tryz.prog 171 [.agg (Me.c m)] (fun r => r = dI m.len) := by
 have hu := h.u
 have hc := h.count
 have hl := h.len
 have hl2 : m.count * m.u = m.len := rfl
 refine xc_body callable_171 Tryz.func171 rfl rfl (Nat.le_of_ble_eq_true rfl) ?_
 refine zr ?_
 refine XL.step rfl (st_boxN 1 (l := [.d (dI m.count), .d (dI m.unit), .d (dI m.g0), .d (dI m.g1), .d (dI m.g2), .d (dI m.g3), .d (dI m.g4), .d (dI m.g5)]) rfl rfl (by kernel_rfl)) ?_
 refine za rfl rfl ?_
 refine zn ?_
 refine zs ?_
 refine xw_any [] (by kernel_rfl) (by kernel_rfl) (by kernel_rfl) (by decide) ?_
 refine yp (p_fld_ptr rfl rfl fld_28_0) ?_
 refine yp (p_load_box rfl rfl sc_3 rfl rfl) ?_
 refine yp (pure_eq (s' := .d (.agg (Me.c m))) (norm_pure (p_load_boxs rfl rfl agg_28 rfl (Nat.le_of_ble_eq_true rfl))) (by kernel_rfl)) ?_
 refine ChK.cons rfl (CStep.call rfl (munit_xc _ (by assumption)) rfl) ?_
 refine yp (p_mul rfl rfl rfl (by omega) (by omega)) ?_
 refine ya rfl rfl ?_
 refine ChK.nil ⟨by kernel_rfl, ?_⟩
 refine zt ?_
 exact z1 rfl rfl (rI rfl)
end Go.Proofs.YtcihalbakenleaaGreat
namespace Go.Proofs.YtcihalbakenleaaGreat
open Go.RowKit
def minL : List Int → Int
 | [] => 0
 | x :: r => r.foldl min x
def maxL : List Int → Int
 | [] => 0
 | x :: r => r.foldl max x
theorem minL_snoc {l : List Int} (h : l ≠ []) (x : Int) : minL (l ++ [x]) = min (minL l) x := by
 cases l with
 | nil => exact absurd rfl h
 | cons a r => simp only [minL, List.cons_append, List.foldl_append, List.foldl_cons, List.foldl_nil]
theorem maxL_snoc {l : List Int} (h : l ≠ []) (x : Int) : maxL (l ++ [x]) = max (maxL l) x := by
 cases l with
 | nil => exact absurd rfl h
 | cons a r => simp only [maxL, List.cons_append, List.foldl_append, List.foldl_cons, List.foldl_nil]
theorem take_ne {l : List Int} {k : Nat} (h : 1 ≤ k) (h2 : 0 < l.length) : l.take k ≠ [] := fun e => by
 have := congrArg List.length e
 rw [List.length_take, List.length_nil] at this
 omega
theorem minL_take {l : List Int} {k : Nat} {x : Int} (h : l[k]? = some x) (hk : 1 ≤ k) : minL (l.take (k + 1)) = min (minL (l.take k)) x := by
 rw [take_snoc h, minL_snoc (take_ne hk (by have := (List.getElem?_eq_some_iff.1 h).1; omega))]
theorem maxL_take {l : List Int} {k : Nat} {x : Int} (h : l[k]? = some x) (hk : 1 ≤ k) : maxL (l.take (k + 1)) = max (maxL (l.take k)) x := by
 rw [take_snoc h, maxL_snoc (take_ne hk (by have := (List.getElem?_eq_some_iff.1 h).1; omega))]
theorem minL_one {l : List Int} {x : Int} (h : l[0]? = some x) : minL (l.take 1) = x ∧ maxL (l.take 1) = x := by
 cases l with
 | nil => cases h
 | cons a r => cases h; exact ⟨rfl, rfl⟩
theorem sMin_xc (l : List Int) (h : 0 < l.length) : XC Tryz.prog 173 [.sl 1 (ints l)] (fun r => r = dI (minL l)) := by
 refine xc_body callable_173 Tryz.func173 rfl rfl (Nat.le_of_ble_eq_true rfl) ?_
 refine zr ?_
 refine za rfl rfl ?_
 refine zn ?_
 refine zs ?_
 refine zr ?_
 refine zm rfl rfl ?_
 refine XL.len rfl rfl rfl Tryz.underlying64 (fun hl6 => ?_)
 refine zp (p_lss rfl rfl rfl) ?_
 refine zn ?_
 refine zd rfl (fun c7 => ?_) (fun c7 => ?_)
 exfalso; omega
 refine zi ?_
 refine zs ?_
 obtain ⟨x, hx⟩ : ∃ x, l[0]? = some x := get_ex h
 refine xw_region (by kernel_rfl) ?_
 refine zm rfl rfl ?_
 refine zp (p_idx_map (k := 0) rfl rfl rfl el_64 (hx)) ?_
 refine zp (p_load_pt rfl rfl sc_3) ?_
 refine za rfl rfl ?_
 refine zn ?_
 refine zs ?_
 refine zr ?_
 refine za rfl rfl ?_
 refine zn ?_
 refine xw_block ?_
 refine xw_loop (α := Nat) (fun k => 1 ≤ k ∧ k ≤ l.length) (fun k => mkF [(0, .d (.sl 1 (ints l))), (2, .d (dI 0)), (3, .d (dI (minL (l.take k)))), (4, .d (dI k))]) (fun k => mkH []) (fun k => l.length - k) (1) (⟨Nat.le_refl _, h⟩) ?_ ?_ ?_
 exact fz ⟨sr, sr, .same (sI (minL_one hx).1.symm), sr, trivial⟩
 exact HSub.nil
 intro k hk0
 refine zs ?_
 refine zr ?_
 refine zm rfl rfl ?_
 refine zm rfl rfl ?_
 refine XL.len rfl rfl rfl Tryz.underlying64 (fun hl14 => ?_)
 refine zp (p_lss rfl rfl rfl) ?_
 refine zn ?_
 refine zd rfl (fun c15 => ?_) (fun c15 => ?_)
 obtain ⟨y, hy⟩ : ∃ y, l[k]? = some y := get_ex (by omega)
 refine zi ?_
 refine zs ?_
 refine xw_block ?_
 refine xw_region (by kernel_rfl) ?_
 refine zm rfl rfl ?_
 refine zm rfl rfl ?_
 refine zm rfl rfl ?_
 refine zp (p_idx_map rfl rfl rfl el_64 (hy)) ?_
 refine zp (p_load_pt rfl rfl sc_3) ?_
 refine zp (p_min rfl rfl rfl) ?_
 refine za rfl rfl ?_
 refine zn ?_
 refine xw_region (by kernel_rfl) ?_
 refine zm rfl rfl ?_
 refine zp (p_add rfl rfl rfl (by omega) (by omega)) ?_
 refine za rfl rfl ?_
 refine zn ?_
 exact k_round (k + 1) (by omega) (by omega) (fz ⟨sr, sr, .same (sI (by rw [minL_take hy (by omega)])), sr, trivial⟩) (HSub.nil)
 have ht : l.take k = l := List.take_of_length_le (by omega)
 refine xw_exit ?_
 refine zr ?_
 refine zm rfl rfl ?_
 refine za rfl rfl ?_
 refine zn ?_
 refine zt ?_
 exact z1 rfl rfl (rI (by rw [ht]))
theorem sMax_xc (l : List Int) (h : 0 < l.length) : XC Tryz.prog 174 [.sl 1 (ints l)] (fun r => r = dI (maxL l)) := by
 refine xc_body callable_174 Tryz.func174 rfl rfl (Nat.le_of_ble_eq_true rfl) ?_
 refine zr ?_
 refine za rfl rfl ?_
 refine zn ?_
 refine zs ?_
 refine zr ?_
 refine zm rfl rfl ?_
 refine XL.len rfl rfl rfl Tryz.underlying64 (fun hl6 => ?_)
 refine zp (p_lss rfl rfl rfl) ?_
 refine zn ?_
 refine zd rfl (fun c7 => ?_) (fun c7 => ?_)
 exfalso; omega
 refine zi ?_
 refine zs ?_
 obtain ⟨x, hx⟩ : ∃ x, l[0]? = some x := get_ex h
 refine xw_region (by kernel_rfl) ?_
 refine zm rfl rfl ?_
 refine zp (p_idx_map (k := 0) rfl rfl rfl el_64 (hx)) ?_
 refine zp (p_load_pt rfl rfl sc_3) ?_
 refine za rfl rfl ?_
 refine zn ?_
 refine zs ?_
 refine zr ?_
 refine za rfl rfl ?_
 refine zn ?_
 refine xw_block ?_
 refine xw_loop (α := Nat) (fun k => 1 ≤ k ∧ k ≤ l.length) (fun k => mkF [(0, .d (.sl 1 (ints l))), (2, .d (dI 0)), (3, .d (dI (maxL (l.take k)))), (4, .d (dI k))]) (fun k => mkH []) (fun k => l.length - k) (1) (⟨Nat.le_refl _, h⟩) ?_ ?_ ?_
 exact fz ⟨sr, sr, .same (sI (minL_one hx).2.symm), sr, trivial⟩
 exact HSub.nil
 intro k hk0
 refine zs ?_
 refine zr ?_
 refine zm rfl rfl ?_
 refine zm rfl rfl ?_
 refine XL.len rfl rfl rfl Tryz.underlying64 (fun hl14 => ?_)
 refine zp (p_lss rfl rfl rfl) ?_
 refine zn ?_
 refine zd rfl (fun c15 => ?_) (fun c15 => ?_)
 obtain ⟨y, hy⟩ : ∃ y, l[k]? = some y := get_ex (by omega)
 refine zi ?_
 refine zs ?_
 refine xw_block ?_
 refine xw_region (by kernel_rfl) ?_
 refine zm rfl rfl ?_
 refine zm rfl rfl ?_
 refine zm rfl rfl ?_
 refine zp (p_idx_map rfl rfl rfl el_64 (hy)) ?_
 refine zp (p_load_pt rfl rfl sc_3) ?_
 refine zp (p_max rfl rfl rfl) ?_
 refine za rfl rfl ?_
 refine zn ?_
 refine xw_region (by kernel_rfl) ?_
 refine zm rfl rfl ?_
 refine zp (p_add rfl rfl rfl (by omega) (by omega)) ?_
 refine za rfl rfl ?_
 refine zn ?_
 exact k_round (k + 1) (by omega) (by omega) (fz ⟨sr, sr, .same (sI (by rw [maxL_take hy (by omega)])), sr, trivial⟩) (HSub.nil)
 have ht : l.take k = l := List.take_of_length_le (by omega)
 refine xw_exit ?_
 refine zr ?_
 refine zm rfl rfl ?_
 refine za rfl rfl ?_
 refine zn ?_
 refine zt ?_
 exact z1 rfl rfl (rI (by rw [ht]))
/-- where a number stands first, or -1 -/
def idxGo (v : Int) (k : Nat) : List Int → Int
 | [] => -1
 | x :: r => if v = x then k else idxGo v (k + 1) r
theorem idxGo_hit {v x : Int} {l : List Int} {k : Nat} (h : l[k]? = some x) (hv : v = x) : idxGo v k (l.drop k) = k := by rw [drop_cons h, idxGo, if_pos hv]
theorem idxGo_next {v x : Int} {l : List Int} {k : Nat} (h : l[k]? = some x) (hv : ¬ v = x) : idxGo v k (l.drop k) = idxGo v (k + 1) (l.drop (k + 1)) := by rw [drop_cons h, idxGo, if_neg hv]
theorem idxGo_mem (v : Int) (l : List Int) : ∀ k, 0 ≤ idxGo v k l ↔ v ∈ l := by
 induction l with
 | nil => intro k; simp [idxGo]
 | cons x r ih =>
  intro k
  rw [idxGo]
  split
  ·rename_i h; simp [h]
  ·rename_i h; rw [ih, List.mem_cons]; exact ⟨.inr, fun k => k.elim (fun e => absurd e h) fun e => e⟩
theorem sIndex_xc (l : List Int) (v : Int) : XC Tryz.prog 187 [.sl 1 (ints l), .v (.int .i64 v)] (fun r => r = dI (idxGo v 0 l)) := by
 refine xc_body callable_187 Tryz.func187 rfl rfl (Nat.le_of_ble_eq_true rfl) ?_
 refine zr ?_
 refine za rfl rfl ?_
 refine zn ?_
 refine zs ?_
 refine zr ?_
 refine zm rfl rfl ?_
 refine XL.len rfl rfl rfl Tryz.underlying64 (fun hl7 => ?_)
 refine zm rfl rfl ?_
 refine zn ?_
 refine xw_block ?_
 refine xw_loop (α := Nat) (fun k => k ≤ l.length ∧ idxGo v k (l.drop k) = idxGo v 0 l) (fun k => mkF [(0, .d (.sl 1 (ints l))), (1, .d (dI v)), (7, .d (dI l.length)), (8, .d (dI k))]) (fun k => mkH []) (fun k => l.length - k) (0) (⟨Nat.zero_le _, by rw [List.drop_zero]⟩) ?_ ?_ ?_
 exact fz ⟨sr, sr, sr, sr, trivial⟩
 exact HSub.nil
 intro k hk0
 obtain ⟨hk, hgo⟩ := hk0
 refine zr ?_
 refine zp (p_lss rfl rfl rfl) ?_
 refine zn ?_
 refine zs ?_
 refine zd rfl (fun c9 => ?_) (fun c9 => ?_)
 have hk0a : k < l.length := by omega
 obtain ⟨x0, hx0⟩ := get_ex hk0a
 refine zi ?_
 refine zs ?_
 refine xw_block ?_
 refine zr ?_
 refine zm rfl rfl ?_
 refine za rfl rfl ?_
 refine znr ?_
 refine zm rfl rfl ?_
 refine zm rfl rfl ?_
 refine zm rfl rfl ?_
 refine zp (p_idx_map rfl rfl rfl el_64 hx0) ?_
 refine zp (p_load_pt rfl rfl sc_3) ?_
 refine zp (p_eql rfl rfl rfl) ?_
 refine zn ?_
 refine zd rfl (fun c16 => ?_) (fun c16 => ?_)
 refine zr ?_
 refine zm rfl rfl ?_
 refine za rfl rfl ?_
 refine zn ?_
 refine zt ?_
 exact z1 rfl rfl (rI (by rw [← hgo, idxGo_hit hx0 c16]))
 refine zi ?_
 refine xw_region (by kernel_rfl) ?_
 refine zp (p_add rfl rfl rfl (by omega) (by omega)) ?_
 refine zm rfl rfl ?_
 refine zn ?_
 exact k_round (k + 1) (⟨by omega, by rw [← idxGo_next hx0 c16]; exact hgo⟩) (by omega) (fz ⟨sr, sr, sr, sr, trivial⟩) (HSub.nil)
 have hk0b : k = l.length := by omega
 have hz : idxGo v 0 l = -1 := by rw [← hgo, hk0b, List.drop_length]; rfl
 refine xw_exit ?_
 refine zr ?_
 refine za rfl rfl ?_
 refine zn ?_
 refine zt ?_
 exact z1 rfl rfl (rI hz.symm)
theorem sContains_xc (l : List Int) (v : Int) : XC Tryz.prog 175 [.sl 1 (ints l), .v (.int .i64 v)] (fun r => r = dB (decide (v ∈ l))) := by
 refine xc_body callable_175 Tryz.func175 rfl rfl (Nat.le_of_ble_eq_true rfl) ?_
 refine zr ?_
 refine za rfl rfl ?_
 refine znr ?_
 refine zm rfl rfl ?_
 refine zm rfl rfl ?_
 refine XL.call1 rfl rfl (sIndex_xc _ _) rfl ?_
 refine zp (p_geq rfl rfl rfl) ?_
 refine za rfl rfl ?_
 refine zn ?_
 refine zt ?_
 exact z1 rfl rfl (rB (by rw [decide_eq_decide]; exact idxGo_mem v l 0))
end Go.Proofs.YtcihalbakenleaaGreat
namespace Go.Proofs.YtcihalbakenleaaGreat
open Go.RowKit
mutual
/-- a variable read as data from here on -/
def S.frp (i : Nat) (x : List D) : S → S
  | .any => .any
  | .d y => .d y
  | .ptr j k off => bif Nat.beq i j then (bif Nat.beq k 0 then .d (.pt (x.drop off)) else .any) else .ptr j k off
  | .own j => .own j
  | .sub j a b => .sub j a b
  | .agg l => .agg (S.frpL i x l)
  | .fn f a c => .fn f (S.frpL i x a) (S.frpL i x c)
  | .tup l => .tup (S.frpL i x l)
def S.frpL (i : Nat) (x : List D) : List S → List S
  | [] => []
  | s :: l => S.frp i x s :: S.frpL i x l
end
theorem S.frpL_length (i : Nat) (x : List D) (l : List S) : (S.frpL i x l).length = l.length := by
  induction l with
  | nil => rfl
  | cons a l ih => simp [S.frpL, ih]
theorem S.frpL_get (i : Nat) (x : List D) (l : List S) (j : Nat) : (S.frpL i x l)[j]? = (l[j]?).map (S.frp i x) := by
  induction l generalizing j with
  | nil => rfl
  | cons a l ih =>
    cases j with
    | zero => rfl
    | succ j => simpa [S.frpL] using ih j
theorem VS.frp {H : Hp} {β : Bt} {u : Value} {s : S} (hs : VS H β u s) (i : Nat) (x : List D) (hx : ∀ L, β i = some L → ∀ off, VD H (.pointer (some ⟨L.b, off, none⟩)) (.pt (x.drop off))) : VS H β u (s.frp i x) := by
  induction hs with
  | any u => unfold S.frp; exact .any u
  | d h => unfold S.frp; exact .d h
  | @ptr j L k off h =>
    unfold S.frp
    by_cases e : i = j
    · subst e
      rw [nbeq_same, cond_true]
      by_cases e2 : k = 0
      · subst e2
        rw [nbeq_same, cond_true, Nat.zero_mul, Nat.zero_add]
        exact .d (hx _ h off)
      · rw [nbeq_ne e2, cond_false]; exact .any _
    · rw [nbeq_ne e]; exact .ptr k off h
  | own h => unfold S.frp; exact .own h
  | sub a b h hv hab hn => unfold S.frp; exact .sub a b h hv hab hn
  | agg cs l e h ih =>
    unfold S.frp
    refine .agg cs _ (by rw [S.frpL_length]; exact e) fun j y s hy hs => ?_
    rw [S.frpL_get] at hs
    cases hl : l[j]? with
    | none => rw [hl] at hs; simp at hs
    | some s' => rw [hl] at hs; simp at hs; subst hs; exact ih j y s' hy hl
  | fn f A C a c ha hc h h' ih ih' =>
    unfold S.frp
    refine .fn f A C _ _ (by rw [S.frpL_length]; exact ha) (by rw [S.frpL_length]; exact hc) (fun j y s hy hs => ?_) (fun j y s hy hs => ?_)
    · rw [S.frpL_get] at hs
      cases hl : a[j]? with
      | none => rw [hl] at hs; simp at hs
      | some s' => rw [hl] at hs; simp at hs; subst hs; exact ih j y s' hy hl
    · rw [S.frpL_get] at hs
      cases hl : c[j]? with
      | none => rw [hl] at hs; simp at hs
      | some s' => rw [hl] at hs; simp at hs; subst hs; exact ih' j y s' hy hl
  | tup cs l e h ih =>
    unfold S.frp
    refine .tup cs _ (by rw [S.frpL_length]; exact e) fun j y s hy hs => ?_
    rw [S.frpL_get] at hs
    cases hl : l[j]? with
    | none => rw [hl] at hs; simp at hs
    | some s' => rw [hl] at hs; simp at hs; subst hs; exact ih j y s' hy hl
def S.frpG (i : Nat) (x : List D) : List (Nat × S) → List (Nat × S)
  | [] => []
  | (t, s) :: l => (t, s.frp i x) :: S.frpG i x l
theorem S.frpG_mem {i : Nat} {x : List D} {l : List (Nat × S)} {t : Nat} {s : S} (h : (t, s) ∈ S.frpG i x l) : ∃ s', (t, s') ∈ l ∧ s = s'.frp i x := by
  induction l with
  | nil => cases h
  | cons a l ih =>
    obtain ⟨t', s'⟩ := a
    rcases List.mem_cons.1 h with e | e
    · cases e; exact ⟨s', List.mem_cons_self, rfl⟩
    · obtain ⟨s2, h1, h2⟩ := ih e; exact ⟨s2, List.mem_cons_of_mem _ h1, h2⟩
def XO.frp (i : Nat) (x : List D) : XO → XO
  | .box l => .box (S.frpL i x l)
  | .row e sz l => .row e sz l
  | .ghost u l => .ghost u (S.frpG i x l)
theorem XO.isG_frp (i : Nat) (x : List D) (o : XO) : (o.frp i x).isG = o.isG := by cases o <;> rfl
def Xh.frp (h : Xh) (i : Nat) (x : List D) : Xh := fun j => bif Nat.beq i j then none else (h j).map (XO.frp i x)
def ffrp (f : Fr) (i : Nat) (x : List D) : Fr := fun j => (f j).frp i x
theorem FV.frp {n : Nat} {H : Hp} {β : Bt} {a : Act} {f : Fr} (hf : FV n H β a f) (i : Nat) (x : List D) (hx : ∀ L, β i = some L → ∀ off, VD H (.pointer (some ⟨L.b, off, none⟩)) (.pt (x.drop off))) : FV n H β a (ffrp f i x) :=
  ⟨hf.defers, hf.size, fun t ht => (hf.slot t ht).frp i x hx⟩
theorem XO.blk_frp (L : Loc) (i : Nat) (x : List D) (o : XO) : (o.frp i x).blk L = o.blk L := by cases o <;> rfl
theorem OKo.frp {base : Nat} {w : World} {H : Hp} {β : Bt} {L : Loc} {o : XO} (h : OKo base w H β L o) (i : Nat) (x : List D) (hx : ∀ L, β i = some L → ∀ off, VD H (.pointer (some ⟨L.b, off, none⟩)) (.pt (x.drop off))) : OKo base w H β L (o.frp i x) := by
  cases o with
  | box l =>
    obtain ⟨h1, h0, us, t, h2, h3, h4⟩ := h
    refine ⟨h1, by rw [S.frpL_length]; exact h0, us, t, h2, by rw [S.frpL_length]; exact h3, fun j u s hu hs => ?_⟩
    rw [S.frpL_get] at hs
    cases hl : l[j]? with
    | none => rw [hl] at hs; simp at hs
    | some s' => rw [hl] at hs; simp at hs; subst hs; exact (h4 j u s' hu hl).frp i x hx
  | row e sz l => exact h
  | ghost u l =>
    intro t s hm
    obtain ⟨s', h1, rfl⟩ := S.frpG_mem hm
    exact (h t s' h1).frp i x hx
/-- a block of the call's own that nobody else holds joins the shared memory -/
theorem Sim.shareP {E : Env} {H : Hp} {β : Bt} {h : Xh} {w : World} (s : Sim E H β h w) {i : Nat} {o : XO} {L : Loc} (ho : h i = some o) (hL : β i = some L) {g : Nat} (hg : o.blk L = some g)
    (us : Nat → Option Value) (hus : ∀ k u, us k = some u → w.cell? ⟨g, k, none⟩ = some u ∧ u.oneCell' = true) (x : List D)
    (hx : ∀ off, VD (H.plus g us) (.pointer (some ⟨L.b, off, none⟩)) (.pt (x.drop off))) : Sim E (H.plus g us) β (h.frp i x) w := by
  have hx' : ∀ L', β i = some L' → ∀ off, VD (H.plus g us) (.pointer (some ⟨L'.b, off, none⟩)) (.pt (x.drop off)) := fun L' e => by rw [hL] at e; cases e; exact hx
  have aux : ∀ j o', h.frp i x j = some o' → i ≠ j ∧ ∃ o1, h j = some o1 ∧ o' = o1.frp i x := by
    intro j o' e
    unfold Xh.frp at e
    by_cases hij : i = j
    · subst hij; rw [nbeq_same] at e; cases e
    · rw [nbeq_ne hij] at e
      cases hj : h j with
      | none => rw [hj] at e; cases e
      | some o1 => rw [hj] at e; cases e; exact ⟨hij, o1, rfl, rfl⟩
  have hgl := (s.obj i o L ho hL).lt hg
  refine ⟨s.below, s.ext.trans (Hp.plus_le _ _ _), fun b k u e => ?_, fun b k u e => ?_, fun j o' L' ho' hL' => ?_, fun j o' L' ho' hL' b hb off => ?_, fun j j' o1 o2 L1 L2 b hjj h1 h1' h2 h2' hb => ?_, fun j o' ho' hg' => ?_⟩
  rotate_left 5
  · obtain ⟨_, o1, h1, rfl⟩ := aux j o' ho'
    rw [XO.isG_frp] at hg'
    exact s.dom j o1 h1 hg'
  · rcases Hp.plus_new e with k1 | ⟨rfl, _⟩
    · exact s.new b k u k1
    · exact .inr hgl.1
  · rcases Hp.plus_new e with k1 | ⟨rfl, k2⟩
    · exact s.imm b k u k1
    · exact hus k u k2
  · obtain ⟨_, o1, h1, rfl⟩ := aux j o' ho'
    exact ((s.obj j o1 L' h1 hL').keep (Hp.plus_le _ _ _) (fun _ _ h => h) fun _ _ => rfl).frp i x hx'
  · obtain ⟨hij, o1, h1, rfl⟩ := aux j o' ho'
    rw [XO.blk_frp] at hb
    cases e : H.plus g us b off with
    | none => rfl
    | some u =>
      rcases Hp.plus_new e with k1 | ⟨rfl, _⟩
      · rw [s.sep j o1 L' h1 hL' b hb off] at k1; cases k1
      · exact absurd hb (s.inj i j o o1 L L' b hij ho h1 hL hL' hg)
  · obtain ⟨_, o3, h3, rfl⟩ := aux j o1 h1
    obtain ⟨_, o4, h4, rfl⟩ := aux j' o2 h1'
    rw [XO.blk_frp] at hb ⊢
    exact s.inj j j' o3 o4 L1 L2 b hjj h3 h4 h2 h2' hb
/-- a variable of data becomes shared -/
theorem Sim.freezeP {E : Env} {H : Hp} {β : Bt} {h : Xh} {w : World} (s : Sim E H β h w) {i : Nat} {l : List S} {ds : List D} (ho : h i = some (.box l)) (hd : datas l = some ds) (h1 : l.all (oneH h) = true) :
    ∃ H', H.le H' ∧ (∀ L, β i = some L → ∀ off, VD H' (.pointer (some ⟨L.b, off, none⟩)) (.pt (ds.drop off))) ∧ Sim E H' β (h.frp i ds) w := by
  have hl := datas_spec hd
  cases hL : β i with
  | none =>
    refine ⟨H, Hp.le.refl _, (fun L e => by cases e), ?_⟩
    have hx : ∀ L, β i = some L → ∀ off, VD H (.pointer (some ⟨L.b, off, none⟩)) (.pt (ds.drop off)) := fun L e => by rw [hL] at e; cases e
    have aux : ∀ j o', h.frp i ds j = some o' → ∃ o1, h j = some o1 ∧ o' = o1.frp i ds := by
      intro j o' e
      unfold Xh.frp at e
      by_cases hij : i = j
      · subst hij; rw [nbeq_same] at e; cases e
      · rw [nbeq_ne hij] at e
        cases hj : h j with
        | none => rw [hj] at e; cases e
        | some o1 => rw [hj] at e; cases e; exact ⟨o1, rfl, rfl⟩
    refine ⟨s.below, s.ext, s.new, s.imm, fun j o' L' ho' hL' => ?_, fun j o' L' ho' hL' b hb off => ?_, fun j j' o1 o2 L1 L2 b hjj h1 h1' h2 h2' hb => ?_, fun j o' ho' hg' => ?_⟩
    · obtain ⟨o1, h1, rfl⟩ := aux j o' ho'
      exact (s.obj j o1 L' h1 hL').frp i ds hx
    · obtain ⟨o1, h1, rfl⟩ := aux j o' ho'
      rw [XO.blk_frp] at hb
      exact s.sep j o1 L' h1 hL' b hb off
    · obtain ⟨o3, h3, rfl⟩ := aux j o1 h1
      obtain ⟨o4, h4, rfl⟩ := aux j' o2 h1'
      rw [XO.blk_frp] at hb ⊢
      exact s.inj j j' o3 o4 L1 L2 b hjj h3 h4 h2 h2' hb
    · obtain ⟨o1, h1, rfl⟩ := aux j o' ho'
      rw [XO.isG_frp] at hg'
      exact s.dom j o1 h1 hg'
  | some L =>
    obtain ⟨hb, hsz, us, t, hheap, hus, hvs⟩ := s.obj i _ L ho hL
    have hblk : (XO.box l).blk L = some L.b := rfl
    have hnone := s.sep i _ L ho hL L.b hblk
    have hget : ∀ (j : Nat) (d : D), ds[j]? = some d → ∃ u, us[j]? = some u ∧ VD H u d := by
      intro j d hj
      have hlj : l[j]? = some (.d d) := by rw [hl, List.getElem?_map, hj]; rfl
      have hlt : j < us.size := by rw [hus]; exact (List.getElem?_eq_some_iff.1 hlj).1
      exact ⟨us[j], Array.getElem?_eq_getElem hlt, vs_d (hvs j _ _ (Array.getElem?_eq_getElem hlt) hlj)⟩
    have hx : ∀ off, VD (H.plus L.b (us[·]?)) (.pointer (some ⟨L.b, off, none⟩)) (.pt (ds.drop off)) := by
      intro off
      refine .pt L.b off _ (fun j => (us[off + j]?).getD undef) (fun j d hj => ?_) (fun j d hj => ?_)
      · rw [List.getElem?_drop] at hj
        obtain ⟨u, hu, _⟩ := hget _ _ hj
        rw [Hp.plus_at hnone, hu]; rfl
      · rw [List.getElem?_drop] at hj
        obtain ⟨u, hu, hv⟩ := hget _ _ hj
        rw [hu]
        exact hv.mono (Hp.plus_le _ _ _)
    refine ⟨H.plus L.b (us[·]?), Hp.plus_le _ _ _, (fun L' e => by cases e; exact hx), s.shareP ho hL hblk _ (fun k u hu => ?_) _ hx⟩
    have hlt : k < l.length := by rw [← hus]; exact (Array.getElem?_eq_some_iff.1 hu).1
    refine ⟨by unfold World.cell?; simp only [hheap]; simpa using hu, vs_one s (hvs k u l[k] hu (List.getElem?_eq_getElem hlt)) (List.all_eq_true.1 h1 _ (List.getElem_mem hlt))⟩
section
variable {P : Program} {n : Nat} {ops : Array Oper} {rest : List Oper} {K : Kont} {f : Fr} {h : Xh} {c : Code} {i : Nat} {l : List S} {ds : List D}
theorem XL.freezeP (i : Nat) {l : List S} {ds : List D} (ho : h i = some (.box l)) (hd : datas l = some ds) (h1 : l.all (oneH h) = true) (hc : XL P n ops rest K (ffrp f i ds) (h.frp i ds)) : XL P n ops rest K f h := fun hin E H β a w hs hf => by
  obtain ⟨H', h1, h2, h3⟩ := hs.freezeP ho hd h1
  exact hc hin E H' β a w h3 ((hf.mono h1 fun _ _ h => h).frp i _ h2)
end
end Go.Proofs.YtcihalbakenleaaGreat
